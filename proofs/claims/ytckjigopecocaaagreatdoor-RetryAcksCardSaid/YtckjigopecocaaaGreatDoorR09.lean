/- The store is opened. And what follows. -/
import Derived.Test.YtckjigopecocaaaGreatDoorR08
set_option linter.unusedVariables false
set_option linter.unusedSimpArgs false
set_option maxHeartbeats 25600000
set_option maxRecDepth 100000
namespace Go.Proofs.YtckjigopecocaaaGreatDoor
namespace StoW
open Go.RowKit Go.MapKept OctMath RecMath RecW TapeMath DskW SegW MapG TapeW PendW CacheW CqW KxW
theorem amo:(Tryz.prog.info? 67).map (·.size)=some 5:=by kernel_rfl
theorem aos {a b:Nat} {ca cb:Array Value} {ta tb:TypeId} {w:World} (h:a≠b) (ha:w.heap[a]?=some (.cells ca ta (0,0))) (hb:w.heap[b]?=some (.cells cb tb (0,0))):Sem.run Tryz.prog (binOp .eql 27 (.pointer (some ⟨a,0,none⟩)) (.pointer (some ⟨b,0,none⟩))) w=.ok (.bool false) w:=by
 obtain ⟨j,A,B⟩:=Option.map_eq_some_iff.1 amo;exact run_eql_ptr_other w Tryz.underlying27 A (by rw [B]; decide) (λe=>h (congrArg Addr.block e)) ha hb
theorem amq {base:Nat} {D D2:DiskD} {R:SegD} {its:List TapeMath.Item} (now:Nat) (W:World) (h0n:R.n=0) (h0:its=[]) (hL:LaidOn D R) (hD:DiskAt base W D) (hq:Quiet D) (hfl:D.files.length<=1048576) (hnl:∀ p∈D.files,p.1.length<=1073741824) (hbase:base<=W.heap.size) (hT:TabB base W)
 (hh:R.head=qf) (hs:R.size=1024) (ht:R.txt=gq its) (hf:Fits R.b its) (hil:its.length<=1000000) (hwt:D.waits=[]) {tl:List (List UInt8×Nat)} (hn1:aho D tl) (hn2:D.find TopW.adb=none) (hn3:D.find TopW.ahi=none)
 (h2:DiskAt base W D2) (hq2:Quiet D2) (hf2:D2.files=[]) (hr2:120<=D2.room) (hw2:D2.waits=[]) (hdd:∀ k,D.foot k->¬ D2.foot k) (hnow:now<=1099511626776) (hk2:∀ p∈gz R.b its,p.2.kind≠2) (hrl:(gz R.b its).length<=1000000)
 {Post:TapeD->CqD->DiskD->Nat->Nat->World->World->Prop}
 (hall:∀ (T:TapeD) (C:CqD) (D':DiskD) (kb:Nat) (w:World) (F:Nat),TapeAt base w T->T.its=its->T.R.b=R.b->T.R.synced=T.R.e->Quiet T.D->TabB base w->base<=w.heap.size->CqAt base w C->C.qs=[]->C.db=D'.blk->DiskAt base w D'->Grows D2 D' [iy,ib,ni,ry] 120 2->(∀ k,C.foot k->¬ D'.foot k)->(∀ k,T.foot k->¬ C.foot k/\¬ D'.foot k/\k≠kb)->(¬ T.foot F/\¬ C.foot F/\¬ D'.foot F/\kb≠F)->KxAt base w ⟨kb,0⟩ D'->¬ C.foot kb->base<=F ->
  w.heap[F]?=some (.cells #[.pointer (some ⟨T.O.blk,0,none⟩),.pointer (some ⟨C.blk,0,none⟩),.pointer (some ⟨kb,0,none⟩),.int .i64 (T.R.b:Int)] 129 (0,0)) ->
  Calls Tryz.prog 8 #[.pointer (some ⟨F,0,none⟩)] w λe w'=>∃ n:Int,e=.returned (.tuple #[.int .i64 n,.int .i64 0])/\Post T C D' kb F w w'/\Mod (λk=>(C.foot k\/D'.foot k\/k=kb)\/k=F) w w')
 (hstab:∀ T C D' kb F w0 w1 w2 (M:Nat->Prop),Post T C D' kb F w0 w1->Mod M w1 w2->(∀ k,M k->k < w0.heap.size/\¬ C.foot k/\¬ D'.foot k/\k≠kb/\k≠F)->Post T C D' kb F w0 w2) :
 Calls Tryz.prog 15 #[.pointer (some ⟨D.blk,0,none⟩),.pointer (some ⟨D2.blk,0,none⟩),.int .i64 (now:Int)] W λe w'=>∃ S C D' kb F w0,e=.returned (.tuple #[.pointer (some ⟨S.blk,0,none⟩),.int .i64 0])/\StoAt base w' S/\S.now=(now:Int)/\S.cq=.pointer (some ⟨C.blk,0,none⟩)/\(S.kx=.pointer (some ⟨kb,0,none⟩)/\S.dp=.pointer (some ⟨F,0,none⟩)/\W.heap.size<=F/\(∀ k,S.foot k->k < w0.heap.size/\¬ C.foot k/\¬ D'.foot k/\k≠kb/\k≠F)/\(∀ k,C.foot k\/D'.foot k\/k=kb->D2.foot k\/W.heap.size<=k))/\S.T.its=its/\S.T.R.b=R.b/\S.T.R.synced=S.T.R.e/\S.T.D.waits=[]/\Quiet S.T.D/\S.T.D.blk=D.blk/\S.T.D.room=D.room/\(∀ n,(S.T.D.find n).isSome=(D.find n).isSome) /\
  (∃ Z b4 v,S.top=.pointer (some ⟨Z,0,none⟩)/\S.off=.pointer (some ⟨b4,0,none⟩)/\S.dk=.pointer (some ⟨D.blk,0,none⟩)/\Pair w' W.heap.size Z b4 D.blk v tl S.T/\S.P.all=uz S.T.O.recs []/\∀ b,PB Z b4 v b->¬ S.foot b/\¬ (C.foot b\/D'.foot b\/b=kb\/b=F)/\b < w0.heap.size)/\Post S.T C D' kb F w0 w'/\Mod (λk=>D.foot k\/D2.foot k) W w'/\(∀ k,S.foot k->D.foot k\/W.heap.size<=k):=by
 have dz:=zq h0;have co:=zq (PendW.new_any base W hbase);have d0:D.blk≠D2.blk:=λe=>hdd D.blk (.inl rfl) (e ▸ .inl rfl)
 have e0:=aos (w:=W) d0 hD.head h2.head;have d5:(0:Int)<=(now:Int)/\(now:Int)<=1099511626776:=by omega
 have cp:Zq (∀ w B v6,Below W.heap.size W w->w.heap[B]?=some (.cells #[.pointer none,.pointer none,.pointer none,.pointer none,.pointer none,.pointer none,v6,.pointer none,.pointer none,.pointer none,.pointer (some ⟨D.blk,0,none⟩),.int .i64 (now:Int)] 48 (0,0))->W.heap.size<=B ->
  Calls Tryz.prog 36 #[.pointer (some ⟨B,0,none⟩)] w λe w'=>e=.returned (.int .i64 0)/\∃ T Z b4 v,Lasts base B w w' D its R.b T/\Pair w' w.heap.size Z b4 D.blk v tl T /\
  w'.heap[B]?=some (.cells #[.pointer (some ⟨T.O.blk,0,none⟩),.pointer none,.pointer none,.pointer (some ⟨Z,0,none⟩),.pointer (some ⟨b4,0,none⟩),.pointer none,v6,.pointer none,.pointer none,.pointer none,.pointer (some ⟨D.blk,0,none⟩),.int .i64 (now:Int)] 48 (0,0))):=λw B v6 hb hB bj =>
  ahp _ _ _ _ _ _ _ _ w h0n h0 hB (λh=>by have:=hD.lt h; omega) hL (hD.below hb) hq hfl hnl (Nat.le_trans hbase hb.size) (hT.below hb) hh hs ht hf hil hwt hn1 hn2
 have bw:Zq (∀ w B v0 v3 v4 v6 (hw:DiskAt base w D2) (hz:base<=w.heap.size),¬ D2.foot B->w.heap[B]?=some (.cells #[v0,.pointer none,.pointer none,v3,v4,.pointer none,v6,.pointer none,.pointer none,.pointer none,.pointer (some ⟨D.blk,0,none⟩),.int .i64 (now:Int)] 48 (0,0))->Calls Tryz.prog 38 #[.pointer (some ⟨B,0,none⟩),.pointer (some ⟨D2.blk,0,none⟩)] w λe w'=>e=.returned (.int .i64 0)/\∃ C D' kb tb,aor base B kb w w' D2 D' C /\
  w'.heap[B]?=some (.cells #[v0,.pointer (some ⟨C.blk,0,none⟩),.pointer (some ⟨kb,0,none⟩),v3,v4,.pointer (some ⟨tb,0,none⟩),v6,.pointer none,.pointer none,.pointer none,.pointer (some ⟨D.blk,0,none⟩),.int .i64 (now:Int)] 48 (0,0))):=λw B v0 v3 v4 v6 hw hz b2 hB =>
  (amm _ _ _ _ _ _ _ _ _ _ _ now (by omega) w hB b2 hw hq2 hf2 hr2 hw2 hz).mono λe w' ⟨h1,C,D',kb,tb,wb,h2,_,h3⟩=>⟨h1,C,D',kb,tb,h2,h3⟩
 have bl:=zq h2;have cr:=zq hdd;have ac:=zq hbase;have cs:=zq hall;have b5:=zq hstab;have d7:=zq hk2;have d8:=zq hrl;have d9:=zq hT;have cv:=zq hn3;have HD:=zq hD;have HQ:=zq hq;have b6:Zq (∀ k,D.foot k->k < W.heap.size):=λk hk=>hD.lt hk
 clear hL hD hq hfl hnl hbase hT hh hs ht hf hil hwt hn1 hn2 hn3 h2 hq2 hf2 hr2 hw2 hdd hk2 hrl hall hstab;go_enter Tryz.func15,Tryz.ntmps15;go_wp2_with fail;refine co.o.mono ?_;rintro e w2 ⟨P,rfl,hP,ca,a6,eb,ec⟩;clear co;go_wp2_with fail;have cc:Below W.heap.size W ((w2.alloc (.cells #[.pointer none,.pointer none,.pointer none,.pointer none,.pointer none,.pointer none,.pointer (some ⟨P.blk,0,none⟩),.pointer none,.pointer none,.pointer none,.pointer (some ⟨D.blk,0,none⟩),.int .i64 (now:Int)] 48)).alloc (.cells #[.func (.func 36) #[] #[],.func (.func 37) #[] #[]] 107)):=(a6.alloc a6.size _).alloc (Nat.le_trans a6.size (by rw [World.size_alloc]; omega)) _;have cd:((w2.alloc (.cells #[.pointer none,.pointer none,.pointer none,.pointer none,.pointer none,.pointer none,.pointer (some ⟨P.blk,0,none⟩),.pointer none,.pointer none,.pointer none,.pointer (some ⟨D.blk,0,none⟩),.int .i64 (now:Int)] 48)).alloc (.cells #[.func (.func 36) #[] #[],.func (.func 37) #[] #[]] 107)).heap[w2.heap.size]?=some (.cells #[.pointer none,.pointer none,.pointer none,.pointer none,.pointer none,.pointer none,.pointer (some ⟨P.blk,0,none⟩),.pointer none,.pointer none,.pointer none,.pointer (some ⟨D.blk,0,none⟩),.int .i64 (now:Int)] 48 (0,0)):=ag ((Below.refl _ _).alloc (Nat.le_refl _) _) (heap_alloc_new w2 _)
 have cw:((w2.alloc (.cells #[.pointer none,.pointer none,.pointer none,.pointer none,.pointer none,.pointer none,.pointer (some ⟨P.blk,0,none⟩),.pointer none,.pointer none,.pointer none,.pointer (some ⟨D.blk,0,none⟩),.int .i64 (now:Int)] 48)).alloc (.cells #[.func (.func 36) #[] #[],.func (.func 37) #[] #[]] 107)).heap[w2.heap.size+1]?=some (.cells #[.func (.func 36) #[] #[],.func (.func 37) #[] #[]] 107 (0,0)):=by
  have:=heap_alloc_new (w2.alloc (.cells #[.pointer none,.pointer none,.pointer none,.pointer none,.pointer none,.pointer none,.pointer (some ⟨P.blk,0,none⟩),.pointer none,.pointer none,.pointer none,.pointer (some ⟨D.blk,0,none⟩),.int .i64 (now:Int)] 48)) (.cells #[.func (.func 36) #[] #[],.func (.func 37) #[] #[]] 107);rw [World.size_alloc] at this;exact this
 have ee:=(hP.below ((Below.refl w2.heap.size w2).alloc (Nat.le_refl _) (.cells #[.pointer none,.pointer none,.pointer none,.pointer none,.pointer none,.pointer none,.pointer (some ⟨P.blk,0,none⟩),.pointer none,.pointer none,.pointer none,.pointer (some ⟨D.blk,0,none⟩),.int .i64 (now:Int)] 48))).below ((Below.refl (w2.alloc (.cells #[.pointer none,.pointer none,.pointer none,.pointer none,.pointer none,.pointer none,.pointer (some ⟨P.blk,0,none⟩),.pointer none,.pointer none,.pointer none,.pointer (some ⟨D.blk,0,none⟩),.int .i64 (now:Int)] 48)).heap.size _).alloc (Nat.le_refl _) (.cells #[.func (.func 36) #[] #[],.func (.func 37) #[] #[]] 107));generalize (w2.alloc (.cells #[.pointer none,.pointer none,.pointer none,.pointer none,.pointer none,.pointer none,.pointer (some ⟨P.blk,0,none⟩),.pointer none,.pointer none,.pointer none,.pointer (some ⟨D.blk,0,none⟩),.int .i64 (now:Int)] 48)).alloc (.cells #[.func (.func 36) #[] #[],.func (.func 37) #[] #[]] 107)=w3 at *
 have bj:W.heap.size<=w2.heap.size:=a6.size;have ef:Zq (∀ k,P.foot k->W.heap.size<=k/\k < w2.heap.size):=λk hk=>⟨hk.elim (λe=>e ▸ eb) λe=>e ▸ ec,hP.lt hk⟩
 generalize w2.heap.size=B at *
 have cx:=zq cd;have cy:=zq cw;have ar:=zq bj;have av:=zq cc;have bm:=zq (cp.o w3 B _ cc cd bj);clear cd cw bj cc cp a6 hP;go_loopw [41] (λi wr=>∃ k:Nat,k<=2/\i=.int .i64 (k:Int)/\Zq ((k=0->wr=w3)/\(1<=k->∃ T Z b4 v,Lasts base B w3 wr D its R.b T/\Pair wr w3.heap.size Z b4 D.blk v tl T/\wr.heap[B]?=some (.cells #[.pointer (some ⟨T.O.blk,0,none⟩),.pointer none,.pointer none,.pointer (some ⟨Z,0,none⟩),.pointer (some ⟨b4,0,none⟩),.pointer none,.pointer (some ⟨P.blk,0,none⟩),.pointer none,.pointer none,.pointer none,.pointer (some ⟨D.blk,0,none⟩),.int .i64 (now:Int)] 48 (0,0))))) (λi _=>2 - (intOf i).toNat)
 case atStart=>exact ⟨0,by omega,rfl,λ_=>rfl,λh=>by omega⟩
 case round =>
  obtain ⟨k,hk,rfl,HS⟩:=hrel
  rcases (show k=0\/k=1\/k=2 by omega) with rfl | rfl | rfl
  ·
   obtain rfl:=(HS.o.1 rfl).symm;have g0:=aa cy.o 0 _ rfl;clear HS;go_wp2_with fail;refine bm.o.mono ?_;rintro e w4 ⟨rfl,X⟩;have eg:=zq X;clear X bm g0;go_wp2_with fail;go_roundw
   case rel=>exact ⟨1,by omega,by go_num,λh=>by omega,λ_=>eg.o⟩
   case measure=>simp [intOf]
  ·
   obtain ⟨T,Z,b4,tv,I,a7,al⟩:=HS.o.2 (by omega);have ce:=zq a7;clear a7;have cf:=(Array.getElem?_eq_some_iff.1 cx.o).1;have b2:¬ D.foot B:=λh=>by have:=b6.o B h; have:=ar.o; omega
   have c6:wr.heap[B+1]?=_:=di I.mod cy.o (λh=>h.elim (λh=>by have:=b6.o _ h; have:=ar.o; omega) λh=>by omega);have g1:=aa c6 1 _ rfl;have c7:=zq (ajr (D:=T.D) wr al (by rw [I.dblk]; rfl) I.tape.whole.dsk I.quiet.up (I.none cv.o));have A:=zq I;have c8:=zq al;clear I al c6 HS bm;go_wp2_with fail;refine c7.o.mono ?_;rintro e w4 ⟨rfl,da⟩;have cg:=zq da;clear da c7 g1;go_wp2_with fail;go_roundw
   case rel=>exact ⟨2,by omega,by go_num,λh=>by omega,λ_=>⟨T,Z,b4,tv,A.o.then (Mod.of_below (M:=λk=>k=B) cg.o) cf b2,ce.o.mod (M:=λ_=>False) (Mod.of_below cg.o) (λ_ _ h=>h),ag cg.o c8.o⟩⟩
   case measure=>simp [intOf]
  ·
   obtain ⟨T,Z,b4,tv,I,a7,al⟩:=HS.o.2 (by omega);have ce:=zq a7;clear a7;have A:=zq I;have c8:=zq al;have U:∀ k,D2.foot k->k < W.heap.size:=λk hk=>bl.o.lt hk
   have bz:DiskAt base wr D2:=(bl.o.below av.o).mod I.mod (λk hk h=>h.elim (λh=>cr.o k h hk) λh=>by have:=U k hk; have:=ar.o; omega);have dc:¬ D2.foot B:=λh=>by have:=U B h; have:=ar.o; omega
   have dd:=zq (bw.o wr B _ _ _ _ bz (Nat.le_trans ac.o (Nat.le_trans av.o.size I.mod.size)) dc al);clear I al HS bm U bz dc bw;go_wp2_with fail;refine dd.o.mono ?_;rintro e w5 ⟨rfl,C,D',kb,tb,b0,de⟩;have E:=zq b0;have eh:=zq de;clear b0 de dd;have cf:B < w3.heap.size:=(Array.getElem?_eq_some_iff.1 cx.o).1;have a8:=ar.o;have bo:=b6.o;have U:∀ k,D2.foot k->k < W.heap.size:=λk hk=>bl.o.lt hk
   have e2:W.heap.size<=w3.heap.size:=av.o.size;have ei:w3.heap.size<=wr.heap.size:=A.o.mod.size
   have bp:∀ k,T.foot k->D.foot k\/w3.heap.size<=k:=λk hk=>by
    rcases hk with h | h | h
    . exact .inr (A.o.fresh k (.inl h))
    . exact .inl ((A.o.dfoot k).1 h)
    . exact .inr (A.o.fresh k (.inr h))
   have J:∀ k,P.foot k->W.heap.size<=k/\k < B:=ef.o;have br:∀ k,T.foot k->k < wr.heap.size:=λk hk=>A.o.tape.lt hk
   have ba:∀ k,C.foot k->wr.heap.size<=k:=E.o.cnew;have ao:∀ k,D'.foot k->D2.foot k\/wr.heap.size<=k:=E.o.dnew
   have ci:∀ k,T.foot k->¬ (D2.foot k\/k=B):=λk hk h=>by
    rcases bp k hk with h1 | h1
    . exact h.elim (λh=>cr.o k h1 h) λh=>by have:=bo k h1; omega
    . exact h.elim (λh=>by have:=U k h; omega) λh=>by omega
   have bb:TapeAt base w5 T:=A.o.tape.mod E.o.mod ci
   have dj:PendAt base w5 P:=(ee.mod A.o.mod (λk hk h=>by
    have h1:=J k hk
    rcases h with h | h
    . have:=bo k h; omega
    . omega)).mod E.o.mod (λk hk h=>by
    have h1:=J k hk
    rcases h with h | h
    . have:=U k h; omega
    . omega)
   have ad:(∀ k,T.foot k->k≠B/\¬ P.foot k)/\∀ k,P.foot k->k≠B:=⟨λk hk=>by
    rcases bp k hk with h1 | h1
    . have h2:=bo k h1
      exact ⟨by omega,λh=>by have:=J k h; omega⟩
    . exact ⟨by omega,λh=>by have:=J k h; omega⟩,λk hk=>by have:=J k hk; omega⟩
   have bs:base<=B:=Nat.le_trans ac.o a8;have bc:TabB base w5:=((d9.o.below av.o).mod A.o.mod (λk hk=>hk.elim (λh=>HD.o.base_le h) λe=>e ▸ bs)).mod E.o.mod (λk hk=>hk.elim (λh=>bl.o.base_le h) λe=>e ▸ bs);have ej:wr.heap.size<=w5.heap.size:=E.o.mod.size;have dl:∀ k,C.foot k\/D'.foot k\/k=kb->base<=k:=λk hk=>hk.elim (λh=>by have:=ba k h; have:=ac.o; omega) λh=>h.elim (λh=>E.o.dsk.base_le h) λh=>h ▸ E.o.kx.low
   have Y:∀ k,C.foot k\/D'.foot k\/k=kb->k < w5.heap.size/\k≠B/\¬ T.foot k/\¬ P.foot k:=λk hk=>by
    have dn:k < w5.heap.size:=hk.elim (λh=>E.o.cq.lt h) λh=>h.elim (λh=>E.o.dsk.lt h) λh=>h ▸ (Array.getElem?_eq_some_iff.1 E.o.kx.cells).1
    have ho:D2.foot k\/wr.heap.size<=k:=hk.elim (λh=>.inr (ba k h)) λh=>h.elim (λh=>ao k h) λh=>.inr (h ▸ E.o.knew)
    rcases ho with h | h
    . have:=U k h
      exact ⟨dn,by omega,λh3=>ci k h3 (.inl h),λh3=>by have:=J k h3; omega⟩
    . exact ⟨dn,by omega,λh3=>by have:=br k h3; omega,λh3=>by have:=J k h3; omega⟩
   have dq:C.db=D'.blk:=by rw [E.o.db,E.o.grow.blk]
   have bd:∀ (w:World) (F:Nat),Mod (λk=>k=B\/P.foot k) w5 w->w5.heap.size<=F->w.heap[F]?=some (.cells #[.pointer (some ⟨T.O.blk,0,none⟩),.pointer (some ⟨C.blk,0,none⟩),.pointer (some ⟨kb,0,none⟩),.int .i64 (T.R.b:Int)] 129 (0,0)) ->
    Calls Tryz.prog 8 #[.pointer (some ⟨F,0,none⟩)] w λe w'=>∃ n:Int,e=.returned (.tuple #[.int .i64 n,.int .i64 0])/\Post T C D' kb F w w'/\Mod (λk=>(C.foot k\/D'.foot k\/k=kb)\/k=F) w w':=λw F hm ek hc =>
    cs.o T C D' kb w F (bb.mod hm (λk hk h=>h.elim (λh=>(ad.1 k hk).1 h) λh=>(ad.1 k hk).2 h)) A.o.its A.o.b A.o.syn A.o.quiet
     (bc.mod hm (λk hk=>hk.elim (λe=>e ▸ bs) λh=>by have:=J k h; have:=ac.o; omega)) (by have:=hm.size; have:=ac.o; omega) (E.o.cq.mod hm (λk hk h=>h.elim (λh=>(Y k (.inl hk)).2.1 h) λh=>(Y k (.inl hk)).2.2.2 h)) E.o.qs dq
     (E.o.dsk.mod hm (λk hk h=>h.elim (λh=>(Y k (.inr (.inl hk))).2.1 h) λh=>(Y k (.inr (.inl hk))).2.2.2 h)) E.o.grow E.o.away (λk hk=>⟨λh=>(Y k (.inl h)).2.2.1 hk,λh=>(Y k (.inr (.inl h))).2.2.1 hk,λh=>(Y k (.inr (.inr h))).2.2.1 hk⟩)
     ⟨λh=>by have:=br _ h; omega,λh=>by have:=(Y _ (.inl h)).1; omega,λh=>by have:=(Y _ (.inr (.inl h))).1; omega,λh=>by have:=(Y kb (.inr (.inr rfl))).1; omega⟩
     { E.o.kx with cells:=(hm.block kb (Y kb (.inr (.inr rfl))).1 (λh=>h.elim (Y kb (.inr (.inr rfl))).2.1 (Y kb (.inr (.inr rfl))).2.2.2)).trans E.o.kx.cells } E.o.kaway (by have:=ac.o; omega) hc
   have ap:∀ F w0 w1 w2 b8 b9,Post T C D' kb F w0 w1->w5.heap.size<=b8->b8 < w0.heap.size->w5.heap.size<=b9->b9 < w0.heap.size->b8≠F->b9≠F->Mod (λk=>k=b8\/k=b9) w1 w2->Post T C D' kb F w0 w2:=λF w0 w1 w2 b8 b9 hp i1 i2 i3 i4 i5 i6 hm =>
    b5.o T C D' kb F w0 w1 w2 _ hp hm (λk hk=>⟨by rcases hk with e | e <;> omega,λh=>by have:=(Y _ (.inl h)).1; rcases hk with e | e <;> omega,λh=>by have:=(Y _ (.inr (.inl h))).1; rcases hk with e | e <;> omega,λh=>by have:=(Y kb (.inr (.inr rfl))).1; rcases hk with e | e <;> omega,λh=>by rcases hk with e | e <;> omega⟩)
   have an:T.O.recs=gz R.b its:=by rw [bb.recs,A.o.its,A.o.b]
   have dr:=zq (aju (M:=λk=>C.foot k\/D'.foot k\/k=kb) (Post:=Post T C D' kb) (T:=T) (P:=P) (cb:=C.blk) (kb:=kb) (tb:=tb) _ _ _ w5 (by rw [bb.recs,A.o.its,dz.o]; rfl) (by rw [A.o.dblk]; exact eh.o) bb dj ad bc (by have:=ac.o; omega) A.o.quiet (A.o.none cv.o) (by rw [an]; exact d8.o) (by rw [an]; exact d7.o) bs dl Y bd ap);have HF:Zq ((∀ k,T.foot k->D.foot k\/w3.heap.size<=k)/\(∀ k,P.foot k->W.heap.size<=k/\k < B)/\(∀ k,C.foot k->wr.heap.size<=k)/\(∀ k,D'.foot k->D2.foot k\/wr.heap.size<=k)/\wr.heap.size<=kb/\(∀ k,C.foot k\/D'.foot k\/k=kb->k < w5.heap.size/\k≠B/\¬ T.foot k/\¬ P.foot k)/\w3.heap.size<=wr.heap.size/\wr.heap.size<=w5.heap.size/\B < w3.heap.size/\(∀ k,T.foot k->k < wr.heap.size)):=⟨bp,J,ba,ao,E.o.knew,Y,ei,ej,cf,br⟩;have ds:=zq ad
   have b1:∀ b,w3.heap.size<=b->b < wr.heap.size->¬ (D2.foot b\/b=B)/\¬ (b=B\/P.foot b\/C.foot b\/D'.foot b\/b=kb):=λb h1 h2 =>
    ⟨λh=>h.elim (λh=>by have:=U b h; omega) λh=>by omega,λh=>h.elim (λh=>by omega) λh=>h.elim (λh=>by have:=J b h; omega) λh=>h.elim (λh=>by have:=ba b h; omega) λh=>h.elim (λh=>(ao b h).elim (λh=>by have:=U b h; omega) λh=>by omega) λh=>by have:=E.o.knew; omega⟩
   have dt:Zq (∀ w6,Mod (λk=>k=B\/P.foot k\/C.foot k\/D'.foot k\/k=kb) w5 w6->Pair w6 W.heap.size Z b4 D.blk tv tl T/\∀ b,PB Z b4 tv b->¬ (b=B\/T.foot b\/P.foot b)/\¬ (C.foot b\/D'.foot b\/b=kb)/\b < wr.heap.size):=λw6 hm=>by
    have q:=ce.o;have q1:∀ b,PB Z b4 tv b->¬ (D2.foot b\/b=B)/\¬ (b=B\/P.foot b\/C.foot b\/D'.foot b\/b=kb):=λb hb=>b1 b (q.lo_all hb).1 (q.lo_all hb).2
    have q3:=(q.mod E.o.mod (λk hk=>(q1 k hk).1)).mod hm (λk hk=>(q1 k hk).2);refine ⟨{ q3 with lo:=⟨by have:=q.lo; omega,by have:=q.lo; omega,q.lo.2.2⟩,r:=ahb q3.r (by omega) },λb hb=>⟨λh=>?_,λh=>(q1 b hb).2 (.inr (.inr h)),(q.lo_all hb).2⟩⟩
    rcases h with h | h | h
    . exact (q1 b hb).2 (.inl h)
    . exact q.away _ h hb
    . exact (q1 b hb).2 (.inr (.inl h))
   clear b1;clear bp J br ba ao ci bd ap Y dl dq bc ad bb dj an U bo;go_wp2_with fail;refine dr.o.mono ?_;rintro e w6 ⟨rfl,F,b8,b9,w0,em,en,eo,X,ek,ew,dx⟩;clear dr;have dy:=zq (dt.o w6 dx);go_wp2_with fail;go_ret2;obtain ⟨f1,f2,f3,f4,f5,f6,f7,f8,f9,f10⟩:=HF.o;have ez:W.heap.size<=w3.heap.size:=av.o.size;have a8:=ar.o
   refine ⟨⟨B,T,{ P with all:=uz T.O.recs P.all },.pointer (some ⟨C.blk,0,none⟩),.pointer (some ⟨kb,0,none⟩),.pointer (some ⟨Z,0,none⟩),.pointer (some ⟨b4,0,none⟩),.pointer (some ⟨tb,0,none⟩),.pointer (some ⟨F,0,none⟩),.pointer (some ⟨b8,0,none⟩),.pointer (some ⟨b9,0,none⟩),.pointer (some ⟨T.D.blk,0,none⟩),(now:Int)⟩,C,D',kb,F,w0,rfl,
    ⟨em,en,eo,Nat.le_trans ac.o a8,ds.o⟩,rfl,rfl,⟨rfl,rfl,by omega,λk hk=>?_,λk hk=>?_⟩,A.o.its,A.o.b,A.o.syn,A.o.waits,A.o.quiet,A.o.dblk,A.o.room,A.o.find,?_,X,?_,λk hk=>?_⟩
   ·
    have h1:k < w5.heap.size:=by
     rcases hk with h | h | h
     . have h':k=B:=h; omega
     . have:=f10 k h; omega
     . have:=f2 k h; omega
    have h2:∀ j,C.foot j\/D'.foot j\/j=kb->k≠j:=λj hj e=>by
     subst e;have g:=f6 _ hj
     rcases hk with h | h | h
     . exact g.2.1 h
     . exact g.2.2.1 h
     . exact g.2.2.2 h
    exact ⟨by omega,λh=>h2 k (.inl h) rfl,λh=>h2 k (.inr (.inl h)) rfl,λh=>h2 kb (.inr (.inr rfl)) h,λh=>by omega⟩
   . rcases hk with h | h | h
     . exact .inr (by have:=f3 k h; omega)
     . exact (f4 k h).imp (λh=>h) λh=>by omega
     . exact .inr (by omega)
   . refine ⟨Z,b4,tv,rfl,rfl,by show Value.pointer (some ⟨T.D.blk,0,none⟩)=_; rw [A.o.dblk],dy.o.1,by show uz T.O.recs P.all=_; rw [ca],λb hb=>?_⟩
     obtain ⟨g0,g1,g2⟩:=dy.o.2 b hb;exact ⟨g0,λh=>h.elim (λh=>g1 (.inl h)) λh=>h.elim (λh=>g1 (.inr (.inl h))) λh=>h.elim (λh=>g1 (.inr (.inr h))) λh=>by omega,by omega⟩
   . have m1:Mod (λk=>(D.foot k\/D2.foot k)\/W.heap.size<=k) W w3:=Mod.of_below av.o
     have m2:=m1.trans (A.o.mod.mono (N:=λk=>(D.foot k\/D2.foot k)\/W.heap.size<=k) λk _ h=>h.elim (λh=>.inl (.inl h)) λh=>.inr (by omega));have m3:=m2.trans (E.o.mod.mono (N:=λk=>(D.foot k\/D2.foot k)\/W.heap.size<=k) λk _ h=>h.elim (λh=>.inl (.inr h)) λh=>.inr (by omega));have m4:=m3.trans (dx.mono (N:=λk=>(D.foot k\/D2.foot k)\/W.heap.size<=k) λk _ h=>h.elim (λh=>.inr (by omega)) λh=>h.elim (λh=>.inr (f2 k h).1) λh=>h.elim (λh=>.inr (by have:=f3 k h; omega)) λh=>h.elim (λh=>(f4 k h).elim (λh=>.inl (.inr h)) λh=>.inr (by omega)) λh=>.inr (by omega));exact m4.mono λk hk h=>h.elim (λh=>h) λh=>by omega
   . rcases hk with h | h | h
     . exact .inr (by have h':k=B:=h; omega)
     . exact (f1 k h).imp (λh=>h) λh=>by omega
     . exact .inr (f2 k h).1
end StoW
namespace KxW
open Go.RowKit OctMath DskW SegW MapG CacheW NameW EntW OctW
theorem aot (a b c d:Nat) (ha:a < 4294967296) (hb:b<=1099511627776) (hc:c<=1099511627776) (hd:d < 16777216):yg (qb (a:Int) (b:Int) (c:Int) (d:Int))=true/\(uy (qb (a:Int) (b:Int) (c:Int) (d:Int))).length=20:=by
 have A:yg (qb (a:Int) (b:Int) (c:Int) (d:Int))=true:=by
  refine decide_eq_true λp hp=>?_
  simp only [qb,List.mem_cons,List.not_mem_nil,or_false] at hp
  rcases hp with rfl | rfl | rfl | rfl
  . exact ⟨Int.natCast_nonneg _,by show (a:Int) < ((1099511627776:Nat):Int); omega⟩
  . exact ⟨Int.natCast_nonneg _,by show (b:Int) < ((281474976710656:Nat):Int); omega⟩
  . exact ⟨Int.natCast_nonneg _,by show (c:Int) < ((281474976710656:Nat):Int); omega⟩
  . exact ⟨Int.natCast_nonneg _,by show (d:Int) < ((16777216:Nat):Int); omega⟩
 refine ⟨A,?_⟩;unfold uy;rw [A,if_pos rfl];simp [qb,zu,bn]
structure aso (base:Nat) (W w':World) (X:KxD) (D D':DiskD):Prop where
 kx:KxAt base w' { X with many:=X.many+1 } D'
 dsk:DiskAt base w' D'
 grows:Grows D D' [] 20 2
 mod:Mod (λk=>D.foot k\/k=X.blk) W w'
 foot:∀ k,D'.foot k->D.foot k\/W.heap.size<=k
 other:∀ m,m≠ib->m≠iy->D'.find m=D.find m
theorem asq {base:Nat} {X:KxD} {D:DiskD} (t k:List UInt8) (a b:Nat) (W:World) (h:KxAt base W X D) (hD:DiskAt base W D) (hq:Quiet D) (hbase:base<=W.heap.size) (ht:NameMath.jq t=true) (hk:RecMath.qc k=true) (htl:t.length<=1000) (hkl:k.length<=1000)
 (ha:a<=1099511627776) (hb:b<=1099511627776) (hm:X.many<=700000) (hroom:20<=D.room) (hwl:D.waits.length<=1000000) :
 Calls Tryz.prog 124 #[.pointer (some ⟨X.blk,0,none⟩),.string (S t),.string (S k),.int .i64 (a:Int),.int .i64 (b:Int)] W λe w'=>e=.returned (.int .i64 0)/\∃ D',aso base W w' X D D':=by
 have ad:=zq (λw=>aas t (by omega) w);rw [ht] at ad;have ak:=zq (λw=>RecW.akg k (by omega) w);rw [hk] at ak;have a8:=zq (λw=>ajt t k (by omega) (by omega) w);have ba:=ajs t k;generalize ade t k=n at *
 have bb:=zq (λ(w:World) (hb:Below W.heap.size W w)=>aoq (X:=X) (n % 8) (Nat.mod_lt _ (by decide)) w (h.below hb) (hD.below hb) hq);have dl:IntKind.i64.wrap ((n:Int) % 8)=((n % 8:Nat):Int):=IntWalk.i64_in _ (by omega);have dn:(decide ((a:Int) < 0))=false:=by simp
 have dp:(decide ((1099511627776:Int) < (a:Int)))=false:=by simp; omega
 have dq:(decide ((b:Int) < 0))=false:=by simp
 have dr:(decide ((1099511627776:Int) < (b:Int)))=false:=by simp; omega
 obtain ⟨fs,bc,Z⟩:=h.slots;obtain ⟨fl,bd,I⟩:=h.links;have F:=zq h;have HD:=zq hD;have HQ:=zq hq;have cf:=zq hbase;have cg:=zq bc;have ab:=zq Z;have bh:=zq I;have ci:=zq hwl;have da:IntKind.i64.wrap ((X.many:Int) * 20)=((20 * X.many:Nat):Int):=by rw [IntWalk.i64_in _ (by omega)]; omega
 have ds:IntKind.i64.wrap ((X.many:Int)+1)=((X.many+1:Nat):Int):=by rw [IntWalk.i64_in _ (by omega)]; omega
 have cj:IntKind.i64.wrap (3 * ((n:Int) % 8))=((3 * (n % 8):Nat):Int):=by rw [IntWalk.i64_in _ (by omega)]; omega
 have bj:=zq (λ(s:List UInt8) (hs:s.length=20) (w:World) (hb:Below W.heap.size W w)=>agd iy fl s w (hD.below hb) hq bd (20 * X.many) I.symm (by intro e; rw [e] at hs; cases hs) (by omega) (by rw [hs]; exact hroom) (by omega) (Nat.le_trans hbase hb.size));have HM:=zq hm;have HN:=zq ba;have HA:=zq ha;have HB:=zq hb;clear h hD hq hbase ht hk htl hkl hroom hwl bc Z bd I hm ba ha hb;go_enter Tryz.func124,Tryz.ntmps124;go_wp2_with fail;refine (ad.o _).mono ?_;rintro e w1 ⟨rfl,hb⟩;have al:=zq hb;clear hb ad;go_wp2_with fail;refine (ak.o _).mono ?_;rintro e w2 ⟨rfl,hb⟩;have am:=zq (al.o.trans (hb.mono al.o.size));clear hb ak al;go_wp2_with fail;refine (a8.o _).mono ?_;rintro e w3 ⟨rfl,hb⟩;have J:=zq (am.o.trans (hb.mono am.o.size));clear hb a8 am;go_wp2_with fail;refine (bb.o _ J.o).mono ?_;rintro e w4 ⟨u,rfl,hu,hb⟩;have an:=zq (J.o.trans (hb.mono J.o.size));clear hb bb J;obtain ⟨l1,l2⟩:=aot n a b u HN.o HA.o HB.o hu;have ao:=zq (λw=>aoo (n:Int) (a:Int) (b:Int) (u:Int) (by have:=HN.o; omega) (by have:=HA.o; omega) (by have:=HB.o; omega) (by omega) w);rw [l1] at ao;generalize uy (qb (n:Int) (a:Int) (b:Int) (u:Int))=s at *
 have HS:=zq l2;clear l1 l2;go_wp2_with fail;refine (ao.o _).mono ?_;rintro e w5 ⟨rfl,hb⟩;have O:=zq (an.o.trans (hb.mono an.o.size));clear hb ao an;go_upto_region 13 with fail
 have c5:w5.heap[X.blk]?=some (.cells #[.pointer (some ⟨D.blk,0,none⟩),.int .i64 (X.many:Int)] 238 (0,0)):=(F.o.below O.o).cells;have k0:w5.drew.cell? ⟨X.blk,0,none⟩=some (.pointer (some ⟨D.blk,0,none⟩)):=by rw [Lib.cell_of_heap (show w5.drew.heap[X.blk]?=_ from c5)]; rfl
 have k1:w5.drew.cell? ⟨X.blk,1,none⟩=some (.int .i64 (X.many:Int)):=by rw [Lib.cell_of_heap (show w5.drew.heap[X.blk]?=_ from c5)]; rfl
 clear c5;have ap:=zq (bj.o s HS.o w5.drew (O.o.drew));rw [show S iy=⟨#[120,45,108,105,110,107,115]⟩ from rfl,HS.o] at ap;clear bj;refine GrowM.jl (by kernel_rfl) ?_;refine GrowM.jr 10 [none,none,none,none,none,none,none,none,none,none] (λu v=>v=u) (by kernel_rfl) (by kernel_rfl) (λ_=>rfl) (λ_ _ _ h k=>k.trans h) ?_ ?_
 . exact GrowN.jg rfl
 simp only [List.take_succ_cons,List.take_zero,List.drop_succ_cons,List.drop_zero,Nat.reduceSub]
 iterate 10
  refine GrowN.g_det rfl ?_;apply Exists.intro;refine ⟨λw hw hF=>?_,?_⟩
  . obtain rfl:=hw.symm
    clear hF;go_simp
    first | exact rfl | exact ⟨rfl,rfl⟩
  go_frame
 refine GrowN.g_nil λwz av hF=>?_
 obtain rfl:=av.symm;clear hF;refine GrowM.pu (λv w'=>v=.int .i64 0/\∃ D',DiskAt base w' D'/\Grows D D' [] 20 1/\Mod D.foot w5.drew w'/\(∀ k,D'.foot k->D.foot k\/w5.drew.heap.size<=k)/\(∃ f',D'.find iy=some f'/\f'.now=fl.now++s)/\∀ m,m≠iy->D'.find m=D.find m) (by kernel_rfl) rfl rfl ?_ ?_
 ·
  go_simp;refine ap.o.mono ?_;rintro e w' ⟨rfl,hb⟩;exact ⟨_,rfl,rfl,hb⟩
 rintro v R ⟨rfl,D1,bk,bl,bm,bo,bp,br⟩;go_frame;have co:=zq bk;have U:=zq bl;have E:Zq (Mod D.foot W R):=(Mod.of_below (M:=D.foot) O.o.drew).trans bm;have bs:Zq (∀ k,D1.foot k->D.foot k\/W.heap.size<=k):=λk hk=>(bo k hk).imp_right λh=>Nat.le_trans O.o.size h
 have cp:=zq bp;have bw:=zq br;clear bk bl bm bo bp br ap k0 k1;refine GrowM.jr 12 [none] (λu v=>v=u) (by kernel_rfl) (by kernel_rfl) (λ_=>rfl) (λ_ _ _ h k=>k.trans h) ?_ ?_
 . exact GrowN.jg rfl
 simp only [List.take_succ_cons,List.take_zero,List.drop_succ_cons,List.drop_zero,Nat.reduceSub];refine GrowN.g_det rfl ?_;apply Exists.intro;refine ⟨λw hw hF=>?_,?_⟩
 ·
  obtain rfl:=hw.symm;clear hF;go_simp
  first | exact rfl | exact ⟨rfl,rfl⟩
 go_frame;refine GrowN.g_nil λwz av hF=>?_
 obtain rfl:=av.symm;clear hF;refine GrowM.uh rfl ?_;have A:=(Array.getElem?_eq_some_iff.1 F.o.cells).1;have c6:R.heap[X.blk]?=some (.cells #[.pointer (some ⟨D.blk,0,none⟩),.int .i64 (X.many:Int)] 238 (0,0)):=(E.o.block _ A F.o.away).trans F.o.cells;have k0:R.cell? ⟨X.blk,0,none⟩=some (.pointer (some ⟨D.blk,0,none⟩)):=by rw [Lib.cell_of_heap c6]; rfl
 have k1:R.cell? ⟨X.blk,1,none⟩=some (.int .i64 (X.many:Int)):=by rw [Lib.cell_of_heap c6]; rfl
 clear c6 A;go_upto_region 16 with fail
 go_wp2_with fail
 have a1:=zq (OctW.nums_any 3 (by omega) (by omega) (some ⟨R.heap.size,0,none⟩) 1 [(X.many:Int)+1] (by simp) (λy hy=>by
  have hm:=HM.o;have e:y=(X.many:Int)+1:=by simpa using hy
  omega) (R.alloc (.cells #[.int .i64 ((X.many:Int)+1)] 3)) (λi hi=>by
  obtain rfl:i=0:=by simpa using hi
  refine ⟨_,_,rfl,?_⟩;rw [World.cell?_alloc_new]; rfl))
 have bz:ol 3 [(X.many:Int)+1]=(be 3 (X.many+1),0):=by
  have:=abz 3 ((X.many:Int)+1) (by decide) (by decide);rw [if_pos ⟨by omega,by show (X.many:Int)+1 < ((16777216:Nat):Int); have:=HM.o; omega⟩] at this;rw [show ((X.many:Int)+1).toNat=X.many+1 by omega] at this;exact this
 rw [bz] at a1;have B:Zq (Below R.heap.size R (R.alloc (.cells #[.int .i64 ((X.many:Int)+1)] 3))):=(Below.refl _ _).alloc (Nat.le_refl _) _;clear bz;refine a1.o.mono ?_;rintro e w7 ⟨rfl,hb⟩;have B:=zq (B.o.trans (hb.mono B.o.size));clear hb a1;have A:=(Array.getElem?_eq_some_iff.1 F.o.cells).1;have c7:w7.heap[X.blk]?=some (.cells #[.pointer (some ⟨D.blk,0,none⟩),.int .i64 (X.many:Int)] 238 (0,0)):=(B.o.block _ (Nat.lt_of_lt_of_le A E.o.size)).trans ((E.o.block _ A F.o.away).trans F.o.cells);have k0:w7.cell? ⟨X.blk,0,none⟩=some (.pointer (some ⟨D.blk,0,none⟩)):=by rw [Lib.cell_of_heap c7]; rfl
 clear c7 A k1;have cs:D1.find ib=some fs:=(bw.o ib (by decide)).trans cg.o;have Y:(be 3 (X.many+1)).length=3:=bn _ _;have a6:=zq (asn ib fs (be 3 (X.many+1)) (3 * (n % 8)) w7 (co.o.below B.o) U.o.quiet cs (by rw [Y,ab.o]; omega) (by intro e; rw [e] at Y; cases Y) (by rw [Y]; omega) (by rw [U.o.waits]; have:=ci.o; omega) (by have h1:=cf.o; have h2:=E.o.size; have h3:=B.o.size; omega));rw [show S ib=⟨#[120,45,115,108,111,116,115]⟩ from rfl,U.o.blk,show ((3 * (n % 8):Nat):Int)=3 * ((n:Int) % 8) by omega] at a6;rw [show ((3 * (n % 8):Nat):Int)=3 * ((n:Int) % 8) by omega] at cj;go_wp2_with fail;refine a6.o.mono ?_;rintro e w8 ⟨rfl,D2,b0,b1,b2,b3,b4,b5⟩;have cv:=zq b0;have b6:=zq (U.o.trans b1);have b7:Zq (∀ k,D2.foot k->D.foot k\/W.heap.size<=k):=λk hk=>(b3 k hk).elim (λh=>bs.o k h) λh=>.inr (Nat.le_trans E.o.size (Nat.le_trans B.o.size h))
 have b8:Zq (Mod D.foot W w8):=(((E.o.mono (N:=λk=>D.foot k\/W.heap.size<=k) (λk _ h=>.inl h)).trans (Mod.of_below (M:=λk=>D.foot k\/W.heap.size<=k) B.o)).trans (b2.mono (λk _ h=>bs.o k h))).mono (λk hk h=>h.elim (λh=>h) λh=>by omega);have cw:=zq b4;have b9:=zq b5;clear b0 b1 b2 b3 b4 b5 a6 k0;have A:=(Array.getElem?_eq_some_iff.1 F.o.cells).1;have c8:w8.heap[X.blk]?=some (.cells #[.pointer (some ⟨D.blk,0,none⟩),.int .i64 (X.many:Int)] 238 (0,0)):=(b8.o.block _ A F.o.away).trans F.o.cells;have cx:=zq c8;have k1:w8.cell? ⟨X.blk,1,none⟩=some (.int .i64 (X.many:Int)):=by rw [Lib.cell_of_heap c8]; rfl
 have f1:w8.frozen? ⟨X.blk,1,none⟩=false:=Lib.frozen_of_heap c8 1;clear c8;go_wp2_with fail;go_ret;have ca:Mod (λk=>k=X.blk) w8 (w8.setCell ⟨X.blk,1,none⟩ (.int .i64 ((X.many:Int)+1))):=jv _ _ _ _;have cb:¬ D2.foot X.blk:=λh=>(b7.o _ h).elim F.o.away λh=>by omega
 obtain ⟨f1,x1,x2⟩:=cp.o;obtain ⟨f2,y1,y2⟩:=cw.o;refine ⟨rfl,D2,⟨?_,⟨f2,y1,y2.trans ab.o⟩,⟨f1,(b9.o iy (by decide)).trans x1,by rw [x2,List.length_append,HS.o,bh.o]; show _=20 * (X.many+1); omega⟩,F.o.low,cb⟩,cv.o.mod ca (λk hk e=>cb (e ▸ hk)),b6.o,(b8.o.mono (λk _ h=>.inl h)).trans (ca.mono (λk _ h=>.inr h)),b7.o,λm h1 h2=>(b9.o m h1).trans (bw.o m h2)⟩;rw [b6.o.blk];exact heap_set1 cx.o _ rfl
end KxW
namespace CqW
open Go.RowKit Go.MapKept OctMath RecMath DskW SegW MapG CacheW EntW NameW KxW
theorem acn {t t':List UInt8} {q q' n n':Nat} (hq:q < 3) (hq':q' < 3) (hn:n<=99999999) (hn':n'<=99999999) (h:ah (ku t q) n=ah (ku t' q') n'):t=t'/\q=q':=by
 have h1:ku t q=ku t' q':=(List.append_inj' h (by rw [ada n hn,ada n' hn'])).1;have hd:∀ k < 3,Lib.decDigits k=[UInt8.ofNat (48+k)]:=λk hk=>Lib.decDigits_one (by omega)
 unfold ku at h1;rw [hd q hq,hd q' hq'] at h1;have B:=(List.append_inj' h1 rfl).1;have A:=List.append_inj' B rfl;have E:=(List.append_inj' A.1 rfl).1;refine ⟨(List.append_inj E rfl).2,?_⟩;have F:=A.2;have:q=0\/q=1\/q=2:=by omega
 have:q'=0\/q'=1\/q'=2:=by omega
 rcases ‹q=0\/q=1\/q=2› with rfl | rfl | rfl <;> rcases ‹q'=0\/q'=1\/q'=2› with rfl | rfl | rfl <;> first | rfl | (exact absurd F (by decide))
theorem afp (t:List UInt8) {q:Nat} (hq:q < 3):(ku t q).length=t.length+5:=by
 have hd:∀ k < 3,(Lib.decDigits k).length=1:=λk hk=>by rw [Lib.decDigits_one (by omega)]; rfl
 unfold ku;simp only [List.length_append,hd q hq,List.length_cons,List.length_nil];omega
theorem aav (t:List UInt8) (q n:Nat):ah (ku t q) n≠ib/\ah (ku t q) n≠iy:=by
 constructor <;> (intro h; injection h with h1 h2; exact absurd h1 (by decide))
theorem adf (t:List UInt8) (q n:Nat):ah (ku t q) n≠ni/\ah (ku t q) n≠ry:=by
 constructor <;> (intro h; injection h with h1 h2; exact absurd h1 (by decide))
def TmS (D D':DiskD):Prop:=D'.blk=D.blk/\∀ n,n=ni\/n=ry->D'.find n=D.find n
theorem TmS.refl (D:DiskD):TmS D D:=⟨rfl,λ_ _=>rfl⟩
theorem TmS.trans {D D1 D2:DiskD} (k:TmS D1 D2) (h:TmS D D1):TmS D D2:=⟨k.1.trans h.1,λn A=>(k.2 n A).trans (h.2 n A)⟩
def aee (p:Nat×Msg):List UInt8:=uy (fu (p.1:Int) ((bi p.2).length:Int) ((mi [p.2.tag]:Nat):Int) p.2.born)
def isQ (t:List UInt8) (q:Int) (p:Nat×Msg):Bool:=decide (p.2.topic=t) && decide (p.2.queue=q)
def ofQ (t:List UInt8) (q:Int) (l:List (Nat×Msg)):List UInt8:=(l.filter (isQ t q)).flatMap aee
theorem akq {t:List UInt8} {q:Int} (l:List (Nat×Msg)) {p:Nat×Msg} (h1:p.2.topic=t) (h2:p.2.queue=q):ofQ t q (l++[p])=ofQ t q l++aee p:=by
 have h:isQ t q p=true:=by unfold isQ; simp [h1,h2]
 unfold ofQ;rw [List.filter_append,List.filter_cons_of_pos h,List.filter_nil,List.flatMap_append];simp
theorem asr {t:List UInt8} {q:Int} (l:List (Nat×Msg)) {p:Nat×Msg} (h:¬ (p.2.topic=t/\p.2.queue=q)):ofQ t q (l++[p])=ofQ t q l:=by
 have h:¬ isQ t q p=true:=by unfold isQ; simpa using λh1 A=>h ⟨h1,A⟩
 unfold ofQ;rw [List.filter_append,List.filter_cons_of_neg h,List.filter_nil,List.append_nil]
theorem aou {t:List UInt8} {q:Int} {l:List (Nat×Msg)} (h:∀ p∈l,¬ (p.2.topic=t/\p.2.queue=q)):ofQ t q l=[]:=by
 have:l.filter (isQ t q)=[]:=List.filter_eq_nil_iff.2 λp hp=>by unfold isQ; simpa using λh1 A=>h p hp ⟨h1,A⟩
 unfold ofQ;rw [this]; rfl
structure aef (p:Nat×Msg):Prop where
 id:p.1<=99999999
 len:(bi p.2).length<=1024
 born:0<=p.2.born/\p.2.born<=1099511627776
 top:NameMath.jq p.2.topic=true
 tl:p.2.topic.length<=1000
 q:∃ q:Nat,p.2.queue=(q:Int)/\q < 3
theorem ab1 {p:Nat×Msg} (h:aef p):yg (fu (p.1:Int) ((bi p.2).length:Int) ((mi [p.2.tag]:Nat):Int) p.2.born)=true/\(aee p).length=20:=by
 have h1:=h.id;have F:=h.len;have E:=h.born;have I:=ab0 [p.2.tag]
 have A:yg (fu (p.1:Int) ((bi p.2).length:Int) ((mi [p.2.tag]:Nat):Int) p.2.born)=true:=by
  refine decide_eq_true λx B=>?_
  simp only [fu,List.mem_cons,List.not_mem_nil,or_false] at B
  rcases B with rfl | rfl | rfl | rfl
  . exact ⟨Int.natCast_nonneg _,by show (p.1:Int) < ((281474976710656:Nat):Int); omega⟩
  . exact ⟨Int.natCast_nonneg _,by show ((bi p.2).length:Int) < ((65536:Nat):Int); omega⟩
  . exact ⟨Int.natCast_nonneg _,by show ((mi [p.2.tag]:Nat):Int) < ((1099511627776:Nat):Int); omega⟩
  . exact ⟨E.1,by show p.2.born < ((72057594037927936:Nat):Int); omega⟩
 refine ⟨A,?_⟩;unfold aee uy;rw [A,if_pos rfl];simp [fu,zu,bn]
theorem ab2 (t:List UInt8) (q:Int):∀ (l:List (Nat×Msg)),(∀ p∈l,aef p)->(ofQ t q l).length=20 * (l.filter (isQ t q)).length
 | [],_=>rfl
 | p :: l,h=>by
   have A:=ab2 t q l (λx B=>h x (.tail _ B));unfold ofQ at *
   by_cases hp:isQ t q p=true
   . rw [List.filter_cons_of_pos hp,List.flatMap_cons,List.length_append,A,(ab1 (h p (.head _))).2,List.length_cons]; omega
   . rw [List.filter_cons_of_neg hp]; exact A
structure QueOk (D:DiskD) (x:QueD) (done:List (Nat×Msg)):Prop where
 q:∃ q:Nat,x.q=(q:Int)/\q < 3/\x.R.head=ku x.topic q
 top:NameMath.jq x.topic=true
 tl:x.topic.length<=1000
 b0:x.b0=0
 least:x.least=0
 b:x.R.b=0
 sz:x.R.size=200
 ok:zn D x.R
 only:wh D x.R
 txt:x.R.txt=ofQ x.topic x.q done
structure DisI (base:Nat) (w:World) (C:CqD) (D:DiskD) (X:KxD) (done:List (Nat×Msg)) (mk:Nat):Prop where
 cq:CqAt base w C
 dsk:DiskAt base w D
 kx:KxAt base w X D
 db:C.db=D.blk
 quiet:Quiet D
 awc:∀ k,C.foot k->¬ D.foot k
 awx:¬ C.foot X.blk
 ents:∀ p∈done,aef p
 que:∀ x∈C.qs,QueOk D x done
 uniq:C.qs.Pairwise λx y=>¬ (x.topic=y.topic/\x.q=y.q)
 has:∀ p∈done,∃ x∈C.qs,x.topic=p.2.topic/\x.q=p.2.queue
 absent:∀ (t:List UInt8) (q:Nat),q < 3->(∀ x∈C.qs,¬ (x.topic=t/\x.q=(q:Int)))->∀ n,n<=99999999->D.find (ah (ku t q) n)=none
 files:D.files.length<=4+done.length
 names:∀ p∈D.files,p.1.length<=2000
 many:X.many=mk
 waits:D.waits.length<=10+done.length+2 * mk
 src:∀ x∈C.qs,∃ p∈done,x.topic=p.2.topic/\x.q=p.2.queue
def kz (C:CqD) (D:DiskD) (X:KxD) (k:Nat):Prop:=C.foot k\/D.foot k\/k=X.blk
theorem DisI.lt {base:Nat} {w:World} {C:CqD} {D:DiskD} {X:KxD} {done:List (Nat×Msg)} {mk:Nat} (h:DisI base w C D X done mk) {k:Nat} (hk:kz C D X k):k < w.heap.size:=by
 rcases hk with hk | hk | rfl
 . exact h.cq.lt hk
 . exact h.dsk.lt hk
 . exact (Array.getElem?_eq_some_iff.1 h.kx.cells).1
theorem DisI.mod {base:Nat} {w w':World} {C:CqD} {D:DiskD} {X:KxD} {done:List (Nat×Msg)} {mk:Nat} {M:Nat->Prop} (h:DisI base w C D X done mk) (hm:Mod M w w') (hM:∀ k,kz C D X k->¬ M k):DisI base w' C D X done mk :=
 { h with cq:=h.cq.mod hm (λk hk=>hM k (.inl hk)),dsk:=h.dsk.mod hm (λk hk=>hM k (.inr (.inl hk))),
          kx:={ h.kx with cells:=(hm.block _ (Array.getElem?_eq_some_iff.1 h.kx.cells).1 (hM _ (.inr (.inr rfl)))).trans h.kx.cells } }
theorem DisI.below {base:Nat} {w w':World} {C:CqD} {D:DiskD} {X:KxD} {done:List (Nat×Msg)} {mk:Nat} (h:DisI base w C D X done mk) (hb:Below w.heap.size w w'):DisI base w' C D X done mk :=
 h.mod (M:=λ_=>False) (Mod.of_below hb) (λ_ _ h=>h)
theorem QueOk.other {D D':DiskD} {x:QueD} {done:List (Nat×Msg)} {p:Nat×Msg} {t:List UInt8} {q:Nat} (hq:q < 3) (h:QueOk D x done) (hl:0 < x.R.n->x.R.b+(x.R.n - 1) * x.R.size<=99999999) (ht:p.2.topic=t) (hpq:p.2.queue=(q:Int)) (hne:¬ (x.topic=t/\x.q=(q:Int)))
 (ho:∀ n,(∀ m,m<=99999999->n≠ah (ku t q) m)->D'.find n=D.find n):QueOk D' x (done++[p]):=by
 obtain ⟨X,h1,M,N⟩:=h.q
 have A:∀ n,n<=99999999->D'.find (ah x.R.head n)=D.find (ah x.R.head n):=λn I=>ho _ λm F e=>by
  rw [N] at e;obtain ⟨O,U⟩:=acn M hq I F e;exact hne ⟨O,by rw [h1,U]⟩
 have E:∀ i,i < x.R.n->x.R.b+i * x.R.size<=99999999:=λi B=>by
  have Y:=hl (by omega);have Z:i * x.R.size<=(x.R.n - 1) * x.R.size:=Nat.mul_le_mul_right _ (by omega);omega
 have J:∀ n,n<=99999999->D'.bytes (ah x.R.head n)=D.bytes (ah x.R.head n):=λn I=>by unfold DiskD.bytes; rw [A n I]
 refine { h with ok:=λi B=>?_,only:=λm F B=>?_,txt:=?_ }
 . rw [J _ (E i B),A _ (E i B)]; exact h.ok i B
 . rw [A m F]; exact h.only m F B
 . rw [asr done (λe=>hne ⟨e.1.symm.trans ht |>.symm ▸ rfl,e.2.symm.trans hpq⟩)]; exact h.txt
theorem QueOk.keep {D D':DiskD} {x:QueD} {done:List (Nat×Msg)} (h:QueOk D x done) (ho:∀ (t:List UInt8) (q n:Nat),D'.find (ah (ku t q) n)=D.find (ah (ku t q) n)):QueOk D' x done:=by
 obtain ⟨I,h1,J,E⟩:=h.q;refine { h with ok:=λi B=>?_,only:=λm F B=>?_ }
 ·
  have A:=h.ok i B;unfold DiskD.bytes at A ⊢;rw [E] at A ⊢;rw [ho]; exact A
 . have A:=h.only m F B
   rw [E] at A ⊢;rw [ho]; exact A
theorem aov {x:QueD} {t:List UInt8} {q:Int} (h:¬ (x.topic=t/\x.q=q)):x.key≠.agg #[.string (S t),.int .i64 q]:=λe=>by
 unfold QueD.key at e;injection e with e
 injection e with e
 injection e with e1 e2
 injection e2 with e2 _
 injection e1 with e1
 injection e2 with _ e2
 exact h ⟨OctMath.S_inj e1,e2⟩
theorem akr {base:Nat} {w w':World} {X:KxD} {D D':DiskD} {M:Nat->Prop} (h:KxAt base w X D) (hm:Mod M w w') (hM:¬ M X.blk) (hb:D'.blk=D.blk) (h1:D'.find ib=D.find ib) (h2:D'.find iy=D.find iy) (hf:∀ k,D'.foot k->D.foot k\/w.heap.size<=k):KxAt base w' X D' where
 cells:=by rw [hb]; exact (hm.block _ (Array.getElem?_eq_some_iff.1 h.cells).1 hM).trans h.cells
 slots:=by rw [h1]; exact h.slots
 links:=by rw [h2]; exact h.links
 low:=h.low
 away:=λhk=>(hf _ hk).elim h.away λA=>by have:=(Array.getElem?_eq_some_iff.1 h.cells).1; omega
structure atg (base:Nat) (W w':World) (C:CqD) (D:DiskD) (X:KxD) (done:List (Nat×Msg)) (mk:Nat) (C':CqD) (D':DiskD) (X':KxD):Prop where
 inv:DisI base w' C' D' X' done mk
 cb:C'.blk=C.blk
 db:TmS D D'
 xb:X'.blk=X.blk
 room:D'.room=D.room - 20
 foot:∀ k,kz C' D' X' k->kz C D X k\/W.heap.size<=k
 mod:Mod (kz C D X) W w'
theorem aq3 {base:Nat} {C:CqD} {D:DiskD} {X:KxD} {done:List (Nat×Msg)} {mk:Nat} (p:Nat×Msg) (t:List UInt8) (qi sz hv born:Int) (W:World) (h:DisI base W C D X done mk) (hp:aef p) (ht:p.2.topic=t) (hqi:p.2.queue=qi) (hsz:((bi p.2).length:Int)=sz) (hhv:((mi [p.2.tag]:Nat):Int)=hv) (hborn:p.2.born=born)
 (hT:TabB base W) (hbase:base<=W.heap.size) (hroom:20<=D.room) (hdl:done.length<=10000) (hmk:mk<=100000) :
 Calls Tryz.prog 123 #[.pointer (some ⟨C.blk,0,none⟩),.string (S t),.int .i64 qi,.agg #[.int .i64 (p.1:Int),.int .i64 sz,.int .i64 hv,.int .i64 born]] W λe w'=>∃ pos:Int,e=.returned (.tuple #[.int .i64 pos,.int .i64 0])/\∃ C' D',atg base W w' C D X (done++[p]) mk C' D' X:=by
 obtain ⟨q,hq,J⟩:=hp.q;have bs:qi=(q:Int):=hqi.symm.trans hq;subst bs;have am:NameMath.jq t=true:=by rw [<- ht]; exact hp.top
 have bm:t.length<=1000:=by rw [<- ht]; exact hp.tl
 obtain ⟨cd,a8⟩:=ab1 hp
 have bc:∀ w,Calls Tryz.prog 194 #[.agg #[.int .i64 (p.1:Int),.int .i64 sz,.int .i64 hv,.int .i64 born]] w λe w'=>e=.returned (.tuple #[.string (S (aee p)),.bool true])/\Below w.heap.size w w':=λw=>by
  have h1:=hp.id;have E:=hp.len;have h3:=hp.born;have h4:=ab0 [p.2.tag];have h5:=amj (p.1:Int) ((bi p.2).length:Int) ((mi [p.2.tag]:Nat):Int) p.2.born (by omega) (by omega) (by omega) (by omega) w;rw [cd] at h5;rw [<- hsz,<- hhv,<- hborn];exact h5
 have bw:D.waits.length<=1000000:=by have:=h.waits; omega
 have an:∀ y∈done++[p],aef y:=λy A=>by
  rcases List.mem_append.1 A with A | A
  . exact h.ents y A
  . rw [List.mem_singleton] at A; subst A; exact hp
 have bo:∀ k,C.foot k->k < W.heap.size:=λk hk=>h.cq.lt hk
 have ci:X.blk < W.heap.size:=h.lt (.inr (.inr rfl))
 by_cases hex:∃ x∈C.qs,x.topic=t/\x.q=(q:Int)
 ·
  obtain ⟨x,hx,Y,Z⟩:=hex;obtain ⟨l1,l2,hl⟩:=List.append_of_mem hx;have ho:=h.que x hx;have bd:x.R.txt.length=20 * (done.filter (isQ x.topic x.q)).length:=by rw [ho.txt,ab2 _ _ done h.ents]
  have cj:(done.filter (isQ x.topic x.q)).length<=done.length:=List.length_filter_le ..
  refine (aq0 t q (p.1:Int) sz hv born W h.cq h.dsk h.db h.quiet hbase hT hl ⟨Y,Z⟩ am bm J h.awc ho.ok ho.only ho.sz (by rw [bd]; omega) (by unfold SegD.e; rw [ho.b,bd]; omega) (by rw [ho.b0]; omega) (aee p) a8 bc hroom bw).mono ?_;rintro e w' ⟨rfl,R',D',B⟩;have F:=B.app;have ak:=B.row;obtain ⟨xq,b1,bj,bp⟩:=ho.q;have b2:xq=q:=by rw [b1] at Z; omega
  subst b2;have ao:∀ n,(∀ m,m<=99999999->n≠ah (ku t xq) m)->D'.find n=D.find n:=λn hn=>F.other n (by rw [bp,Y]; exact hn)
  have b3:=h.uniq;rw [hl] at b3;have O:=List.pairwise_append.1 b3;have ar:=List.pairwise_cons.1 O.2.1
  have ce:∀ y,y∈l1\/y∈l2->¬ (y.topic=t/\y.q=(xq:Int)):=λy A e=>by
   rcases A with A | A
   . exact O.2.2 y A x (.head _) ⟨e.1.trans Y.symm,e.2.trans Z.symm⟩
   . exact ar.1 y A ⟨Y.trans e.1.symm,Z.trans e.2.symm⟩
  have U:∀ y,y∈l1\/y∈l2->y∈C.qs:=λy A=>by
   rw [hl]
   rcases A with A | A
   . exact List.mem_append_left _ A
   . exact List.mem_append_right _ (.tail _ A)
  have av:∀ k,CqD.foot { C with qs:=l1++{ x with R:=R' } :: l2 } k->C.foot k\/W.heap.size<=k:=λk hk=>by
   rcases hk with hk | hk | ⟨y,A,hk⟩
   . exact .inl (.inl hk)
   . exact .inl (.inr (.inl hk))
   ·
    have M:y∈l1++{ x with R:=R' } :: l2:=A
    rcases List.mem_append.1 M with A | A
    . exact .inl (.inr (.inr ⟨y,U y (.inl A),hk⟩))
    . rcases List.mem_cons.1 A with rfl | A
      . rcases hk with hk | hk
        . exact .inl (.inr (.inr ⟨x,hx,.inl hk⟩))
        . exact (B.rfoot k hk).imp_left λE=>.inr (.inr ⟨x,hx,.inr E⟩)
      . exact .inl (.inr (.inr ⟨y,U y (.inr A),hk⟩))
  have br:QueOk D' { x with R:=R' } (done++[p]):=by
   refine ⟨⟨xq,b1,bj,by show R'.head=_; rw [ak]; exact bp⟩,ho.top,ho.tl,ho.b0,ho.least,by show R'.b=0; rw [ak]; exact ho.b,by show R'.size=200; rw [ak]; exact ho.sz,F.ok,F.only,?_⟩;show R'.txt=ofQ x.topic x.q (done++[p]);rw [akq done (ht.trans Y.symm) (hq.trans Z.symm),<- ho.txt,ak]
  refine ⟨_,rfl,{ C with qs:=l1++{ x with R:=R' } :: l2 },D',⟨⟨B.cq,B.whole.dsk,?_,h.db.trans F.blk.symm,F.quiet,?_,?_,an,?_,?_,?_,?_,?_,?_,h.many,?_,λy A=>by
   obtain ⟨y0,h0,e1,e2⟩:∃ y0∈C.qs,y0.topic=y.topic/\y0.q=y.q:=by
    rcases List.mem_append.1 (show y∈l1++{ x with R:=R' } :: l2 from A) with A | A
    . exact ⟨y,U y (.inl A),rfl,rfl⟩
    . rcases List.mem_cons.1 A with rfl | A
      . exact ⟨x,hx,rfl,rfl⟩
      . exact ⟨y,U y (.inr A),rfl,rfl⟩
   obtain ⟨r,I,e3,e4⟩:=h.src y0 h0;exact ⟨r,List.mem_append_left _ I,e1.symm.trans e3,e2.symm.trans e4⟩⟩,rfl,⟨F.blk,λn hn=>ao n λm _ e=>hn.elim (λE=>(adf t xq m).1 (e.symm.trans E)) λE=>(adf t xq m).2 (e.symm.trans E)⟩,rfl,?_,?_,?_⟩⟩
  . refine akr h.kx B.mod ?_ F.blk (ao _ λm _=>(aav t xq m).1.symm) (ao _ λm _=>(aav t xq m).2.symm) B.dfoot
    rintro (h1 | h1)
    . exact h.kx.away h1
    . exact h.awx (.inr (.inr ⟨x,hx,.inr h1⟩))
  ·
   intro k hk ba
   rcases hk with hk | hk | ⟨y,A,hk⟩
   . rcases B.dfoot k ba with E | E
     . exact h.awc k (.inl hk) E
     . have:=bo k (.inl hk); omega
   . rcases B.dfoot k ba with E | E
     . exact h.awc k (.inr (.inl hk)) E
     . have:=bo k (.inr (.inl hk)); omega
   ·
    have hold:∀ y∈C.qs,(k=y.blk\/y.R.foot k)->False:=λy A hk=>by
     rcases B.dfoot k ba with E | E
     . exact h.awc k (.inr (.inr ⟨y,A,hk⟩)) E
     . have:=bo k (.inr (.inr ⟨y,A,hk⟩)); omega
    have M:y∈l1++{ x with R:=R' } :: l2:=A
    rcases List.mem_append.1 M with A | A
    . exact hold y (U y (.inl A)) hk
    . rcases List.mem_cons.1 A with rfl | A
      . rcases hk with hk | hk
        . exact hold x hx (.inl hk)
        . exact B.whole.ap k ba hk
      . exact hold y (U y (.inr A)) hk
  . exact λhk=>(av _ hk).elim h.awx λE=>by omega
  ·
   intro y A;have M:y∈l1++{ x with R:=R' } :: l2:=A;have bk:y∈l1\/y∈l2->QueOk D' y (done++[p]):=λA=>(h.que y (U y A)).other J (λhn=>((h.cq.que y (U y A)).2.1.long hn).2.2) ht hq (ce y A) ao
   rcases List.mem_append.1 M with A | A
   . exact bk (.inl A)
   . rcases List.mem_cons.1 A with rfl | A
     . exact br
     . exact bk (.inr A)
  . exact List.pairwise_append.2 ⟨O.1,List.pairwise_cons.2 ⟨λy A=>ar.1 y A,ar.2⟩,λy A z hz=>by
     rcases List.mem_cons.1 hz with rfl | hz
     . exact O.2.2 y A x (.head _)
     . exact O.2.2 y A z (.tail _ hz)⟩
  ·
   have b6:∀ y∈C.qs,∃ z∈l1++{ x with R:=R' } :: l2,z.topic=y.topic/\z.q=y.q:=λy A=>by
    rw [hl] at A
    rcases List.mem_append.1 A with A | A
    . exact ⟨y,List.mem_append_left _ A,rfl,rfl⟩
    . rcases List.mem_cons.1 A with rfl | A
      . exact ⟨_,List.mem_append_right _ (.head _),rfl,rfl⟩
      . exact ⟨y,List.mem_append_right _ (.tail _ A),rfl,rfl⟩
   intro r I
   rcases List.mem_append.1 I with I | I
   . obtain ⟨y,A,e1,e2⟩:=h.has r I
     obtain ⟨z,hz,e3,e4⟩:=b6 y A;exact ⟨z,hz,e3.trans e1,e4.trans e2⟩
   . rw [List.mem_singleton] at I
     subst I;obtain ⟨z,hz,e3,e4⟩:=b6 x hx;exact ⟨z,hz,e3.trans (Y.trans ht.symm),e4.trans (Z.trans hq.symm)⟩
  ·
   intro t' q' a7 N n hn
   have bl:∀ y∈C.qs,¬ (y.topic=t'/\y.q=(q':Int)):=λy A=>by
    rw [hl] at A
    rcases List.mem_append.1 A with A | A
    . exact N y (List.mem_append_left _ A)
    . rcases List.mem_cons.1 A with rfl | A
      . exact N { y with R:=R' } (List.mem_append_right _ (.head _))
      . exact N y (List.mem_append_right _ (.tail _ A))
   rw [ao _ λm hm e=>by
    obtain ⟨e1,e2⟩:=acn a7 J hn hm e;exact bl x hx ⟨Y.trans e1.symm,by rw [Z,e2]⟩]
   exact h.absent t' q' a7 bl n hn
  . have:=F.files; have:=h.files; rw [List.length_append]; show _<=4+(done.length+1); omega
  . intro r I
    rcases F.names r I with E | ⟨r2,h3,h4⟩
    . rw [bp,afp _ bj] at E; have:=ho.tl; omega
    . rw [<- h4]; exact h.names r2 h3
  ·
   obtain ⟨f,o,_,hw⟩:=F.waits;rw [hw,List.length_append,List.length_append];have:=h.waits;show _+1<=10+(_+1)+_;omega
  . rw [F.room,a8]; rfl
  ·
   intro k hk
   rcases hk with hk | hk | hk
   . exact (av k hk).imp_left .inl
   . exact (B.dfoot k hk).imp_left λE=>.inr (.inl E)
   . exact .inl (.inr (.inr hk))
  . exact B.mod.mono λk _ hk=>hk.elim (λE=>.inr (.inl E)) λE=>.inl (.inr (.inr ⟨x,hx,.inr E⟩))
 ·
  have N:∀ x∈C.qs,¬ (x.topic=t/\x.q=(q:Int)):=λx hx e=>hex ⟨x,hx,e⟩
  refine (aqz t q (p.1:Int) sz hv born W h.cq h.dsk h.db h.quiet (by have:=h.files; omega) (λr I=>by have:=h.names r I; omega) hbase hT (λx hx=>aov (N x hx)) am bm J (h.absent t q J N) h.awc (aee p) a8 bc hroom bw).mono ?_;rintro e w' ⟨rfl,x,D',B⟩
  have av:∀ k,CqD.foot { C with qs:=C.qs++[x] } k->C.foot k\/W.heap.size<=k:=λk hk=>by
   rcases hk with hk | hk | ⟨y,A,hk⟩
   . exact .inl (.inl hk)
   . exact .inl (.inr (.inl hk))
   ·
    have M:y∈C.qs++[x]:=A
    rcases List.mem_append.1 M with A | A
    . exact .inl (.inr (.inr ⟨y,A,hk⟩))
    . rw [List.mem_singleton] at A
      subst A;exact .inr (B.xfoot k hk)
  refine ⟨_,rfl,{ C with qs:=C.qs++[x] },D',⟨⟨B.cq,B.dsk,?_,h.db.trans B.dblk.symm,B.quiet,B.away,?_,an,?_,?_,?_,?_,?_,?_,h.many,?_,λy A=>by
   rcases List.mem_append.1 (show y∈C.qs++[x] from A) with A | A
   . obtain ⟨r,I,e⟩:=h.src y A
     exact ⟨r,List.mem_append_left _ I,e⟩
   . rw [List.mem_singleton] at A
     subst A;exact ⟨p,List.mem_append_right _ (.head _),B.topic.trans ht.symm,B.qq.trans hq.symm⟩⟩,rfl,⟨B.dblk,λn hn=>B.other n λm _ e=>hn.elim (λE=>(adf t q m).1 (e.symm.trans E)) λE=>(adf t q m).2 (e.symm.trans E)⟩,rfl,?_,?_,?_⟩⟩
  . refine akr h.kx B.mod ?_ B.dblk (B.other _ λm _=>(aav t q m).1.symm) (B.other _ λm _=>(aav t q m).2.symm) B.dfoot
    rintro (h1 | h1)
    . exact h.awx (.inr (.inl h1))
    . exact h.kx.away h1
  . exact λhk=>(av _ hk).elim h.awx λE=>by omega
  ·
   intro y A;have M:y∈C.qs++[x]:=A
   rcases List.mem_append.1 M with A | A
   . exact (h.que y A).other J (λhn=>((h.cq.que y A).2.1.long hn).2.2) ht hq (N y A) B.other
   ·
    rw [List.mem_singleton] at A;subst A;refine ⟨⟨q,B.qq,J,by rw [B.topic]; exact B.hd⟩,by rw [B.topic]; exact am,by rw [B.topic]; exact bm,B.b0,B.least,B.b,B.sz,B.whole.ok,B.whole.only,?_⟩
    rw [akq done (ht.trans B.topic.symm) (hq.trans B.qq.symm),aou λr I e=>by
     obtain ⟨z,hz,e1,e2⟩:=h.has r I;exact N z hz ⟨e1.trans (e.1.trans B.topic),e2.trans (e.2.trans B.qq)⟩]
    rw [List.nil_append]; exact B.txt
  . refine List.pairwise_append.2 ⟨h.uniq,List.pairwise_singleton ..,λy A z hz e=>?_⟩
    rw [List.mem_singleton] at hz;subst hz;exact N y A ⟨e.1.trans B.topic,e.2.trans B.qq⟩
  ·
   intro r I
   rcases List.mem_append.1 I with I | I
   . obtain ⟨y,A,e1,e2⟩:=h.has r I
     exact ⟨y,List.mem_append_left _ A,e1,e2⟩
   . rw [List.mem_singleton] at I
     subst I;exact ⟨x,List.mem_append_right _ (.head _),B.topic.trans ht.symm,B.qq.trans hq.symm⟩
  ·
   intro t' q' a7 b7 n hn;have br:=b7 x (List.mem_append_right _ (.head _))
   rw [B.other _ λm hm e=>by
    obtain ⟨e1,e2⟩:=acn a7 J hn hm e;exact br ⟨B.topic.trans e1.symm,by rw [B.qq,e2]⟩]
   exact h.absent t' q' a7 (λy A=>b7 y (List.mem_append_left _ A)) n hn
  . have:=B.files; have:=h.files; rw [List.length_append]; show _<=4+(done.length+1); omega
  . intro r I
    rcases B.names r I with E | ⟨r2,h3,h4⟩
    . rw [afp _ J] at E; omega
    . rw [<- h4]; exact h.names r2 h3
  . rw [B.waits,List.length_append]
    have:=h.waits;show _+1<=10+(_+1)+_;omega
  . rw [B.room,a8]; rfl
  ·
   intro k hk
   rcases hk with hk | hk | hk
   . exact (av k hk).imp_left .inl
   . exact (B.dfoot k hk).imp_left λE=>.inr (.inl E)
   . exact .inl (.inr (.inr hk))
  . exact B.mod.mono λk _ hk=>hk.elim (λE=>.inl (.inr (.inl E))) λE=>.inr (.inl E)
theorem aq4 {base:Nat} {C:CqD} {D:DiskD} {X:KxD} {done:List (Nat×Msg)} {mk:Nat} (t k:List UInt8) (id:Nat) (born:Int) (W:World) (h:DisI base W C D X done mk) (ht:NameMath.jq t=true) (hk:RecMath.qc k=true) (htl:t.length<=1000) (hkl:k.length<=1000)
 (hid:id<=99999999) (hborn:0<=born/\born<=1099511627776) (hbase:base<=W.heap.size) (hroom:20<=D.room) (hdl:done.length<=10000) (hmk:mk<=100000) :
 Calls Tryz.prog 124 #[.pointer (some ⟨X.blk,0,none⟩),.string (S t),.string (S k),.int .i64 (id:Int),.int .i64 born] W λe w'=>e=.returned (.int .i64 0)/\∃ D' X',atg base W w' C D X done (mk+1) C D' X':=by
 obtain ⟨b,rfl⟩:∃ b:Nat,born=(b:Int):=⟨born.toNat,by omega⟩;refine (asq t k id b W h.kx h.dsk h.quiet hbase ht hk htl hkl (by omega) (by omega) (by have:=h.many; omega) hroom (by have:=h.waits; omega)).mono ?_;rintro e w' ⟨rfl,D',F⟩;have J:=F.grows;have I:D'.files.map (·.1)=D.files.map (·.1):=by have:=J.names; rw [List.append_nil] at this; exact this
 have B:∀ (t:List UInt8) (q n:Nat),D'.find (ah (ku t q) n)=D.find (ah (ku t q) n):=λt q n=>F.other _ (aav t q n).1 (aav t q n).2
 have M:∀ k,C.foot k->k < W.heap.size:=λk hk=>h.cq.lt hk
 refine ⟨rfl,D',{ X with many:=X.many+1 },⟨⟨h.cq.mod F.mod ?_,F.dsk,F.kx,h.db.trans J.blk.symm,J.quiet,?_,h.awx,h.ents,λx O=>(h.que x O).keep B,h.uniq,h.has,λt q R N n I=>?_,?_,?_,?_,?_,h.src⟩,rfl,⟨J.blk,λn I=>F.other n (I.elim (λe=>by rw [e]; decide) λe=>by rw [e]; decide) (I.elim (λe=>by rw [e]; decide) λe=>by rw [e]; decide)⟩,rfl,J.room,?_,?_⟩⟩
 . rintro j A (h1 | h1)
   . exact h.awc j A h1
   . rw [h1] at A; exact h.awx A
 ·
  intro j A h1
  rcases F.foot j h1 with E | E
  . exact h.awc j A E
  . have:=M j A; omega
 . rw [B]; exact h.absent t q R N n I
 . have:=congrArg List.length I; rw [List.length_map,List.length_map] at this; have:=h.files; omega
 ·
  intro r U;have h1:r.1∈D.files.map (·.1):=by rw [<- I]; exact List.mem_map.2 ⟨r,U,rfl⟩
  obtain ⟨Y,E,Z⟩:=List.mem_map.1 h1;rw [<- Z]; exact h.names Y E
 . show X.many+1=mk+1; rw [h.many]
 . rw [J.waits]; have:=h.waits; omega
 ·
  intro j A
  rcases A with A | A | A
  . exact .inl (.inl A)
  . exact (F.foot j A).imp_left λE=>.inr (.inl E)
  . exact .inl (.inr (.inr A))
 . exact F.mod.mono λj _ A=>A.elim (λE=>.inr (.inl E)) λE=>.inr (.inr E)
end CqW
namespace StoW
open Go.RowKit Go.MapKept OctMath RecMath RecW TapeMath DskW SegW MapG TapeW PendW
def aty (w1:World) (t:List UInt8) (v:Value) (w:World):Prop:=∃ g,v=.slice (some ⟨g,0,none⟩) 1 1/\w.heap[g]?=some (.cells #[.string (S t)] 9 (0,0))/\w1.heap.size<=g
theorem aow (t:List UInt8) (ht:t.length<=1048576) (g:Nat) (w:World) (h:w.heap[g]?=some (.cells #[.string (S t)] 9 (0,0))) :
 Calls Tryz.prog 122 #[.slice (some ⟨g,0,none⟩) 1 1] w λe w'=>e=.returned (.int .i64 ((NameW.mi [t]:Nat):Int))/\w'=w :=
 NameW.ahs [t] (by simp) (λl A=>by rw [List.mem_singleton] at A; subst A; omega) (some ⟨g,0,none⟩) 1 w (λi B=>by
  obtain rfl:i=0:=by simpa using B
  exact ⟨g,0,rfl,aa h 0 _ rfl⟩)
theorem aox {base B:Nat} {T:OwnD} (id:Nat) (m:Msg) (q cb xb:Nat) (sz:Int) (d:Value) (a:Option Addr) (c:Nat) (W:World) (hT:OwnAt base W T) (hB:W.heap[B]?=some (.cells #[.pointer (some ⟨T.blk,0,none⟩),.pointer (some ⟨cb,0,none⟩),.pointer (some ⟨xb,0,none⟩),d] 129 (0,0)))
 (hsz:aa2 T.recs (id:Int)=sz) {M:Nat->Prop} {I:World->Nat->World->Prop} (hM:∀ k,M k->k < W.heap.size) (hBM:¬ M B) (κ:Int) (hκ:κ=1\/κ=3) (htl:m.tag.length<=1048576) (ao:m.keys.length<=1048576) (hv:Int) (hhv:((NameW.mi [m.tag]:Nat):Int)=hv)
 (hks:∀ w,Mod M W w->Strs w a (m.keys.map S)) (hdr:∀ U j w,I U j w->I U j w.drew)
 (hkey:∀ U j (h:j < m.keys.length) w,Below W.heap.size W U->I U j w->Mod M U w->Calls Tryz.prog 124 #[.pointer (some ⟨xb,0,none⟩),.string (S m.topic),.string (S m.keys[j]),.int .i64 (id:Int),.int .i64 m.born] w λe w'=>e=.returned (.int .i64 0)/\I U (j+1) w'/\Mod M U w')
 (hadd:∀ w,Below W.heap.size W w->Calls Tryz.prog 123 #[.pointer (some ⟨cb,0,none⟩),.string (S m.topic),.int .i64 (q:Int),.agg #[.int .i64 (id:Int),.int .i64 sz,.int .i64 hv,.int .i64 m.born]] w λe w'=>∃ p:Int,e=.returned (.tuple #[.int .i64 p,.int .i64 0])/\I w 0 w'/\Mod M w w') :
 Calls Tryz.prog 56 #[.pointer (some ⟨B,0,none⟩),.int .i64 (id:Int),.agg #[.int .i64 κ,.int .i64 (q:Int),.int .i64 m.due,.int .i64 m.retry,.int .i64 m.ref,.int .i64 m.born,.string (S m.topic),.string (S m.tag),.string (S m.body),.slice a m.keys.length c]] W λe w'=>e=.returned (.int .i64 0)/\(∃ U,Below W.heap.size W U/\I U m.keys.length w')/\Mod M W w':=by
 have ab:Zq (Below W.heap.size W (W.alloc (.cells #[.int .i64 κ,.int .i64 (q:Int),.int .i64 m.due,.int .i64 m.retry,.int .i64 m.ref,.int .i64 m.born,.string (S m.topic),.string (S m.tag),.string (S m.body),.slice a m.keys.length c] 71))):=(Below.refl _ W).alloc (Nat.le_refl _) _;have ac:Zq (RecW.Boxed (W.alloc (.cells #[.int .i64 κ,.int .i64 (q:Int),.int .i64 m.due,.int .i64 m.retry,.int .i64 m.ref,.int .i64 m.born,.string (S m.topic),.string (S m.tag),.string (S m.body),.slice a m.keys.length c] 71)) W.heap.size #[.int .i64 κ,.int .i64 (q:Int),.int .i64 m.due,.int .i64 m.retry,.int .i64 m.ref,.int .i64 m.born,.string (S m.topic),.string (S m.tag),.string (S m.body),.slice a m.keys.length c]):=RecW.Boxed.new W _ _;have ad:Zq ((W.alloc (.cells #[.int .i64 κ,.int .i64 (q:Int),.int .i64 m.due,.int .i64 m.retry,.int .i64 m.ref,.int .i64 m.born,.string (S m.topic),.string (S m.tag),.string (S m.body),.slice a m.keys.length c] 71)).heap.size=W.heap.size+1):=by exact Array.size_push _
 have ba:=zq (hT.below ab.o);have O:Zq ((W.alloc (.cells #[.int .i64 κ,.int .i64 (q:Int),.int .i64 m.due,.int .i64 m.retry,.int .i64 m.ref,.int .i64 m.born,.string (S m.topic),.string (S m.tag),.string (S m.body),.slice a m.keys.length c] 71)).heap[B]?=_):=(ab.o.block B (Array.getElem?_eq_some_iff.1 hB).1).trans hB;have b0:=zq hsz;have HM:=zq hM;have am:=zq hadd;have b3:=zq hBM;have b4:=zq hks;have b5:=zq hdr;have b6:=zq hkey;have b7:Zq (∀ g w,w.heap[g]?=some (.cells #[.string (S m.tag)] 9 (0,0))->Calls Tryz.prog 122 #[.slice (some ⟨g,0,none⟩) 1 1] w λe w'=>e=.returned (.int .i64 hv)/\w'=w):=λg w h=>by rw [<- hhv]; exact aow m.tag htl g w h
 have b8:=zq ao;clear hT hB hsz hM hadd hBM htl ao hks hdr hkey hhv
 have b9:(κ != 1)=false\/((κ != 1)=true/\(κ != 3)=false):=by
  rcases hκ with h | h <;> subst h
  . exact .inl rfl
  . exact .inr ⟨rfl,rfl⟩
 clear hκ
 rcases b9 with κ1 | ⟨κ1,κ3⟩
 all_goals
  go_enter Tryz.func56,Tryz.ntmps56;go_upto_region 3 with fail
  generalize W.alloc (.cells #[.int .i64 κ,.int .i64 (q:Int),.int .i64 m.due,.int .i64 m.retry,.int .i64 m.ref,.int .i64 m.born,.string (S m.topic),.string (S m.tag),.string (S m.body),.slice a m.keys.length c] 71)=w1 at *
  obtain ⟨A,hA⟩:∃ A,W.heap.size=A:=⟨_,rfl⟩;rw [hA] at ac ad;have ap:=zq hA
  have bb:Zq (∀ w,RecW.ExtR w1.drew w->Calls Tryz.prog 57 #[.pointer (some ⟨T.blk,0,none⟩),.int .i64 (id:Int)] w λe w'=>e=.returned (.int .i64 sz)/\w'=w):=λw F=>by
   have:=size_any (id:Int) w (ba.o.below (((Below.refl w1.heap.size w1).drew).trans F));rw [b0.o] at this;exact this
  have bc:Zq (∀ w,RecW.ExtR w1.drew w->w.cell? ⟨B,0,none⟩=some (.pointer (some ⟨T.blk,0,none⟩))):=λw F=>aa (ahf F O.o) 0 _ rfl
  have HK:Zq (∀ w,RecW.ExtR w1.drew w->∀ j v,#[.int .i64 κ,.int .i64 (q:Int),.int .i64 m.due,.int .i64 m.retry,.int .i64 m.ref,.int .i64 m.born,.string (S m.topic),.string (S m.tag),.string (S m.body),.slice a m.keys.length c][j]?=some v->w.cell? ⟨A,j,none⟩=some v):=λw F j v hv=>by
   have h1:=ac.o j v hv;have h2:w.heap[A]?=w1.heap[A]?:=(((Below.refl w1.heap.size w1).drew).trans F).block A (by have:=ad.o; omega);unfold World.cell? at h1 ⊢;show (match w.heap[A]? with | _=>_)=_;rw [h2]; exact h1
  clear hA;rw [ap.o];refine GrowM.jl (by kernel_rfl) ?_;refine GrowM.jr 15 [none,none,none,none,none,none,some (.inl (.int .i64 sz)),none,none,some (.inr (λ_=>aty w1.drew m.tag)),some (.inl (.int .i64 hv)),none,none,none,some (.inr (λ_=>asj w1.drew))] RecW.ExtR (by kernel_rfl) (by kernel_rfl) RecW.ExtR.refl (λ_ _ _=>RecW.ExtR.trans) ?_ ?_
  ·
   intro K hK Y hY l v w w' hR;simp only [List.mem_cons,List.not_mem_nil,or_false] at hK
   rcases hK with rfl | rfl | rfl | rfl | rfl | rfl | rfl | rfl | rfl | rfl | rfl | rfl | rfl | rfl | rfl <;> simp only [reduceCtorEq,Option.some.injEq,Sum.inr.injEq] at hY
   iterate 2
    . subst hY; exact λ⟨g,h1,h2,h3⟩=>⟨g,h1,ahf hR h2,h3⟩
  simp only [List.take_succ_cons,List.take_zero,List.drop_succ_cons,List.drop_zero,Nat.reduceSub]
  iterate 4
   refine GrowN.g_det rfl ?_;apply Exists.intro;refine ⟨λw F E=>?_,?_⟩
   . clear E
     go_simp;exact ⟨rfl,RecW.ExtR.refl _⟩
   go_frame
  refine GrowN.g_det rfl ?_;apply Exists.intro;refine ⟨λw F E=>?_,?_⟩
  . clear E
    have c0:=bc.o w F;go_simp;exact ⟨rfl,RecW.ExtR.refl _⟩
  go_frame;refine GrowN.g_det rfl ?_;apply Exists.intro;refine ⟨λw F E=>?_,?_⟩
  . clear E
    go_simp;exact ⟨rfl,RecW.ExtR.refl _⟩
  go_frame;refine GrowN.g_con rfl (λw F E=>?_) ?_
  . clear E
    go_simp;exact (bb.o w F).mono λe w' h=>⟨_,h.1,rfl,h.2 ▸ RecW.ExtR.refl _⟩
  go_frame;refine GrowN.g_det rfl ?_;apply Exists.intro;refine ⟨λw F E=>?_,?_⟩
  . clear E
    go_simp;exact ⟨rfl,RecW.ExtR.refl _⟩
  go_frame;refine GrowN.g_det rfl ?_;apply Exists.intro;refine ⟨λw F E=>?_,?_⟩
  . clear E
    have k7:=HK.o w F 7 _ rfl;go_simp;exact ⟨rfl,RecW.ExtR.refl _⟩
  go_frame;refine GrowN.g_new rfl (λw F E=>?_) (λv9=>?_)
  . clear E
    go_simp;exact ⟨⟨_,rfl,heap_alloc_new w _,F.size⟩,(Below.refl _ w).alloc (Nat.le_refl _) _⟩
  go_frame;refine GrowN.g_con rfl (λw F E=>?_) ?_
  ·
   obtain ⟨g,hg,Z,_⟩:=E _ (.head _) (by kernel_rfl);clear E;subst hg;go_simp;exact (b7.o g w Z).mono λe w' h=>⟨_,h.1,rfl,h.2 ▸ RecW.ExtR.refl _⟩
  go_frame;refine GrowN.g_det rfl ?_;apply Exists.intro;refine ⟨λw F E=>?_,?_⟩
  . clear E
    go_simp;exact ⟨rfl,RecW.ExtR.refl _⟩
  go_frame;refine GrowN.g_det rfl ?_;apply Exists.intro;refine ⟨λw F E=>?_,?_⟩
  . clear E
    have k5:=HK.o w F 5 _ rfl;go_simp;exact ⟨rfl,RecW.ExtR.refl _⟩
  go_frame;refine GrowN.g_det rfl ?_;apply Exists.intro;refine ⟨λw F E=>?_,?_⟩
  . clear E
    go_simp;exact ⟨rfl,RecW.ExtR.refl _⟩
  go_frame;refine GrowN.g_new rfl (λw F E=>?_) (λv14=>?_)
  . clear E
    go_simp;exact ⟨⟨_,rfl,heap_alloc_new w _,F.size⟩,(Below.refl _ w).alloc (Nat.le_refl _) _⟩
  go_frame;refine GrowN.g_nil λw2 bd E=>?_
  obtain ⟨g,hg,Z,bh⟩:=E _ (.head _);clear E;subst hg;refine GrowM.pu (λv w'=>w'.heap[g]?=some (.cells #[.int .i64 (id:Int),.int .i64 sz,.int .i64 hv,.int .i64 m.born] 95 (0,0))/\Mod (λk=>k=g) w2 w') (by kernel_rfl) rfl rfl ?_ ?_
  ·
   have f0:=ae Z 0;have f1:=ae Z 1;have f2:=ae Z 2;have f3:=ae Z 3;have z0:=aa Z 0 _ rfl;have z1:=aa Z 1 _ rfl;have z2:=aa Z 2 _ rfl;have z3:=aa Z 3 _ rfl;go_simp;exact ⟨heap_setCell_same _ g 3 _ _ _ (heap_setCell_same _ g 2 _ _ _ (heap_setCell_same _ g 1 _ _ _ (heap_setCell_same _ g 0 _ _ _ Z))),((((Mod.refl (λk=>k=g) w2).setCell (.inl rfl) _).setCell (.inl rfl) _).setCell (.inl rfl) _).setCell (.inl rfl) _⟩
  rintro v w3 ⟨h3,bj⟩;go_frame;refine GrowM.uh rfl ?_;have av:RecW.ExtR w1 w2:=((Below.refl w1.heap.size w1).drew).trans bd;have bk:A < w1.heap.size:=by have:=ad.o; omega
  have an:w1.heap.size<=g:=bh;have R:Below w1.heap.size w1 w3:=Below.trans (show Below w1.heap.size w1 w2 from av) ((bj.to_below w1.heap.size av.size (λk hk=>hk ▸ an)));have a1:Zq (Below W.heap.size W w3):=ab.o.trans (R.mono ab.o.size);have b1:w3.cell? ⟨B,1,none⟩=some (.pointer (some ⟨cb,0,none⟩)):=aa ((R.block B (Array.getElem?_eq_some_iff.1 O.o).1).trans O.o) 1 _ rfl;have J:Zq (RecW.Boxed w3 A #[.int .i64 κ,.int .i64 (q:Int),.int .i64 m.due,.int .i64 m.retry,.int .i64 m.ref,.int .i64 m.born,.string (S m.topic),.string (S m.tag),.string (S m.body),.slice a m.keys.length c]):=ac.o.below R;have bl:Zq (w3.heap[B]?=_):=(R.block B (Array.getElem?_eq_some_iff.1 O.o).1).trans O.o;have k0:w3.cell? ⟨A,0,none⟩=some (.int .i64 κ):=J.o 0 _ rfl;have k1:w3.cell? ⟨A,1,none⟩=some (.int .i64 (q:Int)):=J.o 1 _ rfl;have k2:w3.cell? ⟨A,2,none⟩=some (.int .i64 m.due):=J.o 2 _ rfl;have k3:w3.cell? ⟨A,3,none⟩=some (.int .i64 m.retry):=J.o 3 _ rfl;have k4:w3.cell? ⟨A,4,none⟩=some (.int .i64 m.ref):=J.o 4 _ rfl;have k5:w3.cell? ⟨A,5,none⟩=some (.int .i64 m.born):=J.o 5 _ rfl;have k6:w3.cell? ⟨A,6,none⟩=some (.string (S m.topic)):=J.o 6 _ rfl;have k7:w3.cell? ⟨A,7,none⟩=some (.string (S m.tag)):=J.o 7 _ rfl;have k8:w3.cell? ⟨A,8,none⟩=some (.string (S m.body)):=J.o 8 _ rfl;have k9:w3.cell? ⟨A,9,none⟩=some (.slice a m.keys.length c):=J.o 9 _ rfl;have y0:w3.cell? ⟨g,0,none⟩=some (.int .i64 (id:Int)):=aa h3 0 _ rfl;have y1:w3.cell? ⟨g,1,none⟩=some (.int .i64 sz):=aa h3 1 _ rfl;have y2:w3.cell? ⟨g,2,none⟩=some (.int .i64 hv):=aa h3 2 _ rfl;have y3:w3.cell? ⟨g,3,none⟩=some (.int .i64 m.born):=aa h3 3 _ rfl;have a6:Zq (A < w3.heap.size):=Nat.lt_of_lt_of_le bk R.size;have bm:=zq (am.o w3.drew (a1.o.drew));clear h3 bj bd av Z bh an R bc HK bb bk am;go_upto_region 4 with fail
  refine GrowM.jl (by kernel_rfl) ?_;refine GrowM.jr 9 [none,none,none,none,none,none,none,none,none] (λu v=>v=u) (by kernel_rfl) (by kernel_rfl) (λ_=>rfl) (λ_ _ _ h k=>k.trans h) ?_ ?_
  . exact GrowN.jg rfl
  simp only [List.take_succ_cons,List.take_zero,List.drop_succ_cons,List.drop_zero,Nat.reduceSub]
  iterate 9
   refine GrowN.g_det rfl ?_;apply Exists.intro;refine ⟨λw F E=>?_,?_⟩
   . obtain rfl:=F.symm
     clear E;go_simp
     first | exact rfl | exact ⟨rfl,rfl⟩
   go_frame
  refine GrowN.g_nil λwz N E=>?_
  obtain rfl:=N.symm;clear E;refine GrowM.pu (λv w'=>(∃ p:Int,v=.tuple #[.int .i64 p,.int .i64 0])/\I w3.drew 0 w'/\Mod M w3.drew w') (by kernel_rfl) rfl rfl ?_ ?_
  . go_simp
    refine bm.o.mono ?_;rintro e w' ⟨p,rfl,hb⟩;exact ⟨_,rfl,⟨p,rfl⟩,hb⟩
  rintro v w4 ⟨⟨p,rfl⟩,hb⟩;go_frame;refine GrowM.jr 15 [none,none,none,none,none] (λu v=>v=u) (by kernel_rfl) (by kernel_rfl) (λ_=>rfl) (λ_ _ _ h k=>k.trans h) ?_ ?_
  . exact GrowN.jg rfl
  simp only [List.take_succ_cons,List.take_zero,List.drop_succ_cons,List.drop_zero,Nat.reduceSub]
  iterate 5
   refine GrowN.g_det rfl ?_;apply Exists.intro;refine ⟨λw F E=>?_,?_⟩
   . obtain rfl:=F.symm
     clear E;go_simp
     first | exact rfl | exact ⟨rfl,rfl⟩
   go_frame
  refine GrowN.g_nil λwz N E=>?_
  obtain rfl:=N.symm;clear E;refine GrowM.uh rfl ?_;obtain ⟨U,hU⟩:∃ U,U=w3.drew:=⟨_,rfl⟩;have cg:Zq (I U 0 w4):=by show I U 0 w4; rw [hU]; exact hb.1
  have ci:Zq (Mod M U w4):=by show Mod M U w4; rw [hU]; exact hb.2
  have ak:Zq (Below W.heap.size W U):=by show Below W.heap.size W U; rw [hU]; exact a1.o.drew
  have bo:Zq (A < U.heap.size):=by show A < U.heap.size; rw [hU]; exact a6.o
  have bp:Zq (RecW.Boxed U A #[.int .i64 κ,.int .i64 (q:Int),.int .i64 m.due,.int .i64 m.retry,.int .i64 m.ref,.int .i64 m.born,.string (S m.topic),.string (S m.tag),.string (S m.body),.slice a m.keys.length c]):=by show RecW.Boxed U A #[.int .i64 κ,.int .i64 (q:Int),.int .i64 m.due,.int .i64 m.retry,.int .i64 m.ref,.int .i64 m.born,.string (S m.topic),.string (S m.tag),.string (S m.body),.slice a m.keys.length c]; rw [hU]; exact J.o
  have br:Zq (U.heap[B]?=some (.cells #[.pointer (some ⟨T.blk,0,none⟩),.pointer (some ⟨cb,0,none⟩),.pointer (some ⟨xb,0,none⟩),d] 129 (0,0))):=by show U.heap[B]?=_; rw [hU]; exact bl.o
  have cj:Zq (RecW.Boxed w4 A #[.int .i64 κ,.int .i64 (q:Int),.int .i64 m.due,.int .i64 m.retry,.int .i64 m.ref,.int .i64 m.born,.string (S m.topic),.string (S m.tag),.string (S m.body),.slice a m.keys.length c]):=λj v e=>by
   have:=J.o j v e;rw [<- this];exact hb.2.cell (show A < w3.heap.size from a6.o) (λh=>by have h5:A < W.heap.size:=HM.o _ h; have:=ap.o; omega)
  clear hU hb bm k0 k1 k2 k3 k4 k5 k6 k7 k8 k9 y0 y1 y2 y3 b1 J bl a1 a6 ac ad ba O;have k9:w4.cell? ⟨A,9,none⟩=some (.slice a m.keys.length c):=cj.o 9 _ rfl;go_wp2_with fail;go_loopw [54] (λi wr=>∃ j:Nat,j<=m.keys.length/\i=.int .i64 (j:Int)/\Zq (I U j wr)/\Zq (Mod M U wr)) (λi _=>m.keys.length+1 - (intOf i).toNat)
  case atStart=>exact ⟨0,by omega,rfl,cg.o,ci.o⟩
  case round =>
   obtain ⟨j,hj,rfl,bs,X⟩:=hrel;have ao:=b8.o
   by_cases hlt:j < m.keys.length
   ·
    have ck:Zq (Mod M W wr):=(Mod.of_below (M:=M) ak.o).trans X.o;obtain ⟨kb,ko,rfl,bw⟩:=b4.o wr ck.o j (by rw [List.length_map]; exact hlt);rw [List.getElem_map] at bw;have bz:=zq (b6.o U j hlt wr.drew ak.o (b5.o _ _ _ bs.o) (X.o.trans (Mod.of_below (M:=M) ((Below.refl _ wr).drew))));generalize m.keys[j]=ky at *
    have a8:¬ M A:=λh=>by have h5:A < W.heap.size:=HM.o _ h; have:=ap.o; omega
    have e5:wr.drew.cell? ⟨A,5,none⟩=some (.int .i64 m.born):=(X.o.cell bo.o a8).trans (bp.o 5 _ rfl);have e6:wr.drew.cell? ⟨A,6,none⟩=some (.string (S m.topic)):=(X.o.cell bo.o a8).trans (bp.o 6 _ rfl);have b2:wr.drew.cell? ⟨B,2,none⟩=some (.pointer (some ⟨xb,0,none⟩)):=aa (w:=wr.drew) ((X.o.block B (Array.getElem?_eq_some_iff.1 br.o).1 b3.o).trans br.o) 2 _ rfl;clear a8;go_wp2_with fail;refine GrowM.jl (by kernel_rfl) ?_;refine GrowM.jr 10 [none,none,none,none,none,none,none,none,none,none] (λu v=>v=u) (by kernel_rfl) (by kernel_rfl) (λ_=>rfl) (λ_ _ _ h k=>k.trans h) ?_ ?_
    . exact GrowN.jg rfl
    simp only [List.take_succ_cons,List.take_zero,List.drop_succ_cons,List.drop_zero,Nat.reduceSub]
    iterate 10
     refine GrowN.g_det rfl ?_;apply Exists.intro;refine ⟨λw F E=>?_,?_⟩
     . obtain rfl:=F.symm
       clear E;go_simp
       first | exact rfl | exact ⟨rfl,rfl⟩
     go_frame
    refine GrowN.g_nil λwz N E=>?_
    obtain rfl:=N.symm;clear E;refine GrowM.pu (λv w'=>v=.int .i64 0/\I U (j+1) w'/\Mod M U w') (by kernel_rfl) rfl rfl ?_ ?_
    . go_simp
      refine bz.o.mono ?_;rintro e w' ⟨rfl,hb⟩;exact ⟨_,rfl,rfl,hb⟩
    rintro v w5 ⟨rfl,hb⟩;go_frame;refine GrowM.jr 12 [none] (λu v=>v=u) (by kernel_rfl) (by kernel_rfl) (λ_=>rfl) (λ_ _ _ h k=>k.trans h) ?_ ?_
    . exact GrowN.jg rfl
    simp only [List.take_succ_cons,List.take_zero,List.drop_succ_cons,List.drop_zero,Nat.reduceSub];refine GrowN.g_det rfl ?_;apply Exists.intro;refine ⟨λw F E=>?_,?_⟩
    . obtain rfl:=F.symm
      clear E;go_simp
      first | exact rfl | exact ⟨rfl,rfl⟩
    go_frame;refine GrowN.g_nil λwz N E=>?_
    obtain rfl:=N.symm;clear E;refine GrowM.uh rfl ?_;have cm:Zq (I U (j+1) w5):=hb.1;have cn:Zq (Mod M U w5):=hb.2;clear hb e5 e6 b2 bz bw;go_wp2_with fail;go_roundw
    case rel=>exact ⟨j+1,by omega,by go_num,cm,cn⟩
    case measure=>simp [intOf]; omega
   . obtain rfl:j=m.keys.length:=by omega
     go_wp2_with fail;go_ret;exact ⟨rfl,⟨U,ak.o,bs.o⟩,(Mod.of_below (M:=M) ak.o).trans X.o⟩
theorem amr {base B:Nat} {T:TapeD} (id:Nat) (m:Msg) (y:Value) (sz:Int) (x:Value) (d:Int) (W:World) (h:TapeAt base W T) (hT:TabB base W) (hbase:base<=W.heap.size) (hup:T.D.down=false)
 (hB:W.heap[B]?=some (.cells #[.pointer (some ⟨T.O.blk,0,none⟩),y,x,.int .i64 d] 129 (0,0))) (hl:T.O.recs.length<=1073741824) (hn:ma T.O.recs d=((id:Int),true)) (hsy:id < T.R.synced) (hmem:(id,m)∈T.O.recs)
 (hsz:aa2 T.O.recs (id:Int)=sz) (hszb:0<=sz/\sz<=1024/\(id:Int)<=99999999)
 {M:Nat->Prop} {J:World->Prop} (hM:∀ k,M k->k < W.heap.size/\k≠B/\¬ T.O.foot k)
 (hlk:∀ w a c,Below W.heap.size W w->Strs w a (m.keys.map S)->(∀ X,a=some X->W.heap.size<=X.block)->Calls Tryz.prog 56 #[.pointer (some ⟨B,0,none⟩),.int .i64 (id:Int),.agg #[.int .i64 m.kind,.int .i64 m.queue,.int .i64 m.due,.int .i64 m.retry,.int .i64 m.ref,.int .i64 m.born,.string (S m.topic),.string (S m.tag),.string (S m.body),.slice a m.keys.length c]] w λe w'=>e=.returned (.int .i64 0)/\J w'/\Mod M W w') :
 Calls Tryz.prog 22 #[.pointer (some ⟨B,0,none⟩)] W λe w'=>e=.returned (.tuple #[.bool true,.int .i64 0])/\∃ w3,J w3/\Mod M W w3/\Mod (λk=>k=B) w3 w' /\
  w'.heap[B]?=some (.cells #[.pointer (some ⟨T.O.blk,0,none⟩),y,x,.int .i64 ((id:Int)+sz)] 129 (0,0)):=by
 have c0:=aa hB 0 _ rfl;have c3:=aa hB 3 _ rfl;have al:=(Array.getElem?_eq_some_iff.1 hB).1;have am:(T.O.recs.map (·.1)).Pairwise (· < ·):=by rw [h.recs]; exact (ng h.fits).2
 have Y:=zq (next_any d W.drew (h.own.below ((Below.refl _ W).drew)) am hl);rw [hn] at Y;have an:Zq (∀ w,Below W.heap.size W w->Calls Tryz.prog 55 #[.pointer (some ⟨T.O.blk,0,none⟩)] w λe w'=>e=.returned (.int .i64 (T.R.synced:Int))/\w'=w):=λw hb=>TapeW.synced_any w (h.below hb)
 have ao:Zq (∀ w,Below W.heap.size W w->Calls Tryz.prog 33 #[.pointer (some ⟨T.O.blk,0,none⟩),.int .i64 (id:Int)] w λe w'=>∃ a c,e=.returned (.tuple #[.agg #[.int .i64 m.kind,.int .i64 m.queue,.int .i64 m.due,.int .i64 m.retry,.int .i64 m.ref,.int .i64 m.born,.string (S m.topic),.string (S m.tag),.string (S m.body),.slice a m.keys.length c],.int .i64 0])/\Below W.heap.size w w'/\Strs w' a (m.keys.map S)/\∀ X,a=some X->W.heap.size<=X.block):=λw hb =>
  (aci id m w (h.below hb) hup (hT.below hb) (Nat.le_trans hbase hb.size) hmem).mono λe w' ⟨a,c,h5,h6,h7,h8⟩=>⟨a,c,h5,h7.mono hb.size,h6,λX e=>Nat.le_trans hb.size (h8 X e)⟩
 have ap:=zq hlk
 have ar:Zq (∀ w2,Mod M W w2->Calls Tryz.prog 57 #[.pointer (some ⟨T.O.blk,0,none⟩),.int .i64 (id:Int)] w2 λe w'=>e=.returned (.int .i64 sz)/\w'=w2):=λw2 hm=>by
  have:=size_any (id:Int) w2 (h.own.mod hm (λk hk bb=>(hM k bb).2.2 hk));rw [hsz] at this;exact this
 have HB:=zq hB;have HM:=zq hM;have bm:(id:Int) < (T.R.synced:Int):=by omega
 have bo:(0:Int)<=sz/\sz<=1024/\(id:Int)<=99999999:=hszb;clear h hT hbase hup hB hl hn hsy hmem hsz hM hlk am hszb;go_enter Tryz.func22,Tryz.ntmps22;go_upto_region 3 with fail
 refine GrowM.jl (by kernel_rfl) ?_;refine GrowM.jr 8 [none,none,none,none,none,none,none,none] (λu v=>v=u) (by kernel_rfl) (by kernel_rfl) (λ_=>rfl) (λ_ _ _ h k=>k.trans h) ?_ ?_
 . exact GrowN.jg rfl
 simp only [List.take_succ_cons,List.take_zero,List.drop_succ_cons,List.drop_zero,Nat.reduceSub]
 iterate 8
  refine GrowN.g_det rfl ?_;apply Exists.intro;refine ⟨λw hw Z=>?_,?_⟩
  . obtain rfl:=hw.symm
    clear Z;go_simp
    first | exact rfl | exact ⟨rfl,rfl⟩
  go_frame
 refine GrowN.g_nil λwz ab Z=>?_
 obtain rfl:=ab.symm;clear Z;refine GrowM.pu (λv w'=>v=.tuple #[.int .i64 (id:Int),.bool true]/\Drawn W.drew w') (by kernel_rfl) rfl rfl ?_ ?_
 ·
  go_simp;refine Y.o.mono ?_;rintro e w' ⟨rfl,hb⟩;exact ⟨_,rfl,rfl,hb⟩
 rintro v w2 ⟨rfl,hb⟩;go_frame;refine GrowM.jr 14 [none,none,none,none,none] (λu v=>v=u) (by kernel_rfl) (by kernel_rfl) (λ_=>rfl) (λ_ _ _ h k=>k.trans h) ?_ ?_
 . exact GrowN.jg rfl
 simp only [List.take_succ_cons,List.take_zero,List.drop_succ_cons,List.drop_zero,Nat.reduceSub]
 iterate 5
  refine GrowN.g_det rfl ?_;apply Exists.intro;refine ⟨λw hw Z=>?_,?_⟩
  . obtain rfl:=hw.symm
    clear Z;go_simp
    first | exact rfl | exact ⟨rfl,rfl⟩
  go_frame
 refine GrowN.g_nil λwz ab Z=>?_
 obtain rfl:=ab.symm;clear Z;refine GrowM.uh rfl ?_;have A:Below W.heap.size W w2:=((Below.refl W.heap.size W).drew).trans (hb.below _);have bd:=zq A;have F:=zq (ao.o w2 A);have I:=zq (an.o w2 A);have d0:w2.cell? ⟨B,0,none⟩=some (.pointer (some ⟨T.O.blk,0,none⟩)):=by rw [A.cell al]; exact c0
 clear hb A Y c0 c3 ao an;generalize ((T.R.synced:Nat):Int)=sy at *
 go_wp2_with fail;refine I.o.mono ?_;rintro e b3 ⟨rfl,rfl⟩;go_wp2_with fail;refine F.o.mono ?_;rintro e w3 ⟨a,c,rfl,av,a1,a6⟩;have bh:=zq a1;have bj:=zq a6;have a7:=zq (bd.o.trans av);clear av a1 a6 F I;go_wp2_with fail;have ac:Below W.heap.size W (w3.alloc (.cells #[.int .i64 m.kind,.int .i64 m.queue,.int .i64 m.due,.int .i64 m.retry,.int .i64 m.ref,.int .i64 m.born,.string (S m.topic),.string (S m.tag),.string (S m.body),.slice a m.keys.length c] 71)):=a7.o.alloc a7.o.size _;have bk:Zq (Strs (w3.alloc (.cells #[.int .i64 m.kind,.int .i64 m.queue,.int .i64 m.due,.int .i64 m.retry,.int .i64 m.ref,.int .i64 m.born,.string (S m.topic),.string (S m.tag),.string (S m.body),.slice a m.keys.length c] 71)) a (m.keys.map S)):=Strs.below bh.o ((Below.refl _ w3).alloc (Nat.le_refl _) _);generalize w3.alloc (.cells #[.int .i64 m.kind,.int .i64 m.queue,.int .i64 m.due,.int .i64 m.retry,.int .i64 m.ref,.int .i64 m.born,.string (S m.topic),.string (S m.tag),.string (S m.body),.slice a m.keys.length c] 71)=w4 at *
 generalize w3.heap.size=g3 at *
 have N:=zq (ap.o w4 a c ac bk.o bj.o);have b4:=zq ac;clear ac ap d0;refine N.o.mono ?_;rintro e w5 ⟨rfl,hp,hm⟩;have U:=zq (ar.o w5 hm)
 have E:w5.heap[B]?=some (.cells #[.pointer (some ⟨T.O.blk,0,none⟩),y,x,.int .i64 d] 129 (0,0)):=by
  rw [hm.block B al (λh=>(HM.o B h).2.1 rfl)]; exact HB.o
 have bl:=zq E;have a8:=zq (show J w5/\Mod M W w5 from ⟨hp,hm⟩);have d0:=aa E 0 _ rfl;have d3:=aa E 3 _ rfl;have f3:=ae E 3;clear hp hm N ar E;go_wp2_with fail;refine U.o.mono ?_;rintro e b5 ⟨rfl,rfl⟩;clear U;go_wp2_with fail;go_ret2;exact ⟨rfl,_,a8.o.1,a8.o.2,(Mod.refl (λk=>k=B) _).setCell (.inl rfl) _,heap_setCell_same _ B 3 _ _ _ bl.o⟩
theorem ajv {p:Nat} {its:List TapeMath.Item} (hf:Fits p its):∀ (id i:Nat) (m B:Msg),(id,m)∈gz p its->(i,B)∈gz p its->id < i->id+(bi m).length<=i:=by
 induction its generalizing p with
 | nil=>intro id i m B h; cases h
 | cons x l ih =>
   unfold Fits at hf;have F:=(ng hf.2).1;intro id i m B h A E
   cases x with
   | one y =>
     unfold gz at h A
     rcases List.mem_cons.1 h with e | h
     . have I:id=p:=congrArg Prod.fst e
       have J:m=y:=congrArg Prod.snd e
       rcases List.mem_cons.1 A with e3 | A
       . have M:i=p:=congrArg Prod.fst e3
         omega
       . rw [I,J]; exact F _ A
     . have h1:p+(TapeMath.Item.one y).len<=id:=F _ h
       rcases List.mem_cons.1 A with e3 | A
       . have M:i=p:=congrArg Prod.fst e3
         omega
       . exact ih hf.2 id i m B h A E
   | fill n =>
     unfold gz at h A;exact ih hf.2 id i m B h A E
open CacheW CqW KxW
structure afq (p:Nat×Msg):Prop where
 ent:aef p
 kind:p.2.kind=1\/p.2.kind=3
 keys:∀ k∈p.2.keys,RecMath.qc k=true/\k.length<=1000
 tag:p.2.tag.length<=1048576
 many:p.2.keys.length<=100
structure DisT (base B:Nat) (W w:World) (C:CqD) (D:DiskD) (X:KxD) (done:List (Nat×Msg)) (mk n:Nat) (C':CqD) (D':DiskD) (X':KxD):Prop where
 inv:DisI base w C' D' X' done mk
 cb:C'.blk=C.blk
 db:TmS D D'
 xb:X'.blk=X.blk
 room:D'.room=D.room - ((20 * n:Nat):Int)
 foot:∀ k,kz C' D' X' k->kz C D X k\/W.heap.size<=k
 mod:Mod (λk=>kz C D X k\/k=B) W w
theorem DisT.trans {base B:Nat} {W w v:World} {C C1 C2:CqD} {D D1 D2:DiskD} {X X1 X2:KxD} {l1 l2:List (Nat×Msg)} {m1 m2 n1 n2:Nat} (h:DisT base B W w C D X l1 m1 n1 C1 D1 X1) (k:DisT base B w v C1 D1 X1 l2 m2 n2 C2 D2 X2):DisT base B W v C D X l2 m2 (n1+n2) C2 D2 X2 where
 inv:=k.inv
 cb:=k.cb.trans h.cb
 db:=k.db.trans h.db
 xb:=k.xb.trans h.xb
 room:=by rw [k.room,h.room]; omega
 foot:=λj E=>(k.foot j E).elim (h.foot j) λA=>.inr (Nat.le_trans h.mod.size A)
 mod:=iw h.mod k.mod λj E=>E.elim (λA=>(h.foot j A).imp_left .inl) λA=>.inl (.inr A)
theorem aoy {base:Nat} {w:World} {C:CqD} {D:DiskD} {X:KxD} {done:List (Nat×Msg)} {mk:Nat} (h:DisI base w C D X done mk) {k:Nat} (hk:kz C D X k):base<=k:=by
 rcases hk with (hk | hk | ⟨x,hx,hk⟩) | hk | hk
 . rw [hk]; exact h.cq.low.1
 . rw [hk]; exact h.cq.low.2.1
 ·
  rcases hk with hk | hk | hk
  . rw [hk]; exact h.cq.low.2.2 x hx
  . rw [hk]; exact (h.cq.que x hx).2.1.above
  . exact az (h.cq.que x hx).2.1.row k hk
 . exact h.dsk.base_le hk
 . rw [hk]; exact h.kx.low
theorem aoz {M:Nat->Prop} {W w:World} {a:Option Addr} {ss:List ByteArray} (h:Strs W a ss) (hm:Mod M W w) (hM:∀ ad,a=some ad->¬ M ad.block):Strs w a ss :=
 ((Row1.of_strs h).mod hm hM).to_strs
theorem ao0 {base B:Nat} {T:OwnD} {C:CqD} {D:DiskD} {X:KxD} {done:List (Nat×Msg)} {mk:Nat} (id:Nat) (m:Msg) (d:Int) (a:Option Addr) (c:Nat) (W:World) (hT:OwnAt base W T) (hTB:TabB base W) (hbase:base<=W.heap.size)
 (hB:W.heap[B]?=some (.cells #[.pointer (some ⟨T.blk,0,none⟩),.pointer (some ⟨C.blk,0,none⟩),.pointer (some ⟨X.blk,0,none⟩),.int .i64 d] 129 (0,0)))
 (hsz:aa2 T.recs (id:Int)=((bi m).length:Int)) (hI:DisI base W C D X done mk) (hp:afq (id,m)) (hBF:¬ kz C D X B) (hroom:((20 * (1+m.keys.length):Nat):Int)<=D.room) (hdl:done.length<=9999) (hmk:mk<=90000)
 (hs:Strs W a (m.keys.map S)) (hsa:∀ ad,a=some ad->¬ kz C D X ad.block) :
 Calls Tryz.prog 56 #[.pointer (some ⟨B,0,none⟩),.int .i64 (id:Int),.agg (af m a c)] W λe w'=>e=.returned (.int .i64 0)/\(∃ C' D' X' U,Below W.heap.size W U/\DisI base w' C' D' X' (done++[(id,m)]) (mk+m.keys.length)/\C'.blk=C.blk/\TmS D D'/\X'.blk=X.blk/\D'.room=D.room - ((20 * (1+m.keys.length):Nat):Int)/\∀ k,kz C' D' X' k->kz C D X k\/U.heap.size<=k)/\Mod (kz C D X) W w':=by
 obtain ⟨q,hq,ak⟩:=hp.ent.q;have J:m.queue=(q:Int):=hq;have E:=hp.many;have N:m.keys.length<=100:=E;have A:af m a c=#[.int .i64 m.kind,.int .i64 (q:Int),.int .i64 m.due,.int .i64 m.retry,.int .i64 m.ref,.int .i64 m.born,.string (S m.topic),.string (S m.tag),.string (S m.body),.slice a m.keys.length c]:=by rw [<- J]; rfl
 rw [A]
 refine (aox (base:=base) (M:=kz C D X) (I:=λU j w=>∃ C' D' X',DisI base w C' D' X' (done++[(id,m)]) (mk+j)/\C'.blk=C.blk/\TmS D D'/\X'.blk=X.blk/\D'.room=D.room - ((20 * (1+j):Nat):Int)/\∀ k,kz C' D' X' k->kz C D X k\/U.heap.size<=k)
  id m q C.blk X.blk ((bi m).length:Int) (.int .i64 d) a c W hT hB hsz (λk hk=>hI.lt hk) hBF m.kind hp.kind hp.tag (by omega) ((NameW.mi [m.tag]:Nat):Int) rfl (λw F=>aoz hs F hsa) ?_ ?_ ?_).mono ?_
 . rintro U j w ⟨C',D',X',h1,O⟩
   exact ⟨C',D',X',h1.below ((Below.refl _ w).drew),O⟩
 ·
  rintro U j hj w R ⟨C',D',X',h1,O,h3,Y,Z,h6⟩ F;have hk:=hp.keys m.keys[j] (List.getElem_mem hj);have an:(done++[(id,m)]).length=done.length+1:=by rw [List.length_append]; rfl
  have:=aq4 m.topic m.keys[j] id m.born w h1 hp.ent.top hk.1 hp.ent.tl hk.2 hp.ent.id hp.ent.born (Nat.le_trans hbase (Nat.le_trans R.size F.size)) (by rw [Z]; omega) (by omega) (by omega);rw [Y] at this;refine this.mono ?_;rintro e w' ⟨rfl,D2,X2,g⟩;refine ⟨rfl,⟨C',D2,X2,g.inv,O,g.db.trans h3,g.xb.trans Y,by rw [g.room,Z]; omega,λk hk=>(g.foot k hk).elim (h6 k) λh7=>.inr (Nat.le_trans F.size h7)⟩,iw F g.mod λk hk=>h6 k hk⟩
 ·
  intro w hb;refine (aq3 (id,m) m.topic (q:Int) ((bi m).length:Int) ((NameW.mi [m.tag]:Nat):Int) m.born w (hI.below hb) hp.ent rfl J rfl rfl rfl (hTB.below hb) (Nat.le_trans hbase hb.size) (by omega) (by omega) (by omega)).mono ?_;rintro e w' ⟨pos,rfl,C2,D2,g⟩;exact ⟨pos,rfl,⟨C2,D2,X,g.inv,g.cb,g.db,rfl,by rw [g.room]; rfl,g.foot⟩,g.mod⟩
 . rintro e w' ⟨he,⟨U,R,C',D',X',h⟩,F⟩
   exact ⟨he,⟨C',D',X',U,R,h⟩,F⟩
theorem ao1 {base B:Nat} {T:TapeD} {C:CqD} {D:DiskD} {X:KxD} {done:List (Nat×Msg)} {mk:Nat} (id:Nat) (m:Msg) (d:Int) (W:World) (h:TapeAt base W T) (hT:TabB base W) (hbase:base<=W.heap.size) (hup:T.D.down=false)
 (hB:W.heap[B]?=some (.cells #[.pointer (some ⟨T.O.blk,0,none⟩),.pointer (some ⟨C.blk,0,none⟩),.pointer (some ⟨X.blk,0,none⟩),.int .i64 d] 129 (0,0))) (hl:T.O.recs.length<=1073741824) (hn:ma T.O.recs d=((id:Int),true)) (hsy:id < T.R.synced) (hmem:(id,m)∈T.O.recs)
 (hI:DisI base W C D X done mk) (hp:afq (id,m)) (hBF:¬ kz C D X B) (hTF:∀ k,kz C D X k->¬ T.foot k) (hroom:((20 * (1+m.keys.length):Nat):Int)<=D.room) (hdl:done.length<=9999) (hmk:mk<=90000) :
 Calls Tryz.prog 22 #[.pointer (some ⟨B,0,none⟩)] W λe w'=>e=.returned (.tuple #[.bool true,.int .i64 0])/\(∃ C' D' X',DisT base B W w' C D X (done++[(id,m)]) (mk+m.keys.length) (1+m.keys.length) C' D' X') /\
  w'.heap[B]?=some (.cells #[.pointer (some ⟨T.O.blk,0,none⟩),.pointer (some ⟨C.blk,0,none⟩),.pointer (some ⟨X.blk,0,none⟩),.int .i64 ((id:Int)+((bi m).length:Int))] 129 (0,0)):=by
 have N:=(Array.getElem?_eq_some_iff.1 hB).1;have E:aa2 T.O.recs (id:Int)=((bi m).length:Int):=ad7 (aa9 h) hmem;have F:=hp.ent.len;have hid:=hp.ent.id;have Y:(bi m).length<=1024:=F;have al:id<=99999999:=hid
 refine (amr (M:=kz C D X) (J:=λw'=>∃ C' D' X',DisI base w' C' D' X' (done++[(id,m)]) (mk+m.keys.length)/\C'.blk=C.blk/\TmS D D'/\X'.blk=X.blk/\D'.room=D.room - ((20 * (1+m.keys.length):Nat):Int)/\∀ k,kz C' D' X' k->kz C D X k\/W.heap.size<=k)
  id m _ ((bi m).length:Int) _ d W h hT hbase hup hB hl hn hsy hmem E ⟨by omega,by omega,by omega⟩ (λk hk=>⟨hI.lt hk,λe=>hBF (e ▸ hk),λA=>hTF k hk (.inl A)⟩) ?_).mono ?_
 ·
  intro w a c hb hs Z;refine (ao0 id m d a c w (h.own.below hb) (hT.below hb) (Nat.le_trans hbase hb.size) ((hb.block B N).trans hB) E (hI.below hb) hp hBF hroom hdl hmk hs (λad e hk=>by have:=hI.lt hk; have:=Z ad e; omega)).mono ?_;rintro e w' ⟨he,⟨C',D',X',U,hU,g1,g2,g3,g4,g5,g6⟩,hm⟩;exact ⟨he,⟨C',D',X',g1,g2,g3,g4,g5,λk hk=>(g6 k hk).imp_right λA=>Nat.le_trans hb.size (Nat.le_trans hU.size A)⟩,(Mod.of_below hb).trans hm⟩
 ·
  rintro e w' ⟨he,w3,⟨C',D',X',g1,g2,g3,g4,g5,g6⟩,hm,I,ak⟩;refine ⟨he,⟨C',D',X',?_,g2,g3,g4,g5,g6,?_⟩,ak⟩
  ·
   exact g1.mod I λk hk e=>by
    subst e
    rcases g6 k hk with A | A
    . exact hBF A
    . omega
  . exact (hm.mono λk _ hk=>Or.inl hk).trans (I.mono λk _ hk=>Or.inr hk)
theorem afr {f B:Nat} {Q Q':World->Prop} (hQ:∀ w,Q w->Q' w):∀ (n:Nat) (w:World),zt f B Q n w->zt f B Q' n w
 | 0,w,h=>by unfold zt at h ⊢; exact h.mono λe w' ⟨h1,A⟩=>⟨h1,hQ _ A⟩
 | n+1,w,h=>by unfold zt at h ⊢; exact h.mono λe w' ⟨h1,A⟩=>⟨h1,afr hQ n w' A⟩
def nk (l:List (Nat×Msg)):Nat:=(l.map λp=>p.2.keys.length).sum
theorem aeg (p:Nat×Msg) (l:List (Nat×Msg)):nk (p :: l)=p.2.keys.length+nk l:=by unfold nk; rw [List.map_cons,List.sum_cons]
theorem aco (d:Int):∀ (pre l:List (Nat×Msg)),(∀ p∈pre,(p.1:Int) < d)->ma (pre++l) d=ma l d
 | [],_,_=>rfl
 | x :: pre,l,h=>by
   rw [List.cons_append,ahg x _ d (h x (.head _))];exact aco d pre l λp hp=>h p (.tail _ hp)
theorem aht {base B:Nat} {T:TapeD} (hup:T.D.down=false) (hl:T.O.recs.length<=9999) (hok:∀ p∈T.O.recs,afq p/\p.1 < T.R.synced) (hBb:base<=B) (hBT:¬ T.foot B):∀ (todo pre:List (Nat×Msg)) (C:CqD) (D:DiskD) (X:KxD) (mk:Nat) (d:Int) (W:World),T.O.recs=pre++todo->TapeAt base W T->TabB base W->base<=W.heap.size ->
 W.heap[B]?=some (.cells #[.pointer (some ⟨T.O.blk,0,none⟩),.pointer (some ⟨C.blk,0,none⟩),.pointer (some ⟨X.blk,0,none⟩),.int .i64 d] 129 (0,0))->(∀ p∈pre,(p.1:Int) < d)->(∀ p∈todo,d<=(p.1:Int)) ->
 DisI base W C D X pre mk->¬ kz C D X B->(∀ k,kz C D X k->¬ T.foot k)->((20 * (todo.length+nk todo):Nat):Int)<=D.room->mk+nk todo<=90000 ->
 zt 22 B (λw'=>∃ C' D' X' d',DisT base B W w' C D X T.O.recs (mk+nk todo) (todo.length+nk todo) C' D' X'/\w'.heap[B]?=some (.cells #[.pointer (some ⟨T.O.blk,0,none⟩),.pointer (some ⟨C.blk,0,none⟩),.pointer (some ⟨X.blk,0,none⟩),.int .i64 d'] 129 (0,0))) todo.length W
 | [],pre,C,D,X,mk,d,W,hr,h,hT,hbase,hB,h1,h2,hI,hBF,hTF,hroom,hmk=>by
   show zt _ _ _ 0 _;unfold zt;have hs:(T.O.recs.map (·.1)).Pairwise (· < ·):=by rw [h.recs]; exact (ng h.fits).2
   refine (ad9 W h.own hB hs (by omega) (by rw [hr,aco d pre [] h1]; rfl)).mono ?_;rintro e w' ⟨he,hd⟩;have hb:Below W.heap.size W w':=hd.below _;refine ⟨he,C,D,X,d,⟨?_,rfl,TmS.refl D,rfl,by show D.room=D.room - ((20 * (0+0):Nat):Int); omega,λk hk=>.inl hk,Mod.of_below hb⟩,(hb.block B (Array.getElem?_eq_some_iff.1 hB).1).trans hB⟩;rw [hr,List.append_nil];exact hI.below hb
 | (id,m) :: todo,pre,C,D,X,mk,d,W,hr,h,hT,hbase,hB,h1,h2,hI,hBF,hTF,hroom,hmk=>by
   show zt _ _ _ (todo.length+1) _;unfold zt;have hs:(T.O.recs.map (·.1)).Pairwise (· < ·):=by rw [h.recs]; exact (ng h.fits).2
   have A:(id,m)∈T.O.recs:=by rw [hr]; exact List.mem_append_right _ (.head _)
   have M:((pre++(id,m) :: todo).map (·.1)).Pairwise (· < ·):=by rw [<- hr]; exact hs
   rw [List.map_append] at M;have I:=(List.pairwise_append.1 M);have am:=List.pairwise_cons.1 (show (id :: todo.map (·.1)).Pairwise (· < ·) from I.2.1)
   have hn:ma T.O.recs d=((id:Int),true):=by
    rw [hr,aco d pre _ h1];exact ahh (id,m) todo d (h2 _ (.head _)) I.2.1
   obtain ⟨hp,an⟩:=hok _ A;have N:nk ((id,m) :: todo)=m.keys.length+nk todo:=aeg _ _;have F:((id,m) :: todo).length=todo.length+1:=rfl;rw [N] at hroom hmk;rw [F] at hroom;have ao:pre.length<=9999:=by have:=congrArg List.length hr; rw [List.length_append] at this; omega
   refine (ao1 id m d W h hT hbase hup hB (by omega) hn an A hI hp hBF hTF (by omega) ao (by omega)).mono ?_;rintro e w' ⟨he,⟨C',D',X',g⟩,U⟩;refine ⟨he,?_⟩;have ap:∀ k,T.foot k->k < W.heap.size:=λk hk=>h.lt hk
   have a8:=(Array.getElem?_eq_some_iff.1 hB).1;have h':TapeAt base w' T:=h.mod g.mod λk hk J=>J.elim (λE=>hTF k E hk) λE=>hBT (E ▸ hk)
   have ar:TabB base w':=hT.mod g.mod λk hk=>hk.elim (λE=>aoy hI E) λE=>E ▸ hBb
   have Y:¬ kz C' D' X' B:=λJ=>(g.foot B J).elim hBF λE=>by omega
   have Z:∀ k,kz C' D' X' k->¬ T.foot k:=λk hk J=>(g.foot k hk).elim (λE=>hTF k E J) λE=>by have:=ap k J; omega
   rw [<- g.cb,<- g.xb] at U
   have av:∀ p∈todo,id+(bi m).length<=p.1:=λp hp=>by
    have ab:(p.1,p.2)∈T.O.recs:=by rw [hr]; exact List.mem_append_right _ (.tail _ hp)
    have ac:id < p.1:=am.1 p.1 (List.mem_map.2 ⟨p,hp,rfl⟩);rw [h.recs] at A ab;exact ajv h.fits id p.1 m p.2 A ab ac
   have a6:=abx m
   have ih:=aht hup hl hok hBb hBT todo (pre++[(id,m)]) C' D' X' (mk+m.keys.length) ((id:Int)+((bi m).length:Int)) w' (by rw [hr,List.append_assoc]; rfl) h' ar (Nat.le_trans hbase g.mod.size) U
    (λp hp=>by
     rcases List.mem_append.1 hp with hp | hp
     . have:=I.2.2 p.1 (List.mem_map.2 ⟨p,hp,rfl⟩) id (.head _)
       omega
     . rw [List.mem_singleton] at hp; subst hp; show (id:Int) < _; omega)
    (λp hp=>by have:=av p hp; omega) g.inv Y Z (by rw [g.room]; omega) (by omega)
   refine afr ?_ _ _ ih;rintro v ⟨C2,D2,X2,d',k,a1⟩;refine ⟨C2,D2,X2,d',?_,by rw [a1,g.cb,g.xb]⟩;have:=g.trans k;rw [N,F,show mk+(m.keys.length+nk todo)=mk+m.keys.length+nk todo by omega,show todo.length+1+(m.keys.length+nk todo)=1+m.keys.length+(todo.length+nk todo) by omega];exact this
theorem aq5 {base B:Nat} {T:TapeD} {C:CqD} {D:DiskD} {X:KxD} (d:Int) (W:World) (h:TapeAt base W T) (hT:TabB base W) (hbase:base<=W.heap.size) (hup:T.D.down=false) (hl:T.O.recs.length<=9999) (hok:∀ p∈T.O.recs,afq p/\p.1 < T.R.synced) (hBb:base<=B) (hBT:¬ T.foot B)
 (hB:W.heap[B]?=some (.cells #[.pointer (some ⟨T.O.blk,0,none⟩),.pointer (some ⟨C.blk,0,none⟩),.pointer (some ⟨X.blk,0,none⟩),.int .i64 d] 129 (0,0))) (hd:∀ p∈T.O.recs,d<=(p.1:Int))
 (hI:DisI base W C D X [] 0) (hBF:¬ kz C D X B) (hTF:∀ k,kz C D X k->¬ T.foot k) (hroom:((20 * (T.O.recs.length+nk T.O.recs):Nat):Int)<=D.room) (hmk:nk T.O.recs<=90000) :
 Calls Tryz.prog 8 #[.pointer (some ⟨B,0,none⟩)] W λe w'=>e=.returned (.tuple #[.int .i64 (T.O.recs.length:Int),.int .i64 0])/\∃ C' D' X' d',DisT base B W w' C D X T.O.recs (nk T.O.recs) (T.O.recs.length+nk T.O.recs) C' D' X' /\
  w'.heap[B]?=some (.cells #[.pointer (some ⟨T.O.blk,0,none⟩),.pointer (some ⟨C.blk,0,none⟩),.pointer (some ⟨X.blk,0,none⟩),.int .i64 d'] 129 (0,0)):=by
 have:=aht hup hl hok hBb hBT T.O.recs [] C D X 0 d W rfl h hT hbase hB (λp hp=>by cases hp) hd hI hBF hTF hroom (by omega);rw [Nat.zero_add] at this;exact ahe T.O.recs.length (by omega) W this
theorem aq6 {base kb:Nat} {w:World} {C:CqD} {D D2:DiskD} (hC:CqAt base w C) (hqs:C.qs=[]) (hdb:C.db=D.blk) (hD:DiskAt base w D) (hf2:D2.files=[]) (hw2:D2.waits=[]) (hg:Grows D2 D [iy,ib,ni,ry] 120 2) (haw:∀ k,C.foot k->¬ D.foot k) (hk:KxAt base w ⟨kb,0⟩ D) (hkc:¬ C.foot kb):DisI base w C D ⟨kb,0⟩ [] 0:=by
 have B:D.files.map (·.1)=[iy,ib,ni,ry]:=by rw [hg.names,hf2]; rfl
 refine ⟨hC,hD,hk,hdb,hg.quiet,haw,hkc,λp hp=>(by cases hp),λx A=>(by rw [hqs] at A; cases A),(by rw [hqs]; exact List.Pairwise.nil),λp hp=>(by cases hp),λt q I E n F=>?_,?_,λp hp=>?_,rfl,?_,λx A=>(by rw [hqs] at A; cases A)⟩
 ·
  refine yc.2 λh=>?_
  rw [B] at h;simp only [List.mem_cons,List.not_mem_nil,or_false] at h
  rcases h with h | h | h | h <;> (injection h with h1 h2; exact absurd h1 (by decide))
 . have:=congrArg List.length B
   rw [List.length_map] at this;rw [this]; decide
 ·
  have h:p.1∈D.files.map (·.1):=List.mem_map.2 ⟨p,hp,rfl⟩;rw [B] at h;simp only [List.mem_cons,List.not_mem_nil,or_false] at h
  rcases h with h | h | h | h <;> rw [h] <;> decide
 . rw [hg.waits,hw2]; decide
structure DisB (base B:Nat) (L:Nat->Prop) (w:World) (S:StoD) (C:CqD) (D:DiskD) (X:KxD) (done:List (Nat×Msg)) (mk:Nat) (d r:Int):Prop where
 inv:DisI base w C D X done mk
 cq:S.cq=.pointer (some ⟨C.blk,0,none⟩)
 kx:S.kx=.pointer (some ⟨X.blk,0,none⟩)
 dp:S.dp=.pointer (some ⟨B,0,none⟩)
 cell:w.heap[B]?=some (.cells #[.pointer (some ⟨S.T.O.blk,0,none⟩),.pointer (some ⟨C.blk,0,none⟩),.pointer (some ⟨X.blk,0,none⟩),.int .i64 d] 129 (0,0))
 apart:∀ k,S.foot k->¬ kz C D X k/\k≠B
 nB:¬ kz C D X B
 low:∀ k,kz C D X k\/k=B->L k
 lowB:base<=B
 room:r<=D.room
theorem DisB.next {base B:Nat} {L M:Nat->Prop} {w w':World} {S S':StoD} {C:CqD} {D:DiskD} {X:KxD} {done:List (Nat×Msg)} {mk:Nat} {d r:Int} (h:DisB base B L w S C D X done mk d r) (hm:Mod M w w') (hM:∀ k,M k->¬ kz C D X k/\k≠B) (e1:S'.cq=S.cq) (e2:S'.kx=S.kx) (e3:S'.dp=S.dp) (e4:S'.T.O.blk=S.T.O.blk) (hf:∀ k,S'.foot k->S.foot k\/w.heap.size<=k):DisB base B L w' S' C D X done mk d r where
 inv:=h.inv.mod hm λk hk A=>(hM k A).1 hk
 cq:=e1.trans h.cq
 kx:=e2.trans h.kx
 dp:=e3.trans h.dp
 cell:=by
  rw [e4];exact (hm.block B (Array.getElem?_eq_some_iff.1 h.cell).1 (λA=>(hM B A).2 rfl)).trans h.cell
 apart:=λk hk=>(hf k hk).elim (h.apart k) λA=>⟨λE=>by have:=h.inv.lt E; omega,λe=>by have:=(Array.getElem?_eq_some_iff.1 h.cell).1; omega⟩
 nB:=h.nB
 low:=h.low
 lowB:=h.lowB
 room:=h.room
theorem DisB.mono {base B:Nat} {L L':Nat->Prop} {w:World} {S:StoD} {C:CqD} {D:DiskD} {X:KxD} {done:List (Nat×Msg)} {mk:Nat} {d r:Int} (h:DisB base B L w S C D X done mk d r) (hL:∀ k,L k->L' k):DisB base B L' w S C D X done mk d r:={ h with low:=λk hk=>hL k (h.low k hk) }
theorem aq7 {base B:Nat} {L:Nat->Prop} {S:StoD} {C:CqD} {D:DiskD} {X:KxD} {r:Int} (w:World) (hS:StoAt base w S) (h:DisB base B L w S C D X [] 0 0 r) (hT:TabB base w) (hbase:base<=w.heap.size) (hq:Quiet S.T.D) (hl:S.T.O.recs.length<=9999) (hok:∀ p∈S.T.O.recs,afq p/\p.1 < S.T.R.synced)
 (hroom:((20 * (S.T.O.recs.length+nk S.T.O.recs):Nat):Int)<=r) (hmk:nk S.T.O.recs<=90000) :
 Calls Tryz.prog 8 #[.pointer (some ⟨B,0,none⟩)] w λe w'=>e=.returned (.tuple #[.int .i64 (S.T.O.recs.length:Int),.int .i64 0])/\StoAt base w' S/\(∃ C' D' X' I,DisB base B (λk=>L k\/w.heap.size<=k) w' S C' D' X' S.T.O.recs (nk S.T.O.recs) I (r - ((20 * (S.T.O.recs.length+nk S.T.O.recs):Nat):Int)))/\Mod (λk=>kz C D X k\/k=B) w w':=by
 have E:∀ k,S.T.foot k->S.foot k:=λk hk=>.inr (.inl hk)
 refine (aq5 0 w hS.tape hT hbase hq.up hl hok h.lowB (λhk=>(h.apart B (E B hk)).2 rfl) h.cell (λp _=>by omega) h.inv h.nB (λk hk A=>(h.apart k (E k A)).1 hk) (by have:=h.room; omega) hmk).mono ?_;rintro e w' ⟨J,C',D',X',I,g,hc⟩;have M:=(Array.getElem?_eq_some_iff.1 h.cell).1;refine ⟨J,hS.mod g.mod λk hk A=>A.elim (h.apart k hk).1 (h.apart k hk).2,⟨C',D',X',I,⟨g.inv,by rw [g.cb]; exact h.cq,by rw [g.xb]; exact h.kx,h.dp,by rw [g.cb,g.xb]; exact hc,λk hk=>?_,λA=>?_,λk hk=>?_,h.lowB,by rw [g.room]; have:=h.room; omega⟩⟩,g.mod⟩
 . exact ⟨λA=>(g.foot k A).elim (h.apart k hk).1 λF=>by have:=hS.lt hk; omega,(h.apart k hk).2⟩
 . exact (g.foot B A).elim h.nB λF=>by omega
 . exact hk.elim (λA=>(g.foot k A).imp (λF=>h.low k (.inl F)) λF=>F) λA=>.inl (h.low k (.inr A))
def ao2 (D:DiskD):SegD:=⟨0,D.blk,qf,1024,0,0,[],0,.slice none 0 0⟩
theorem ajw (D:DiskD) (h:D.files=[]):LaidOn D (ao2 D):=by
 refine ⟨⟨show 16<=1024 by decide,show 1024<=4096 by decide⟩,λ_=>⟨rfl,rfl⟩,λh=>absurd h (Nat.lt_irrefl 0),rfl,by show qf.length<=_; decide,?_,?_,rfl⟩
 . intro i A
   exact absurd A (Nat.not_lt_zero _)
 . intro p _ _
   exact yc.2 (by rw [h]; simp)
theorem ze {D:DiskD} (h:D.files=[]) (n:List UInt8):D.find n=none:=yc.2 (by rw [h]; simp)
theorem ams {D D1:DiskD} (h:D.files=[]) (k:∀ n,(D1.find n).isSome=(D.find n).isSome):D1.files=[]:=by
 cases hf:D1.files with
 | nil=>rfl
 | cons p l =>
   have h1:=k p.1;rw [ze h] at h1
   have A:D1.find p.1=none:=by cases hh:D1.find p.1 with
    | none=>rfl
    | some f=>rw [hh] at h1; cases h1
   exact absurd (List.mem_map.2 ⟨p,by rw [hf]; exact List.mem_cons_self,rfl⟩) (yc.1 A)
theorem ahu {base:Nat} {D D2:DiskD} (now:Nat) (W:World) (hD:DiskAt base W D) (hq:Quiet D) (hf:D.files=[]) (hwt:D.waits=[]) (hbase:base<=W.heap.size) (hT:TabB base W) (J:DiskAt base W D2) (hq2:Quiet D2) (hf2:D2.files=[]) (hr2:120<=D2.room) (hw2:D2.waits=[]) (hdd:∀ k,D.foot k->¬ D2.foot k) (hnow:now<=1099511626776) :
 Calls Tryz.prog 15 #[.pointer (some ⟨D.blk,0,none⟩),.pointer (some ⟨D2.blk,0,none⟩),.int .i64 (now:Int)] W λe w'=>∃ S,e=.returned (.tuple #[.pointer (some ⟨S.blk,0,none⟩),.int .i64 0])/\StoAt base w' S/\S.now=(now:Int)/\S.T.its=[]/\S.T.R.b=0/\S.T.R.synced=S.T.R.e/\S.T.D.waits=[]/\Quiet S.T.D/\S.T.D.blk=D.blk/\S.T.D.room=D.room/\S.T.D.files=[]/\(∃ E I v,S.top=.pointer (some ⟨E,0,none⟩)/\S.off=.pointer (some ⟨I,0,none⟩)/\S.dk=.pointer (some ⟨D.blk,0,none⟩)/\Pair w' W.heap.size E I D.blk v [] S.T/\(∀ b,PB E I v b->¬ S.foot b)/\S.P.all=uz S.T.O.recs []/\∃ C D' X B,DisB base B (λk=>D2.foot k\/W.heap.size<=k) w' S C D' X [] 0 0 (D2.room - 120)/\∀ b,PB E I v b->¬ kz C D' X b/\b≠B) /\
  Mod (λk=>D.foot k\/D2.foot k) W w'/\(∀ k,S.foot k->D.foot k\/W.heap.size<=k):=by
 refine (amq (R:=ao2 D) (its:=[]) (Post:=λT C D' kb F N w=>DisI base w C D' ⟨kb,0⟩ [] 0/\D'.room=D2.room - 120/\w.heap[F]?=some (.cells #[.pointer (some ⟨T.O.blk,0,none⟩),.pointer (some ⟨C.blk,0,none⟩),.pointer (some ⟨kb,0,none⟩),.int .i64 0] 129 (0,0))/\N.heap.size<=w.heap.size/\F < N.heap.size/\(∀ k,kz C D' ⟨kb,0⟩ k->k < N.heap.size)/\¬ kz C D' ⟨kb,0⟩ F/\base<=F) now W rfl rfl (ajw D hf) hD hq (by rw [hf]; simp) (by rw [hf]; intro p hp; cases hp) hbase hT rfl rfl rfl trivial (by simp) hwt ⟨ze hf _,rfl⟩ (ze hf _) (ze hf _) J hq2 hf2 hr2 hw2 hdd hnow (λp hp=>by cases hp) (by simp [gz])
  (λT C D' kb w F a1 a2 a3 a4 a5 a6 a7 a8 a9 b1 b2 E I b5 U c1 c2 c3 hc=>?_) (λT C D' kb F N w1 w2 M ⟨Y,p2,p3,p4,p5,p6,Z,p8⟩ hm hM=>⟨?_,p2,?_,Nat.le_trans p4 hm.size,p5,p6,Z,p8⟩)).mono λe w' ⟨S,C,D',kb,F,N,x1,x2,x3,x4,⟨k1,k2,k3,k4,k5⟩,x5,x6,x7,x8,x9,y1,y2,yf,⟨E,I,v,z1,z2,z3,z4,z7,z8⟩,⟨Y,p2,p3,p4,p5,p6,Z,p8⟩,y4,y5⟩=>⟨S,x1,x2,x3,x5,x6,x7,x8,x9,y1,y2,ams hf yf,⟨E,I,v,z1,z2,z3,z4,λb hb=>(z8 b hb).1,z7,C,D',⟨kb,0⟩,F,⟨Y,x4,k1,k2,p3,λk hk=>⟨λA=>?_,(k4 k hk).2.2.2.2⟩,Z,λk hk=>?_,p8,by rw [p2]; omega⟩,λb hb=>⟨λA=>?_,λA=>(z8 b hb).2.1 (.inr (.inr (.inr A)))⟩⟩,y4,y5⟩
 ·
  have hr:T.O.recs=[]:=by rw [a1.recs,a2]; rfl
  have al:T.R.b=0:=a3;have hI:=aq6 a8 a9 b1 b2 hf2 hw2 E I c1 c2;rw [al] at hc;refine (amc w a1.own hc (by rw [hr]; exact List.Pairwise.nil) (by rw [hr]; simp) (by rw [hr]; rfl)).mono λe w' ⟨h1,J⟩=>⟨0,h1,⟨hI.below (J.below _),E.room,(ag (J.below _) hc),(J.below w.heap.size).size,(Array.getElem?_eq_some_iff.1 hc).1,λk hk=>hI.lt hk,λA=>?_,c3⟩,Mod.of_below (J.below _)⟩
  rcases A with A | A | A
  . exact U.2.1 A
  . exact U.2.2.1 A
  . exact U.2.2.2 A.symm
 ·
  exact Y.mod hm λk hk A=>by
   have g:=hM k A
   rcases hk with hk | hk | hk
   . exact g.2.1 hk
   . exact g.2.2.1 hk
   . exact g.2.2.2.1 hk
 . exact di hm p3 λA=>(hM F A).2.2.2.2 rfl
 ·
  have g:=k4 k hk
  rcases A with A | A | A
  . exact g.2.1 A
  . exact g.2.2.1 A
  . exact g.2.2.2.1 A
 . rcases hk with hk | hk
   . exact k5 k hk
   . exact .inr (by omega)
 ·
  have g:=(z8 b hb).2.1
  rcases A with A | A | A
  . exact g (.inl A)
  . exact g (.inr (.inl A))
  . exact g (.inr (.inr (.inl A)))
end StoW
namespace MapG
open Go.RowKit Go.MapKept
variable {P:Program}
theorem abd {mt kt et ty:TypeId} {K:Value->Prop} (hm:P.underlying mt=some (.map kt et)) (hK:Keyed P kt K) {w:World} {b:Nat} {l l1 l2:List (Value×Value)} (h:PairsAt w b l) (hl:∀ p∈l,K p.1) {k v0:Value} (hk:K k) (he:l=l1++(k,v0) :: l2) :
 ∃ w',(Builtin.delete_ #[mt,kt] ty #[.map (some b),k]).run P w=.ok (.tuple #[]) w'/\PairsAt w' b (l1++l2)/\Mod (λx=>x=b) w w':=by
 have J:=h.nodup;obtain ⟨es,c,hb,M,A⟩:=h
 rcases hK.find k hk es.toList (abv A hl) w with ⟨h1,h2⟩ | ⟨j,e,h1,h2,h3⟩
 ·
  exfalso;have:(k,v0)∈es.toList.map (λe=>(e.key,e.val)):=by rw [A,he]; simp
  obtain ⟨x,N,O⟩:=List.mem_map.1 this;exact h1 x N (Prod.mk.inj O).1
 ·
  have B:(Builtin.delete_ #[mt,kt] ty #[.map (some b),k]).run P w=.ok (.tuple #[]) { w with heap:=w.heap.setIfInBounds b (.map (es.eraseIdxIfInBounds j) c) }:=by
   simp [Builtin.delete_,run_underlying hm,Go.MapKept.run_getObj_map hb,hK.check k hk,h1,Go.MapKept.run_setObj_map _ hb,Result.andThen]
  refine ⟨_,B,⟨_,c,(heap_set hb).1,stamped_erase M _,?_⟩,⟨rfl,rfl,rfl,by simp,λr _ Z=>(heap_set hb).2 r Z⟩⟩
  have E:j < es.size:=by
   have:=(List.getElem?_eq_some_iff.1 h2).1
   simpa using this
  have R:l[j]?=some (k,e.val):=by rw [<- A,List.getElem?_map,h2,Option.map_some,h3]
  have U:l1.length=j:=by
   have N:l[l1.length]?=some (k,v0):=by rw [he]; simp
   have F:(l.map (·.1))[l1.length]?=some k:=by rw [List.getElem?_map,N]; rfl
   have X:(l.map (·.1))[j]?=some k:=by rw [List.getElem?_map,R]; rfl
   have h6:l1.length < (l.map (·.1)).length:=(List.getElem?_eq_some_iff.1 F).1;exact (List.getElem?_inj h6 J).1 (F.trans X.symm)
  have:(es.eraseIdxIfInBounds j).toList=es.toList.eraseIdx j:=by
   unfold Array.eraseIdxIfInBounds;rw [dif_pos E,Array.toList_eraseIdx]
  have Y:∀ (I:List MapEntry) (n:Nat),(I.eraseIdx n).map (λe=>(e.key,e.val))=(I.map λe=>(e.key,e.val)).eraseIdx n:=λI=>by
   induction I with
   | nil=>intro n; rfl
   | cons x I ih=>intro n; cases n with
     | zero=>rfl
     | succ n=>simp [ih]
  rw [this,Y,A,he,<- U,List.eraseIdx_append_of_length_le (Nat.le_refl _)];simp
end MapG
namespace DskW
open Go.RowKit Go.MapKept OctMath MapG
def mh (l:List (List UInt8×FileD)):List (Value×Value):=l.map λp=>(.string (S p.1),.pointer (some ⟨p.2.blk,0,none⟩))
theorem DiskAt.pairs {base:Nat} {w:World} {D:DiskD} (h:DiskAt base w D):PairsAt w D.mB (mh D.files):=h.map
theorem aeh:Keyed Tryz.prog 9 (IsKey .string):=Keyed.of_isKey Tryz.underlying9
theorem ahv (l:List (List UInt8×FileD)):∀ p∈mh l,IsKey .string p.1:=λp hp=>by
 obtain ⟨q,_,rfl⟩:=List.mem_map.1 hp;trivial
def without (l:List (List UInt8×FileD)) (n:List UInt8):List (List UInt8×FileD):=l.filter λp=>!decide (p.1=n)
theorem xc {l l1 l2:List (List UInt8×FileD)} {n:List UInt8} {f:FileD} (hn:(l.map (·.1)).Nodup) (h:l=l1++(n,f) :: l2):without l n=l1++l2:=by
 subst h;rw [List.map_append,List.map_cons,List.nodup_append] at hn;obtain ⟨_,A,B⟩:=hn
 have E:without l1 n=l1:=List.filter_eq_self.2 λp hp=>by
  have:=B p.1 (List.mem_map.2 ⟨p,hp,rfl⟩) n (.head _)
  simpa using this
 have a2:without l2 n=l2:=List.filter_eq_self.2 λp hp=>by
  have:=(List.nodup_cons.1 A).1;have F:p.1≠n:=λe=>this (e ▸ List.mem_map.2 ⟨p,hp,rfl⟩)
  simpa using F
 show List.filter _ _=_;rw [List.filter_append,List.filter_cons];rw [show (!decide (((n,f):List UInt8×FileD).1=n))=false by simp];show without l1 n++without l2 n=_;rw [E,a2]
theorem cu {l:List (List UInt8×FileD)} {n:List UInt8} {p:List UInt8×FileD}:p∈without l n↔p∈l/\p.1≠n:=by
 unfold without; rw [List.mem_filter]; simp
theorem ac0 (l:List (List UInt8×FileD)) (n:List UInt8):(without l n).Sublist l:=List.filter_sublist
theorem aa4 (l:List (List UInt8×FileD)) (n:List UInt8):gp (without l n)<=gp l:=by
 unfold gp
 induction l with
 | nil=>exact Nat.le_refl _
 | cons p l ih =>
   unfold without at ih ⊢;rw [List.filter_cons]
   split
   iterate 2
    . simp only [List.map_cons,List.sum_cons]; omega
theorem xe {l:List (List UInt8×FileD)} {n:List UInt8} {f:FileD} (hn:(l.map (·.1)).Nodup) (hf:(n,f)∈l):∃ l1 l2,mh l=l1++(.string (S n),.pointer (some ⟨f.blk,0,none⟩)) :: l2/\mh (without l n)=l1++l2:=by
 obtain ⟨a,b,h⟩:=List.append_of_mem hf;refine ⟨mh a,mh b,by rw [h]; simp [mh],by rw [xc hn h]; simp [mh]⟩
theorem DiskAt.less {base:Nat} {w w':World} {D:DiskD} (h:DiskAt base w D) (hw:D.waits=[]) (n:List UInt8) (hp:PairsAt w' D.mB (mh (without D.files n))) (hm:Mod (λk=>k=D.mB) w w'):DiskAt base w' { D with files:=without D.files n }:=by
 have A:=ac0 D.files n;refine ⟨?_,hp,λp hp=>?_,?_,h.names.sublist (A.map _),h.blocks.sublist (A.map _),⟨h.apart.1,λp hp=>h.apart.2.1 p (cu.1 hp).1,λk hk=>⟨(h.apart.2.2 k hk).1,(h.apart.2.2 k hk).2.1,λp hp=>(h.apart.2.2 k hk).2.2 p (cu.1 hp).1⟩⟩,⟨h.above.1,h.above.2.1,λp hp=>h.above.2.2 p (cu.1 hp).1⟩,h.ints,?_,λx E=>by rw [show D.waits=[] from hw] at E; cases E⟩
 . exact (hm.block _ (h.lt (.inl rfl)) h.apart.1).trans h.head
 . have B:=(cu.1 hp).1
   exact (hm.block _ (h.lt (.inr (.inr (.inl ⟨p,B,rfl⟩)))) (h.apart.2.1 p B).2).trans (h.file p B)
 . exact SegW.ownsRow_mod h.row hm λk hk e=>(h.apart.2.2 k hk).2.1 e
 ·
  have:=aa4 D.files n;have F:=h.fits;unfold DiskD.size at F ⊢;show ((gp (without D.files n):Nat):Int)<=D.cap;omega
theorem ajx (a:Option Addr) (cp:Nat) (fv:Value) (w:World):Calls Tryz.prog 259 #[.slice a 0 cp,fv] w λe w'=>e=.returned (.int .i64 (-1))/\w'=w:=by
 go_enter Tryz.func259,Tryz.ntmps259;go_wp2_with fail;go_loopw [8] (λi wr=>i=.int .i64 0/\wr=w) (λi _=>0)
 case atStart=>exact ⟨rfl,rfl⟩
 case round =>
  obtain ⟨rfl,rfl⟩:=hrel;go_wp2_with fail;go_ret;exact ⟨rfl,rfl⟩
theorem ahw (a:Option Addr) (cp:Nat) (fv:Value) (w:World):Calls Tryz.prog 233 #[.slice a 0 cp,fv] w λe w'=>e=.returned (.slice a 0 cp)/\w'=w:=by
 go_enter Tryz.func233,Tryz.ntmps233;go_wp2_with fail;refine (ajx a cp fv w).mono ?_;rintro e w2 ⟨rfl,A⟩;obtain rfl:=A.symm;go_wp2_with fail;go_ret;exact ⟨rfl,rfl⟩
theorem ass {base:Nat} {D:DiskD} (a:Option Addr) (cap:Nat) (n:List UInt8) (f:FileD) (w:World) (h:DiskAt base w D) (hw:D.waits=[]) (hf:(n,f)∈D.files) (hr:Row1 w a [.string (S n)]) (haf:∀ ad,a=some ad->¬ D.foot ad.block) :
 Calls Tryz.prog 176 #[.pointer (some ⟨D.blk,0,none⟩),.slice a 1 cap] w λe w'=>e=.returned (.tuple #[])/\DiskAt base w' { D with files:=without D.files n }/\Mod D.foot w w':=by
 obtain ⟨b,off,rfl,B⟩:=hr 0 (by simp);have al:=haf _ rfl;have F:=kr h n;rw [ow h.names hf] at F;unfold uk at F;simp only [Option.map_some] at F;obtain ⟨aw,O,A⟩:=lq h.row;rw [hw] at A;replace A:D.wv=.slice aw 0 O:=A;have c2:w.cell? ⟨D.blk,2,none⟩=some (.map (some D.mB)):=h.cell 2 _ rfl;have c3:w.cell? ⟨D.blk,3,none⟩=some (.slice aw 0 O):=h.cell 3 _ (by show some D.wv=_; rw [A]);have I:w.cell? ⟨b,off,none⟩=some (.string (S n)):=B;have R:Zq (Below w.heap.size w (w.alloc (.cells #[.pointer (some ⟨f.blk,0,none⟩)] 258))):=(Below.refl _ _).alloc (Nat.le_refl _) _;have HD:=zq h;have HW:=zq hw;have HF:=zq hf;have U:=zq A;clear h hw hf hr haf al B A;go_enter Tryz.func176,Tryz.ntmps176;go_wp2_with fail;go_loopw [9] (λi wr=>(i=.int .i64 0/\wr=w)\/(i=.int .i64 1/\Zq (DiskAt base wr { D with files:=without D.files n }/\Mod D.foot w wr))) (λi _=>1 - (intOf i).toNat)
 case atStart=>exact .inl ⟨rfl,rfl⟩
 case round =>
  rcases hrel with ⟨rfl,rfl⟩ | ⟨rfl,HR⟩
  ·
   go_upto_region 4 with fail
   have E:=HD.o.below R.o;have d2:(wr.alloc (.cells #[.pointer (some ⟨f.blk,0,none⟩)] 258)).cell? ⟨D.blk,2,none⟩=some (.map (some D.mB)):=E.cell 2 _ rfl;have d3:(wr.alloc (.cells #[.pointer (some ⟨f.blk,0,none⟩)] 258)).cell? ⟨D.blk,3,none⟩=some (.slice aw 0 O):=E.cell 3 _ (by show some D.wv=_; rw [U.o])
   have am:(wr.alloc (.cells #[.pointer (some ⟨f.blk,0,none⟩)] 258)).frozen? ⟨D.blk,3,none⟩=false:=by
    unfold World.frozen?; rw [show (wr.alloc (.cells #[.pointer (some ⟨f.blk,0,none⟩)] 258)).heap[(⟨D.blk,3,none⟩:Addr).block]?=_ from E.head]; rfl
   have J:=zq E;have ab:Zq (Mod D.foot wr (wr.alloc (.cells #[.pointer (some ⟨f.blk,0,none⟩)] 258))):=Mod.of_below R.o;clear E c2 c3 F I R;generalize wr.alloc (.cells #[.pointer (some ⟨f.blk,0,none⟩)] 258)=w1 at *
   generalize wr.heap.size=bx at *
   go_wp2_with fail;refine (ahw aw O _ w1).mono ?_;rintro e w2 ⟨rfl,he⟩;obtain rfl:=he.symm;obtain ⟨M,X⟩:=J.o.set_waits D.wv D.waits ⟨rfl,rfl,rfl,Nat.le_refl _,λ_ _ _=>rfl⟩ J.o.row (λk hk=>.inl hk) J.o.waitf;rw [U.o] at M X
   have N:Zq (DiskAt base (w1.setCell ⟨D.blk,3,none⟩ (.slice aw 0 O)) D):=by
    have e:({ D with wv:=.slice aw 0 O,waits:=D.waits }:DiskD)=D:=by rw [<- U.o]
    rw [e] at M;exact M
   have an:=zq (ab.o.trans X);clear M X J ab;go_upto_region 5 with fail
   clear d2 d3 am;generalize w1.setCell ⟨D.blk,3,none⟩ (.slice aw 0 O)=w2 at *
   have e2:w2.cell? ⟨D.blk,2,none⟩=some (.map (some D.mB)):=N.o.cell 2 _ rfl;obtain ⟨l1,l2,hl,ac⟩:=xe N.o.names HF.o
   have ak:∃ w3,(∀ ty,(Builtin.delete_ #[64,9] ty #[.map (some D.mB),.string (S n)]).run Tryz.prog w2=.ok (.tuple #[]) w3)/\PairsAt w3 D.mB (l1++l2)/\Mod (λx=>x=D.mB) w2 w3:=by
    obtain ⟨w3,h1,h2,h3⟩:=abd (ty:=0) Tryz.underlying64 aeh N.o.pairs (ahv _) (k:=.string (S n)) trivial hl;exact ⟨w3,λty=>h1,h2,h3⟩
   obtain ⟨w3,av,Y,Z⟩:=ak;rw [<- ac] at Y;have ao:=zq (N.o.less HW.o n Y Z);have ap:=zq (an.o.trans (Z.mono (λk _ hk=>.inr (.inl hk))));clear Y Z hl ac;go_wp2_with fail;go_roundw
   case rel=>exact .inr ⟨by go_num,ao.o,ap.o⟩
   case measure=>simp [intOf]
  . go_wp2_with fail
    go_end0;exact ⟨rfl,HR.o.1,HR.o.2⟩
end DskW
end Go.Proofs.YtckjigopecocaaaGreatDoor
