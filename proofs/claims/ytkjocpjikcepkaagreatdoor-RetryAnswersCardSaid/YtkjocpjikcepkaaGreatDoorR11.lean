/- A store with its topics: Made. And what follows. -/
import Derived.Test.YtkjocpjikcepkaaGreatDoorR10
set_option linter.unusedVariables false
set_option linter.unusedSimpArgs false
set_option maxHeartbeats 25600000
set_option maxRecDepth 100000
namespace Go.Proofs.YtkjocpjikcepkaaGreatDoor
namespace SndW
open Go.RowKit Go.MapKept Go.Sort OctMath RecMath RecW DskW SegW TapeW TapeMath PendW CacheW StoW TopW NameMath CqW
def au1 (lo:Nat) (w:World) (S:StoD) (X:TabD) (N:Nat->Prop):Prop:=∃ ob d,S.off=.pointer (some ⟨ob,0,none⟩)/\w.heap[ob]?=some (.cells #[d,.slice none 0 0] 117 (0,0))/\lo<=ob/\¬ S.foot ob/\¬ X.foot ob/\¬ N ob
def DisX (base lo:Nat) (w:World) (S:StoD) (X:TabD) (r:Int):Prop:=∃ C D Y B,DisB base B (λk=>lo<=k) w S C D Y [] 0 0 r/\(∀ k,X.foot k->¬ lu C D Y k/\k≠B)/\au1 lo w S X (λk=>lu C D Y k\/k=B)
theorem DisX.next {base lo:Nat} {w w':World} {S S':StoD} {X X':TabD} {r:Int} (h:DisX base lo w S X r) (hm:Mod (λk=>S.foot k\/X.foot k) w w') (e1:S'.cq=S.cq) (e2:S'.kx=S.kx) (e3:S'.dp=S.dp) (e4:S'.T.O.blk=S.T.O.blk) (e5:S'.off=S.off) (hf:∀ k,S'.foot k->S.foot k\/w.heap.size<=k) (hx:∀ k,X'.foot k->X.foot k\/w.heap.size<=k):DisX base lo w' S' X' r:=by
 obtain ⟨C,D,Y,B,h1,E,A,d,g1,g2,g3,g4,g5,g6⟩:=h;have F:=(Array.getElem?_eq_some_iff.1 g2).1;refine ⟨C,D,Y,B,h1.next hm (λk hk=>hk.elim (h1.apart k) (E k)) e1 e2 e3 e4 hf,λk hk=>(hx k hk).elim (E k) λJ=>⟨λI=>?_,λe=>?_⟩,A,d,e5.trans g1,(hm.block A F (λh=>h.elim g4 g5)).trans g2,g3,λh=>(hf A h).elim g4 λh=>by omega,λh=>(hx A h).elim g5 λh=>by omega,g6⟩
 . have:=h1.inv.lt I; omega
 . have:=(Array.getElem?_eq_some_iff.1 h1.cell).1; omega
theorem DisX.below {base lo:Nat} {w w':World} {S:StoD} {X:TabD} {r:Int} (h:DisX base lo w S X r) (hb:Below w.heap.size w w'):DisX base lo w' S X r :=
 h.next (Mod.of_below hb) rfl rfl rfl rfl rfl (λ_ h=>.inl h) (λ_ h=>.inl h)
structure MadeI (base:Nat) (W w:World) (D:DiskD) (now used:Int) (S:StoD) (X:TabD):Prop where
 st:StoTab base w S X
 now:S.now=now
 its:S.T.its=[]
 b:S.T.R.b=0
 syn:S.T.R.synced=S.T.R.e
 wt:S.T.D.waits=[]
 q:Quiet S.T.D
 db:S.T.D.blk=D.blk
 room:D.room - used<=S.T.D.room
 files:∀ p∈S.T.D.files,p.1=jw
 fl:S.T.D.files.length<=1
 pend:S.P.all=[]
 mod:Mod D.foot W w
 foot:∀ k,S.foot k->D.foot k\/W.heap.size<=k
 xfoot:∀ k,X.foot k->W.heap.size<=k
 low:base<=W.heap.size
 dis:DisX base W.heap.size w S X 4194184
 tb:X.l=[]\/∃ f,S.T.D.find jw=some f/\f.now=CrcMath.aj (ww X.l)
theorem MadeI.below {base:Nat} {W w w':World} {D:DiskD} {now used:Int} {S:StoD} {X:TabD} (h:MadeI base W w D now used S X) (hb:Below w.heap.size w w'):MadeI base W w' D now used S X :=
 { h with st:=h.st.below hb,mod:=h.mod.trans (Mod.of_below hb),dis:=h.dis.below hb }
theorem ack {base:Nat} {w:World} {S0:StoD} {X:TabD} (h:StoTab base w S0 X):w.cell? ⟨S0.blk,3,none⟩=some (.pointer (some ⟨X.blk,0,none⟩)) :=
 (h.sto.cell 3 _ rfl).trans (by show some S0.top=_; rw [h.top])
theorem ako:∀ p,p<=99999999->jw≠ah qz p:=aqc λx l e=>by cases e
theorem MadeI.add {base:Nat} {W w:World} {D:DiskD} {now used:Int} {S0:StoD} {X:TabD} (h:MadeI base W w D now used S0 X) (n:List UInt8) (q:Nat) (u:Int) (hok:qo X.l n q=0) (hn:n.length<=1000) (hl:∀ x∈X.l,x.1.length<=1000/\x.2<=255)
 (hu:used+((CrcMath.aj (ww (X.l++[(n,q)]))).length:Int)=u) (hr:u<=D.room) :
 Calls Tryz.prog 25 #[.pointer (some ⟨X.blk,0,none⟩),.string (S n),.int .i64 (q:Int)] w λe w'=>e=.returned (.int .i64 0)/\∃ S1 X1,MadeI base W w' D now u S1 X1/\X1.l=X.l++[(n,q)]/\X1.blk=X.blk/\S1.blk=S0.blk:=by
 have M:=h.st.tab;have E:=h.st.dk;have hz:=h.mod.size;obtain ⟨xb,dk,v,l⟩:=X;dsimp only at *
 subst E
 have hc:=atv (D:=S0.T.D) n q w M h.st.sto.tape.whole.dsk (λk hk e=>h.st.away k (.inr (.inl (.inr (.inl hk)))) (by subst e; exact .inl rfl)) h.q h.wt (λx O=>by
  obtain ⟨p,hp,rfl⟩:=List.mem_map.1 O;rw [h.files p hp]; decide) (by have:=h.fl; omega) (λp hp=>by rw [h.files p hp]; decide) hok hn hl (by have:=h.room; omega) (by have:=h.low; omega)
 refine hc.mono λe w' ⟨R,U,b,wv,m,h1,Y,F,Z,h5,h6,I⟩=>⟨R,S0.disk (DiskD.saved S0.T.D jw b (CrcMath.aj (ww (l++[(n,q)]))) wv),⟨xb,S0.T.D.blk,U,l++[(n,q)]⟩,?_,rfl,rfl,rfl⟩
 obtain ⟨hs,J⟩:=h.st.add ako h.wt Y h1 F Z h5 h6 I
 have B:(DiskD.saved S0.T.D jw b (CrcMath.aj (ww (l++[(n,q)]))) wv).files=[(jw,⟨b,CrcMath.aj (ww (l++[(n,q)])),CrcMath.aj (ww (l++[(n,q)]))⟩)]:=by
  show without S0.T.D.files jw++_=_;have:without S0.T.D.files jw=[]:=List.filter_eq_nil_iff.2 λp hp=>by simp [h.files p hp]
  rw [this]; rfl
 have ak:=akl (D:=S0.T.D) (n:=jw) (t:=CrcMath.aj (ww (l++[(n,q)]))) (b:=b) (wv:=wv);refine ⟨hs,h.now,h.its,h.b,h.syn,h.wt,⟨h.q.left,h.q.up⟩,h.db,by have:=h.room; show _<=(DiskD.saved S0.T.D jw b (CrcMath.aj (ww (l++[(n,q)]))) wv).room; omega,λp hp=>?_,?_,h.pend,?_,λk hk=>(J k hk).elim (h.foot k) λh=>.inr (by omega),λk hk=>?_,h.low,h.dis.next (F.mono λk _ hk=>hk.elim (λA=>.inl (.inr (.inl (.inr (.inl A))))) λe=>.inr (.inl e)) rfl rfl rfl rfl rfl J λk hk=>hk.elim (λe=>.inl (.inl e)) λA=>.inr (I k A).1,.inr ⟨⟨b,CrcMath.aj (ww (l++[(n,q)])),CrcMath.aj (ww (l++[(n,q)]))⟩,?_,rfl⟩⟩
 . have hp:p∈(DiskD.saved S0.T.D jw b (CrcMath.aj (ww (l++[(n,q)]))) wv).files:=hp
   rw [B,List.mem_singleton] at hp; rw [hp]
 . show (DiskD.saved S0.T.D jw b (CrcMath.aj (ww (l++[(n,q)]))) wv).files.length<=1
   rw [B]; exact Nat.le_refl _
 . exact ((h.mod.mono (N:=λk=>D.foot k\/W.heap.size<=k) λk _ A=>.inl A).trans (F.mono (N:=λk=>D.foot k\/W.heap.size<=k) λk _ hk=>hk.elim (λA=>h.foot k (.inr (.inl (.inr (.inl A))))) λe=>.inr (h.xfoot k (.inl e)))).mono λk hk A=>A.elim (λh=>h) λh=>by omega
 . rcases hk with hk | hk
   . exact h.xfoot k (.inl hk)
   . have:=(I k hk).1; omega
 ·
  show DiskD.find (DiskD.saved S0.T.D jw b (CrcMath.aj (ww (l++[(n,q)]))) wv) jw=_;unfold DiskD.find;rw [B];rfl
def ja:List (List UInt8×Nat):=[([97],1),([98],3),([108,111,110,103,45,116,111,112,105,99,45,110,97,109,101,49],2)]
theorem anq:((CrcMath.aj (ww ([]++[([97],1)]))).length:Int)=9:=by rw [CrcMath.jr]; decide
theorem anr:((CrcMath.aj (ww ([([97],1)]++[([98],3)]))).length:Int)=13:=by rw [CrcMath.jr]; decide
theorem ant:((CrcMath.aj (ww ([([97],1),([98],3)]++[([108,111,110,103,45,116,111,112,105,99,45,110,97,109,101,49],2)]))).length:Int)=32:=by rw [CrcMath.jr]; decide
theorem aip {base:Nat} {D:DiskD} (now:Nat) (W:World) (hD:DiskAt base W D) (hq:Quiet D) (hf:D.files=[]) (M:D.waits=[]) (hbase:base<=W.heap.size) (hT:TabB base W) (hnow:now<=1099511626776) (hr:200<=D.room) :
 Calls Tryz.prog 6 #[.pointer (some ⟨D.blk,0,none⟩),.int .i64 (now:Int)] W λe w'=>∃ S X,e=.returned (.tuple #[.pointer (some ⟨S.blk,0,none⟩),.bool true])/\MadeI base W w' D (now:Int) 54 S X/\X.l=ja:=by
 have bz:=zq (DskW.new_any 4194304 base W hbase);have H1:Zq (DiskAt base W D/\Quiet D/\D.files=[]/\D.waits=[]/\200<=D.room):=⟨hD,hq,hf,M,hr⟩;have b0:=zq hT;have Z:=zq hbase;have b1:=zq hnow;clear hD hq hf M hT hbase hr hnow;go_enter Tryz.func6,Tryz.ntmps6;go_wp2_with fail;refine bz.o.mono ?_;rintro e w4 ⟨D2,rfl,ab,O,av,a1,b2,b5,F,b6,a7,a8⟩;clear bz;obtain ⟨hD,b7,b8,b9,cx⟩:=H1.o;have ba:=zq O
 have HO:=zq (aib (base:=base) now w4 (hD.below O) b7 b8 b9 (Nat.le_trans Z.o O.size) (b0.o.below O) ab ⟨b2,b5⟩ F (by have:=acj (c:=4194304) F (by rw [a8]; rfl); omega) b6
  (λk hk B=>by have h3:=hD.lt hk; have h4:=ain ab F a7 av a1 k B; omega) b1.o)
 have ca:Zq (D2.room=4194304):=acj F (by rw [a8]; rfl);have bb:Zq (∀ k,D2.foot k->W.heap.size<=k):=λk hk=>ain ab F a7 av a1 k hk
 clear ab O av a1 b2 b5 F b6 a7 a8 hD b7 b8 b9 cx b0 b1;go_wp2_with fail;refine HO.o.mono ?_;rintro e w5 ⟨S0,rfl,hS,cb,R,hb,cc,M,hq,bc,cd,bd,⟨I,b4,tv,cf,cg,da,A,ac,ci,CC,DD,YY,BB,U,E⟩,hm,cj⟩;clear HO;have db:=ba.o.size
 have ad:Zq (MadeI base W w5 D (now:Int) 0 S0 ⟨I,D.blk,tv,[]⟩):=by
  refine ⟨⟨hS,⟨A.t,ahs A.r (by have:=Z.o; omega),by have:=A.lo; have:=Z.o; show base<=I; omega⟩,cf,bc.symm,λk hk B=>?_⟩,cb,R,hb,cc,M,hq,bc,by rw [cd]; omega,by rw [bd]; simp,by rw [bd]; simp,?_,?_,λk hk=>(cj k hk).imp (λh=>h) λh=>by omega,λk hk=>?_,Z.o,?_,.inl rfl⟩
  . rcases B with B | B
    . have B:k=I:=B
      subst B; exact ac _ (.inl rfl) hk
    . exact ac k (.inr (.inr B)) hk
  . rw [ci,af7 hS.tape R]; rfl
  . exact ((Mod.of_below ba.o).trans (hm.mono (N:=λk=>D.foot k\/W.heap.size<=k) λk _ hk=>hk.imp (λh=>h) (bb.o k))).mono λk hk h=>h.elim (λh=>h) λh=>by omega
  . rcases hk with B | B
    . have B:k=I:=B
      have:=A.lo; omega
    . have:=(A.lo_all (.inr (.inr B))).1; omega
  ·
   refine ⟨CC,DD,YY,BB,{ U.mono (L':=λk=>W.heap.size<=k) (λk hk=>hk.elim (bb.o k) λh=>by omega) with room:=by have:=U.room; have:=ca.o; omega },λk hk=>?_,b4,_,cg,A.g,by have:=A.lo; omega,ac b4 (.inr (.inl rfl)),λh=>?_,λh=>?_⟩
   . rcases hk with B | B
     . have B:k=I:=B
       exact E k (.inl B)
     . exact E k (.inr (.inr B))
   . rcases h with h | h
     . exact A.lo.2.2 (show b4=I from h).symm
     . exact (A.own h).2 rfl
   . exact h.elim (E b4 (.inr (.inl rfl))).1 (E b4 (.inr (.inl rfl))).2
 have ck:=H1.o.2.2.2.2;clear hS cb R hb cc M hq bc cd bd cf cg da A ac ci U E hm cj db bb ca ba H1;have bh:=zq ck;clear ck;obtain ⟨sb,al⟩:∃ sb,S0.blk=sb:=⟨_,rfl⟩;have cm:=zq al;have c3:w5.cell? ⟨sb,3,none⟩=some (.pointer (some ⟨I,0,none⟩)):=by rw [<- al]; exact ack ad.o.st
 have cn:=zq (ap3 w5 ad.o.st.tab (by simp));rw [al];clear al;go_wp2_with fail;refine cn.o.mono ?_;rintro e w6 ⟨v',rfl,ho,bj⟩;obtain ⟨a6,dt,dc,_⟩:=RowT.own ho;subst dc;have co:=zq (ad.o.below bj);have dd:w6.cell? ⟨sb,3,none⟩=some (.pointer (some ⟨I,0,none⟩)):=by rw [bj.cell (ax c3)]; exact c3
 clear ho bj cn c3 ad;have am:=zq (co.o.add [97] 1 9 rfl (by decide) (by simp) (by rw [anq]; rfl) (by have:=bh.o; omega));rw [show ((1:Nat):Int)=1 from rfl,show S [97]=⟨#[97]⟩ from rfl] at am;change Zq (Calls _ _ #[.pointer (some ⟨I,0,none⟩),_,_] _ _) at am;go_wp2_with fail;refine am.o.mono ?_;rintro e w7 ⟨rfl,S1,X1,an,Y,bk,bl⟩;have de:=zq an;have cp:Zq (X1.l=[([97],1)]):=Y;have c7:w7.cell? ⟨sb,3,none⟩=some (.pointer (some ⟨I,0,none⟩)):=by rw [<- cm.o,<- bl]; exact (ack an.st).trans (by rw [bk])
 have ao:=zq (an.add [98] 3 22 (by rw [Y]; rfl) (by decide) (by rw [Y]; simp) (by rw [Y]; rw [show ([]++[([97],1)]++[([98],3)]:List (List UInt8×Nat))=[([97],1)]++[([98],3)] from rfl,anr]; rfl) (by have:=bh.o; omega));rw [show ((3:Nat):Int)=3 from rfl,show S [98]=⟨#[98]⟩ from rfl,bk] at ao;have bm:Zq (S1.blk=sb):=bl.trans cm.o;change Zq (Calls _ _ #[.pointer (some ⟨I,0,none⟩),_,_] _ _) at ao;clear an Y bk bl am co dd;go_wp2_with fail;refine ao.o.mono ?_;rintro e w8 ⟨rfl,S2,X2,ap,J,bo,bp⟩;rw [cp.o] at J;have dj:=zq ap;have c8:w8.cell? ⟨sb,3,none⟩=some (.pointer (some ⟨I,0,none⟩)):=by rw [<- bm.o,<- bp]; exact (ack ap.st).trans (by rw [bo])
 have ar:=zq (ap.add [108,111,110,103,45,116,111,112,105,99,45,110,97,109,101,49] 2 54 (by rw [J]; rfl) (by decide) (by rw [J]; simp) (by rw [J]; rw [show ([([97],1)]++[([98],3)]++[([108,111,110,103,45,116,111,112,105,99,45,110,97,109,101,49],2)]:List (List UInt8×Nat))=[([97],1),([98],3)]++[([108,111,110,103,45,116,111,112,105,99,45,110,97,109,101,49],2)] from rfl,ant]; rfl) (by have:=bh.o; omega));rw [show ((2:Nat):Int)=2 from rfl,show S [108,111,110,103,45,116,111,112,105,99,45,110,97,109,101,49]=⟨#[108,111,110,103,45,116,111,112,105,99,45,110,97,109,101,49]⟩ from rfl,bo] at ar;have cq:Zq (S2.blk=sb):=bp.trans bm.o;have cr:Zq (X2.l=[([97],1)]++[([98],3)]):=J;change Zq (Calls _ _ #[.pointer (some ⟨I,0,none⟩),_,_] _ _) at ar;clear ap J bo bp ao de c7 cp bm;go_wp2_with fail;refine ar.o.mono ?_;rintro e w9 ⟨rfl,S3,X3,cs,br,dk,cv⟩;rw [cr.o] at br;have dl:Zq (MadeI base W w9 D (now:Int) 54 S3 X3/\X3.l=ja/\S3.blk=sb):=⟨cs,br,cv.trans cq.o⟩;clear cs br dk cv ar dj c8 cr cq;go_wp2_with fail;go_ret2;obtain ⟨g1,g2,g3⟩:=dl.o;exact ⟨S3,X3,by rw [g3]; rfl,g1,g2⟩
def WantRow (w:World) (a:Option Addr) (ms:List (ib×Option Addr×Nat)):Prop :=
 ∀ i (h:i < ms.length),∃ g off,a=some ⟨g,off,none⟩/\(∀ (j:Nat) (v:Value),(ig ms[i].1 ms[i].2.1 ms[i].2.2)[j]?=some v->w.cell? ⟨g,off+i * 5+j,none⟩=some v)/\Strs w ms[i].2.1 (ms[i].1.keys.map S)
theorem WantRow.below {w w':World} {a:Option Addr} {ms:List (ib×Option Addr×Nat)} (h:WantRow w a ms) (hb:Below w.heap.size w w'):WantRow w' a ms:=λi B=>by
 obtain ⟨g,off,h1,E,F⟩:=h i B;exact ⟨g,off,h1,λj v I=>by have A:=E j v I; rw [hb.cell (ax A)]; exact A,Strs.below F hb⟩
def aax (x:ib):Bool:=decide (100 < x.topic.length) || (decide (100 < x.tag.length) || (decide (10 < x.keys.length) || decide (1000 < x.body.length)))
def lh (x:ib):Bool:=aax x || x.keys.any λt=>decide (100 < t.length)
theorem ash {x:ib} (hq:inI x.queue) (h:lh x=false):su x/\x.topic.length<=100/\x.body.length<=1000/\x.keys.length<=10:=by
 unfold lh aax at h;simp only [Bool.or_eq_false_iff,decide_eq_false_iff_not,List.any_eq_false,decide_eq_true_eq] at h;obtain ⟨⟨g1,g2,g3,g4⟩,g5⟩:=h;exact ⟨⟨hq,by omega,by omega,by omega,by omega,λt A=>by have:=g5 t A; omega⟩,by omega,by omega,by omega⟩
theorem anu (ms:List (ib×Option Addr×Nat)) (a0:Option Addr) (c0:Nat) (W:World) (h:WantRow W a0 ms) (hl:ms.length<=1073741824) :
 Calls Tryz.prog 5 #[.slice a0 ms.length c0] W λe w'=>e=.returned (.bool (ms.any λp=>lh p.1))/\Below W.heap.size W w':=by
 have HH:=zq h;have HL:=zq hl;clear h;go_enter Tryz.func5,Tryz.ntmps5;go_wp2_with fail;go_loopw [9] (λi wr=>∃ k:Nat,k<=ms.length/\i=.int .i64 (k:Int)/\Zq (((ms.take k).any λp=>lh p.1)=false/\Below W.heap.size W wr)) (λi _=>ms.length - (intOf i).toNat)
 case atStart=>exact ⟨0,Nat.zero_le _,rfl,rfl,Below.refl _ _⟩
 case round =>
  obtain ⟨k,hk,rfl,N⟩:=hrel;obtain ⟨F,rfl⟩:∃ F:World,F=wr:=⟨_,rfl⟩
  by_cases hlt:k < ms.length
  ·
   obtain ⟨g,off,rfl,B,E⟩:=HH.o k hlt;obtain ⟨p,hp⟩:∃ p,p=ms[k]:=⟨_,rfl⟩
   have R:Zq (((ms.take (k+1)).any λp=>lh p.1)=lh p.1):=by
    show _=_;rw [List.take_succ_eq_append_getElem hlt,List.any_append,N.o.1,<- hp]; simp
   have A:Zq (lh p.1=true->(ms.any λp=>lh p.1)=true):=λhg=>List.any_eq_true.2 ⟨p,by rw [hp]; exact List.getElem_mem hlt,hg⟩
   rw [<- hp] at B E;clear hp;obtain ⟨x,a,c⟩:=p;have HK:=zq (Strs.below E N.o.2)
   have I:∀ (j:Nat) (v:Value),(ig x a c)[j]?=some v->F.cell? ⟨g,off+k * 5+j,none⟩=some v:=λj v hv=>by
    have h1:=B j v hv;rw [N.o.2.cell (ax h1)]; exact h1
   have k0:F.cell? ⟨g,off+k * 5,none⟩=some (.string (S x.topic)):=I 0 _ rfl;have k1:F.cell? ⟨g,off+k * 5+1,none⟩=some (.int .i64 x.queue):=I 1 _ rfl;have k2:F.cell? ⟨g,off+k * 5+2,none⟩=some (.string (S x.tag)):=I 2 _ rfl;have k3:F.cell? ⟨g,off+k * 5+3,none⟩=some (.slice a x.keys.length c):=I 3 _ rfl;have k4:F.cell? ⟨g,off+k * 5+4,none⟩=some (.string (S x.body)):=I 4 _ rfl;clear B E I;have J:Zq (Below W.heap.size W (F.alloc (.cells #[.string (S x.topic),.int .i64 x.queue,.string (S x.tag),.slice a x.keys.length c,.string (S x.body)] 35))):=N.o.2.alloc N.o.2.size _
   by_cases h1:100 < x.topic.length
   ·
    have z1:(100:Int) < ((S x.topic).size:Int):=by rw [ai]; omega
    have M:Zq ((ms.any λp=>lh p.1)=true):=A.o (by unfold lh aax; simp [h1]);clear h1;go_wp2_with fail;go_ret;exact ⟨by rw [M.o]; rfl,J.o⟩
   have z1:((S x.topic).size:Int)<=(100:Int):=by rw [ai]; omega
   by_cases h2:100 < x.tag.length
   ·
    have z2:(100:Int) < ((S x.tag).size:Int):=by rw [ai]; omega
    have M:Zq ((ms.any λp=>lh p.1)=true):=A.o (by unfold lh aax; simp [h2]);clear h2;go_wp2_with fail;go_ret;exact ⟨by rw [M.o]; rfl,J.o⟩
   have z2:((S x.tag).size:Int)<=(100:Int):=by rw [ai]; omega
   by_cases h3:10 < x.keys.length
   ·
    have z3:(10:Int) < (x.keys.length:Int):=by omega
    have M:Zq ((ms.any λp=>lh p.1)=true):=A.o (by unfold lh aax; simp [h3]);clear h3;go_wp2_with fail;go_ret;exact ⟨by rw [M.o]; rfl,J.o⟩
   have z3:(x.keys.length:Int)<=(10:Int):=by omega
   by_cases h4:1000 < x.body.length
   ·
    have z4:(1000:Int) < ((S x.body).size:Int):=by rw [ai]; omega
    have M:Zq ((ms.any λp=>lh p.1)=true):=A.o (by unfold lh aax; simp [h4]);clear h4;go_wp2_with fail;go_ret;exact ⟨by rw [M.o]; rfl,J.o⟩
   have z4:((S x.body).size:Int)<=(1000:Int):=by rw [ai]; omega
   have Z:Zq (aax x=false):=by show _=_; unfold aax; simp; omega
   clear h1 h2 h3 h4;have ab:Zq (Strs (F.alloc (.cells #[.string (S x.topic),.int .i64 x.queue,.string (S x.tag),.slice a x.keys.length c,.string (S x.body)] 35)) a (x.keys.map S)):=Strs.below HK.o ((Below.refl _ _).alloc (Nat.le_refl _) _);have U:=heap_alloc_new F (.cells #[.string (S x.topic),.int .i64 x.queue,.string (S x.tag),.slice a x.keys.length c,.string (S x.body)] 35);go_upto_region 6 with fail
   clear k0 k1 k2 k3 k4 HK;generalize (F.alloc (.cells #[.string (S x.topic),.int .i64 x.queue,.string (S x.tag),.slice a x.keys.length c,.string (S x.body)] 35))=w5 at *
   generalize F.heap.size=g5 at *
   have k3:w5.cell? ⟨g5,3,none⟩=some (.slice a x.keys.length c):=aa U 3 _ rfl;clear U;go_wp2_with fail;obtain ⟨w6,X⟩:∃ w6:World,w6=w5:=⟨_,rfl⟩;go_loopw [38] (λi w2=>∃ j:Nat,j<=x.keys.length/\i=.int .i64 (j:Int)/\w2=w6/\Zq (∀ t∈x.keys.take j,t.length<=100)) (λi _=>x.keys.length - (intOf i).toNat)
   case atStart=>exact ⟨0,Nat.zero_le _,rfl,X.symm,λt O=>by cases O⟩
   case round =>
    obtain ⟨j,hj,rfl,rfl,Y⟩:=hrel;subst X
    by_cases hjl:j < x.keys.length
    ·
     obtain ⟨b,o2,rfl,ad⟩:=ab.o j (by rw [List.length_map]; exact hjl);rw [List.getElem_map] at ad
     have ak:Zq (∀ t∈x.keys.take (j+1),t∈x.keys.take j\/t=x.keys[j]):=λt O=>by
      rw [List.take_succ_eq_append_getElem hjl] at O
      rcases List.mem_append.1 O with h | h
      . exact .inl h
      . exact .inr (by simpa using h)
     have al:Zq (x.keys[j]∈x.keys):=List.getElem_mem hjl;generalize x.keys[j]=t at *
     by_cases h5:100 < t.length
     . have z5:(100:Int) < ((S t).size:Int):=by rw [ai]; omega
       have M:Zq ((ms.any λp=>lh p.1)=true):=A.o (by unfold lh; rw [Bool.or_eq_true]; exact .inr (List.any_eq_true.2 ⟨t,al.o,by simpa using h5⟩));clear h5;go_wp2_with fail;go_ret;exact ⟨by rw [M.o]; rfl,J.o⟩
     . have z5:((S t).size:Int)<=(100:Int):=by rw [ai]; omega
       have am:Zq (∀ t∈x.keys.take (j+1),t.length<=100):=λy hy=>(ak.o y hy).elim (Y.o y) λe=>by rw [e]; omega
       clear h5;go_wp2_with fail;go_roundw
       case rel=>exact ⟨j+1,by omega,by go_num,trivial,am.o⟩
       case measure=>simp [intOf]; omega
    ·
     have an:j=x.keys.length:=by omega
     subst an;rw [List.take_length] at Y
     have ao:Zq (lh x=false):=by
      show _=_;unfold lh;rw [Z.o,Bool.false_or,List.any_eq_false];intro t O;have:=Y.o t O;simp; omega
     clear Y hjl hj;go_wp2_with fail;go_roundw
     case rel=>exact ⟨k+1,by omega,by go_num,by rw [R.o]; exact ao.o,J.o⟩
     case measure=>simp [intOf]; omega
  ·
   have ap:k=ms.length:=by omega
   subst ap;have M:Zq ((ms.any λp=>lh p.1)=false):=by have h1:=N.o.1; rw [List.take_length] at h1; exact h1
   go_wp2_with fail;go_ret;exact ⟨by rw [M.o]; rfl,N.o.2⟩
end SndW
namespace RecW
open Go.RowKit OctMath NameMath RecMath
end RecW
namespace SndW
open Go.RowKit Go.MapKept Go.Sort OctMath RecMath RecW DskW SegW MapG TapeW TapeMath PendW CacheW StoW TopW NameMath
def zu (t:List UInt8):Nat:=if t=[97] then 1 else if t=[98] then 3 else if t=[108,111,110,103,45,116,111,112,105,99,45,110,97,109,101,49] then 2 else 0
theorem akp (t:List UInt8):((ofL t).isEmpty=true->zu t=jb ja t)/\((ofL t).isEmpty=false->zu t=0):=by
 unfold zu
 by_cases h1:t=[97]
 . subst h1; exact ⟨λ_=>by decide,λh=>by exact absurd h (by decide)⟩
 by_cases h2:t=[98]
 . subst h2; exact ⟨λ_=>by decide,λh=>by exact absurd h (by decide)⟩
 by_cases h3:t=[108,111,110,103,45,116,111,112,105,99,45,110,97,109,101,49]
 . subst h3; exact ⟨λ_=>by decide,λh=>by exact absurd h (by decide)⟩
 rw [if_neg h1,if_neg h2,if_neg h3];refine ⟨λh=>?_,λ_=>rfl⟩;unfold jb
 rw [if_pos h,aii t ja (λx A=>by
  unfold ja at A;simp only [List.mem_cons,List.not_mem_nil,or_false] at A
  rcases A with rfl | rfl | rfl
  . exact λe=>h1 e.symm
  . exact λe=>h2 e.symm
  . exact λe=>h3 e.symm)]
 rfl
theorem abw:Keyed Tryz.prog 9 (IsKey .string):=ac7
theorem aqd (w:World):(zeroValue 3).run Tryz.prog w=.ok (.int .i64 0) w:=by rfl
theorem au2 (w:World):∃ w1 w2 w3,(Instr.mapUpdate 55 (.map (some w.heap.size)) (.string ⟨#[97]⟩) (.int .i64 1)).run Tryz.prog (w.alloc (.map #[] 0))=.ok () w1 /\
 (Instr.mapUpdate 55 (.map (some w.heap.size)) (.string ⟨#[98]⟩) (.int .i64 3)).run Tryz.prog w1=.ok () w2 /\
 (Instr.mapUpdate 55 (.map (some w.heap.size)) (.string ⟨#[108,111,110,103,45,116,111,112,105,99,45,110,97,109,101,49]⟩) (.int .i64 2)).run Tryz.prog w2=.ok () w3/\Below w.heap.size w w3 /\
 ∀ t:List UInt8,(Instr.lookup 55 (.map (some w.heap.size)) (.string (S t)) false).run Tryz.prog w3=.ok (.int .i64 (zu t:Int)) w3:=by
 have A:Tryz.prog.underlying 55=some (.map 9 3):=Tryz.underlying55;have hk:∀ s:ByteArray,IsKey .string (.string s):=λs=>trivial
 have J:(⟨#[97]⟩:ByteArray)=S [97]:=rfl;have M:(⟨#[98]⟩:ByteArray)=S [98]:=rfl;have N:(⟨#[108,111,110,103,45,116,111,112,105,99,45,110,97,109,101,49]⟩:ByteArray)=S [108,111,110,103,45,116,111,112,105,99,45,110,97,109,101,49]:=rfl;rw [J,M,N];have B:∀ {a b:List UInt8},Value.string (S a)=Value.string (S b)->a=b:=λh=>by injection h with h; exact OctMath.S_inj h
 have O:=PairsAt.new w;obtain ⟨w1,R,U,m1⟩:=om A abw O (λp hp=>by cases hp) (hk (S [97])) (λp hp=>by cases hp) (.int .i64 1)
 have k1:∀ p∈([]++[(Value.string (S [97]),Value.int .i64 1)]:List (Value×Value)),IsKey .string p.1:=λp hp=>by
  rw [List.nil_append,List.mem_singleton] at hp; subst hp; exact hk _
 obtain ⟨w2,X,p2,m2⟩:=om A abw U k1 (hk (S [98])) (λp hp e=>by
  rw [List.nil_append,List.mem_singleton] at hp; subst hp; exact absurd (B e) (by decide)) (.int .i64 3)
 have I:∀ p∈([]++[(Value.string (S [97]),Value.int .i64 1)]++[(Value.string (S [98]),Value.int .i64 3)]:List (Value×Value)),IsKey .string p.1:=λp hp=>by
  rcases List.mem_append.1 hp with h | h
  . exact k1 p h
  . rw [List.mem_singleton] at h; subst h; exact hk _
 obtain ⟨w3,Y,p3,m3⟩:=om A abw p2 I (hk (S [108,111,110,103,45,116,111,112,105,99,45,110,97,109,101,49])) (λp hp e=>by
  rcases List.mem_append.1 hp with h | h
  . rw [List.nil_append,List.mem_singleton] at h; subst h; exact absurd (B e) (by decide)
  . rw [List.mem_singleton] at h; subst h; exact absurd (B e) (by decide)) (.int .i64 2)
 refine ⟨w1,w2,w3,R,X,Y,?_,λt=>?_⟩
 . have F:Mod (λx=>x=w.heap.size) w w3:=(((Mod.of_below ((Below.refl _ w).alloc (Nat.le_refl _) (.map #[] 0))).trans m1).trans m2).trans m3
   exact F.to_below _ (Nat.le_refl _) λk e=>by omega
 ·
  have E:∀ p∈([]++[(Value.string (S [97]),Value.int .i64 1)]++[(Value.string (S [98]),Value.int .i64 3)]++[(Value.string (S [108,111,110,103,45,116,111,112,105,99,45,110,97,109,101,49]),Value.int .i64 2)]:List (Value×Value)),IsKey .string p.1:=λp hp=>by
   rcases List.mem_append.1 hp with h | h
   . exact I p h
   . rw [List.mem_singleton] at h; subst h; exact hk _
  unfold zu
  by_cases h1:t=[97]
  . subst h1; exact qc A abw p3 E (hk _) (by simp) false
  by_cases h2:t=[98]
  . subst h2; exact qc A abw p3 E (hk _) (by simp) false
  by_cases h3:t=[108,111,110,103,45,116,111,112,105,99,45,110,97,109,101,49]
  . subst h3; exact qc A abw p3 E (hk _) (by simp) false
  rw [if_neg h1,if_neg h2,if_neg h3]
  exact vw A abw p3 E (hk _) (λp hp e=>by
   simp only [List.nil_append,List.cons_append,List.mem_cons,List.not_mem_nil,or_false] at hp
   rcases hp with rfl | rfl | rfl
   . exact h1 (B e).symm
   . exact h2 (B e).symm
   . exact h3 (B e).symm) aqd false
theorem wy:∀ y∈ja,fu y.1=true/\y.2<=3:=by decide
def za:ib:=⟨[97],0,[],[],[]⟩
theorem aiq:su za:=⟨⟨by decide,by decide⟩,by decide,by decide,by decide,by decide,λt A=>by cases A⟩
theorem asi:pq ja za=0:=by decide
theorem MadeI.fits {base:Nat} {W w:World} {D:DiskD} {now used:Int} {S0:StoD} {X:TabD} (h:MadeI base W w D now used S0 X):S0.T.R.e=0/\S0.T.O.recs=[]/\S0.T.D.waits.length=0:=⟨atx h.st.sto.tape h.its h.b,af7 h.st.sto.tape h.its,by rw [h.wt]; rfl⟩
structure SentI (base:Nat) (W w:World) (sb db ob most k:Nat) (nw:Int) (ws:List ib) (S0:StoD) (X:TabD):Prop where
 st:StoTab base w S0 X
 quiet:Quiet S0.T.D
 now:S0.now=nw
 blk:S0.blk=sb
 dblk:S0.T.D.blk=db
 oblk:S0.T.O.blk=ob
 room:(((most - k) * 1531:Nat):Int)<=S0.T.D.room
 wl:S0.T.D.waits.length<=2 * k
 e:S0.T.R.e<=1531 * k
 recs:S0.T.O.recs.map (·.2)=(ws.take k).map λx=>jh x 1 0 nw
 ft:∀ j,S0.foot j->base<=j
 low:Below base W w
theorem SentI.below {base:Nat} {W w w':World} {sb db ob most k:Nat} {now:Int} {ws:List ib} {S0:StoD} {X:TabD} (h:SentI base W w sb db ob most k now ws S0 X) (hb:Below w.heap.size w w') (hs:base<=w.heap.size):SentI base W w' sb db ob most k now ws S0 X :=
 { h with st:=h.st.below hb,low:=h.low.trans (hb.mono hs) }
theorem SentI.rl {base:Nat} {W w:World} {sb db ob most k:Nat} {now:Int} {ws:List ib} {S0:StoD} {X:TabD} (h:SentI base W w sb db ob most k now ws S0 X):S0.T.O.recs.length<=k:=by
 have:=congrArg List.length h.recs;rw [List.length_map,List.length_map,List.length_take] at this;omega
theorem air {e:Nat} {m:Msg} (hl:3<=jl e) (hr:bn m=true) (h0:m.kind≠0):(bv e m).length<=1024/\(bg m).length<=507:=by
 obtain ⟨l1,l2⟩:=xh hr h0;have B:=aem e m hl;have A:=room_le e;refine ⟨?_,l2⟩
 rcases B with ⟨e,_⟩ | ⟨e,_⟩
 . rw [e]; exact Nat.zero_le _
 . omega
theorem SentI.next {base:Nat} {W w w2:World} {sb db ob most k:Nat} {now:Int} {ws:List ib} {S0 S1:StoD} {X:TabD} {sy:Bool} (h:SentI base W w sb db ob most k now ws S0 X) (hk:k < most) (hkl:k < ws.length) (hr:bn (jh ws[k] 1 0 S0.now)=true) (hs:base<=w.heap.size)
 (h1:StoTab base w2 S1 X) (hp:Put w.heap.size S0 S1 (jh ws[k] 1 0 S0.now) sy) (hm:Mod S0.foot w w2):SentI base W w2 sb db ob most (k+1) now ws S1 X:=by
 have h0:(jh ws[k] 1 0 S0.now).kind≠0:=by show (1:Int)≠0; decide
 obtain ⟨l1,l2⟩:=air (agu h.st.sto.tape) hr h0;obtain ⟨_,F,I⟩:=aio h.st.sto h1.sto hp;have B:=ae1 h.st.sto h1.sto hp;have A:(gz (pg S0.T.R.e (jh ws[k] 1 0 S0.now))).length=(bv S0.T.R.e (jh ws[k] 1 0 S0.now)).length+(bg (jh ws[k] 1 0 S0.now)).length:=by rw [vz,List.length_append]
 refine ⟨h1,hp.quiet,by rw [hp.same]; exact h.now,by rw [hp.same]; exact h.blk,hp.dblk.trans h.dblk,hp.oblk.trans h.oblk,?_,?_,?_,?_,λj E=>(hp.foot j E).elim (h.ft j) λJ=>by omega,h.low.trans (hm.to_below _ hs h.ft)⟩
 . rw [hp.room,A]; have:=h.room; omega
 . have:=hp.wl; have:=h.wl; omega
 . have:=h.e; omega
 . rw [B,List.map_append,h.recs,List.take_succ_eq_append_getElem hkl,List.map_append,h.now]; rfl
theorem SentI.fits {base:Nat} {W w:World} {sb db ob most k:Nat} {now:Int} {ws:List ib} {S0:StoD} {X:TabD} (h:SentI base W w sb db ob most k now ws S0 X) (hk:k < most) {m:Msg} (hr:bn m=true) (h0:m.kind≠0):(((bv S0.T.R.e m).length+(bg m).length:Nat):Int)<=S0.T.D.room:=by
 obtain ⟨l1,l2⟩:=air (agu h.st.sto.tape) hr h0;have:=h.room;omega
def xy (p:ib×Option Addr×Nat):Bool:=decide (pq ja p.1=0)
def uk (ws:List (ib×Option Addr×Nat)):List (ib×Option Addr×Nat):=ws.filter xy
def ou (ws:List (ib×Option Addr×Nat)) (i:Nat):Nat:=((ws.take i).filter xy).length
theorem af8 (ws:List (ib×Option Addr×Nat)) (i:Nat):(uk ws).take (ou ws i)=(ws.take i).filter xy:=by
 have h:uk ws=(ws.take i).filter xy++(ws.drop i).filter xy:=by unfold uk; rw [<- List.filter_append,List.take_append_drop]
 unfold ou;rw [h,List.take_left]
theorem ae2 (ws:List (ib×Option Addr×Nat)) (i:Nat):ou ws i<=(uk ws).length/\ou ws i<=i/\(uk ws).length<=ws.length:=by
 have h:uk ws=(ws.take i).filter xy++(ws.drop i).filter xy:=by unfold uk; rw [<- List.filter_append,List.take_append_drop]
 refine ⟨by rw [h,List.length_append]; exact Nat.le_add_right _ _,?_,List.length_filter_le ..⟩;have h1:ou ws i<=(ws.take i).length:=List.length_filter_le ..
 rw [List.length_take] at h1;omega
theorem aqe {ws:List (ib×Option Addr×Nat)} {i:Nat} (hi:i < ws.length) (h:pq ja ws[i].1≠0):ou ws (i+1)=ou ws i:=by
 unfold ou;have A:¬ xy ws[i]=true:=by unfold xy; simpa using h
 rw [List.take_succ_eq_append_getElem hi,List.filter_append,List.filter_cons_of_neg A,List.filter_nil,List.append_nil]
theorem anv {ws:List (ib×Option Addr×Nat)} {i:Nat} (hi:i < ws.length) (h:pq ja ws[i].1=0):ou ws (i+1)=ou ws i+1/\∃ hk:ou ws i < (uk ws).length,(uk ws)[ou ws i]=ws[i]:=by
 have E:xy ws[i]=true:=by unfold xy; simpa using h
 have h1:(ws.take (i+1)).filter xy=(ws.take i).filter xy++[ws[i]]:=by
  rw [List.take_succ_eq_append_getElem hi,List.filter_append,List.filter_cons_of_pos E,List.filter_nil]
 have A:ou ws (i+1)=ou ws i+1:=by unfold ou; rw [h1,List.length_append]; rfl
 have B:=af8 ws (i+1);have hk:ou ws i < (uk ws).length:=by have:=(ae2 ws (i+1)).1; omega
 refine ⟨A,hk,?_⟩;rw [A,h1,List.take_succ_eq_append_getElem hk,af8] at B;exact (List.cons.inj (List.append_cancel_left B)).1
theorem anw (ws:List (ib×Option Addr×Nat)):ou ws ws.length=(uk ws).length:=by unfold ou uk; rw [List.take_length]
end SndW
namespace RetW
open Go.RowKit Go.MapKept Go.Sort OctMath RecMath RecW DskW SegW TapeW TapeMath PendW CacheW StoW TopW NameMath SndW
theorem anx (g t:List UInt8) (q p:Int) (hg:iq g=true) (ht:j6 t=true) (hgl:g.length<=100) (htl:t.length<=100) (hq:0<=q/\q < 3) (hp:0<=p/\p<=1000000) (W:World) :
 Calls Tryz.prog 93 #[.agg #[.string (S g),.string (S t),.int .i64 q,.int .i64 p]] W λe w'=>e=.returned (.int .i64 0)/\Below W.heap.size W w':=by
 have B:Below W.heap.size W (W.alloc (.cells #[.string (S g),.string (S t),.int .i64 q,.int .i64 p] 112)):=(Below.refl _ W).alloc (Nat.le_refl _) _;have I:Zq ((W.alloc (.cells #[.string (S g),.string (S t),.int .i64 q,.int .i64 p] 112)).heap[W.heap.size]?=some (.cells #[.string (S g),.string (S t),.int .i64 q,.int .i64 p] 112 (0,0))):=heap_alloc_new W _;have E:=zq B;have R:Zq (∀ w,Calls Tryz.prog 48 #[.string (S g)] w λe w'=>e=.returned (.bool true)/\Below w.heap.size w w'):=λw=>by have:=NameW.uq g (by omega) w; rw [hg] at this; exact this
 have U:Zq (∀ w,Calls Tryz.prog 157 #[.string (S t)] w λe w'=>e=.returned (.bool true)/\Below w.heap.size w w'):=λw=>by have:=NameW.aa6 t (by omega) w; rw [ht] at this; exact this
 have Z:¬ q < 0:=by omega
 have q2:¬ (3:Int)<=q:=by omega
 have p1:¬ p < 0:=by omega
 have p2:¬ (1099511627776:Int) < p:=by omega
 clear B hg ht hgl htl hq hp;generalize S g=sg at *
 generalize S t=st at *
 go_enter Tryz.func93,Tryz.ntmps93;go_upto_region 1 with fail
 generalize W.alloc (.cells #[.string sg,.string st,.int .i64 q,.int .i64 p] 112)=w1 at *
 obtain ⟨A,X⟩:∃ A,W.heap.size=A:=⟨_,rfl⟩;rw [X] at I ⊢;have Y:=aa I.o 0 _ rfl;go_wp2_with fail;refine (R.o w1).mono ?_;rintro e w2 ⟨rfl,hb⟩;have J:=ag hb I.o;have F:=zq (E.o.trans (hb.mono E.o.size));have M:=zq J;have k1:=aa J 1 _ rfl;clear J hb Y;go_wp2_with fail;refine (U.o w2).mono ?_;rintro e w3 ⟨rfl,hb⟩;have N:=ag hb M.o;have O:=zq (F.o.trans (hb.mono F.o.size));have k2:=aa N 2 _ rfl;have k3:=aa N 3 _ rfl;clear N hb k1 R U;go_wp2_with fail;go_ret;exact ⟨rfl,X ▸ O.o⟩
theorem aqf:∃ i,Tryz.prog.info? 112=some i/\i.zero=some (.agg #[.string ⟨#[]⟩,.string ⟨#[]⟩,.int .i64 0,.int .i64 0])/\i.size=4/\i.bytes=48:=by
 have:=(show (Tryz.prog.info? 112).map (λi=>(i.zero,i.size,i.bytes))=some (some (.agg #[.string ⟨#[]⟩,.string ⟨#[]⟩,.int .i64 0,.int .i64 0]),4,48) by kernel_rfl)
 cases hh:Tryz.prog.info? 112 with
 | none=>rw [hh] at this; cases this
 | some i=>rw [hh] at this; have A:=Option.some.inj this; exact ⟨i,rfl,congrArg (·.1) A,congrArg (·.2.1) A,congrArg (·.2.2) A⟩
theorem akq (g t:ByteArray) (q p:Int) (G:Nat) (w:World) (hG:w.heap[G]?=some (.cells #[.string g,.string t,.int .i64 q,.int .i64 p] 112 (0,0))) :
 ∃ R cap A,(Builtin.append_ #[115,115] 115 #[.slice none 0 0,.slice (some ⟨G,0,none⟩) 1 1]).run Tryz.prog w=.ok (.slice (some ⟨R,0,none⟩) 1 cap) A /\
  A.cell? ⟨R,0,none⟩=some (.string g)/\A.cell? ⟨R,1,none⟩=some (.string t)/\A.cell? ⟨R,2,none⟩=some (.int .i64 q)/\A.cell? ⟨R,3,none⟩=some (.int .i64 p)/\Below w.heap.size w A/\w.heap.size<=R:=by
 obtain ⟨i0,M,N,O,U⟩:=aqf;have h0:w.ownsRow w.heap.size 112 4 (.slice none 0 0) 0 []:=⟨rfl,.inl ⟨rfl,rfl⟩⟩
 obtain ⟨v',A,hr,F,B,_,ac⟩:=run_append_own_at (P:=Tryz.prog) _ w.heap.size 115 115 112 i0 (.agg #[.string ⟨#[]⟩,.string ⟨#[]⟩,.int .i64 0,.int .i64 0]) 4 48 Tryz.underlying115 M N O U rfl (by omega) _ _ _ h0
  ⟨G,0,none⟩ 1 1 (#[.string g,.string t,.int .i64 q,.int .i64 p]:Array Value).toList rfl (λj u hu=>by
   have I:(⟨G,0,none⟩:Addr).add j=⟨G,j,none⟩:=by unfold Addr.add; split <;> simp_all
   rw [I,Lib.cell_of_heap hG];rw [Array.getElem?_toList] at hu
   simpa using hu) (λu hu=>by
   have J:u∈[Value.string g,.string t,.int .i64 q,.int .i64 p]:=hu;simp only [List.mem_cons,List.not_mem_nil,or_false] at J
   rcases J with rfl | rfl | rfl | rfl <;> rfl) (by unfold maxLen; omega) (by omega) (Nat.le_refl _)
 have X:Below w.heap.size w A:=(show Mod (λ_=>False) w A from ⟨B.os,B.tape,B.output,B.size,λk hk ad=>B.block k hk (λe=>by cases e)⟩).to_below _ (Nat.le_refl _) λk h=>h.elim
 rcases F.2 with ⟨e,h1⟩ | ⟨R,cap,cur,e,hb,hg,hn,hm,hc,ht⟩
 . omega
 ·
  subst e
  have E:∀ j v,(#[.string g,.string t,.int .i64 q,.int .i64 p]:Array Value)[j]?=some v->A.cell? ⟨R,j,none⟩=some v:=λj v Y=>by
   have h5:j < 4:=(Array.getElem?_eq_some_iff.1 Y).1;rw [Lib.cell_of_heap hg];have Z:([]++(#[.string g,.string t,.int .i64 q,.int .i64 p]:Array Value).toList)[j]?=some v:=by rw [List.nil_append,Array.getElem?_toList]; exact Y
   rw [<- ht,List.getElem?_take,if_pos (by omega)] at Z
   simpa using Z
  exact ⟨R,cap,A,hr,E 0 _ rfl,E 1 _ rfl,E 2 _ rfl,E 3 _ rfl,X,hb⟩
theorem akr (g t:ByteArray) (q p:Int) (G:Nat) (w:World) (hG:w.heap[G]?=some (.cells #[.string g,.string t,.int .i64 q,.int .i64 p] 112 (0,0))) :
 Calls Tryz.prog 94 #[.slice none 0 0,.int .i64 0,.slice (some ⟨G,0,none⟩) 1 1] w λe w'=>∃ R cap,e=.returned (.slice (some ⟨R,0,none⟩) 1 cap) /\
  (w'.cell? ⟨R,0,none⟩=some (.string g)/\w'.cell? ⟨R,1,none⟩=some (.string t)/\w'.cell? ⟨R,2,none⟩=some (.int .i64 q)/\w'.cell? ⟨R,3,none⟩=some (.int .i64 p))/\Below w.heap.size w w'/\w.heap.size<=R:=by
 obtain ⟨R,cap,A,E,c0,c1,c2,c3,hb,F⟩:=akq g t q p G w hG;have I:=zq E;have J:Zq (A.cell? ⟨R,0,none⟩=some (.string g)/\A.cell? ⟨R,1,none⟩=some (.string t)/\A.cell? ⟨R,2,none⟩=some (.int .i64 q)/\A.cell? ⟨R,3,none⟩=some (.int .i64 p)):=⟨c0,c1,c2,c3⟩;have M:=zq hb;have B:=zq F;clear E c0 c1 c2 c3 hb F hG;go_enter Tryz.func94,Tryz.ntmps94;go_wp2_with (at_builtin; refine wpList_append_run _ rfl (.tmp 23) (.tmp 24) 115 115 rfl _ _ rfl rfl _ _ I.o ?_);go_ret;exact ⟨R,cap,rfl,J.o,M.o,B.o⟩
theorem asj (g t:List UInt8) (q p:Int) (hg:iq g=true) (ht:j6 t=true) (hgl:g.length<=100) (htl:t.length<=100) (hq:0<=q/\q < 3) (hp:0<=p/\p<=1000000) (ob:Nat) (d:Value) (W:World) (ho:W.heap[ob]?=some (.cells #[d,.slice none 0 0] 117 (0,0))) :
 Calls Tryz.prog 45 #[.pointer (some ⟨ob,0,none⟩),.agg #[.string (S g),.string (S t),.int .i64 q,.int .i64 p]] W λe w'=>e=.returned (.int .i64 0)/\∃ R cap,w'.heap[ob]?=some (.cells #[d,.slice (some ⟨R,0,none⟩) 1 cap] 117 (0,0)) /\
  (w'.cell? ⟨R,0,none⟩=some (.string (S g))/\w'.cell? ⟨R,1,none⟩=some (.string (S t))/\w'.cell? ⟨R,2,none⟩=some (.int .i64 q)/\w'.cell? ⟨R,3,none⟩=some (.int .i64 p))/\Mod (λk=>k=ob) W w'/\W.heap.size<=R:=by
 have O:Below W.heap.size W (W.alloc (.cells #[.string (S g),.string (S t),.int .i64 q,.int .i64 p] 112)):=(Below.refl _ W).alloc (Nat.le_refl _) _;have HA:Zq ((W.alloc (.cells #[.string (S g),.string (S t),.int .i64 q,.int .i64 p] 112)).heap[W.heap.size]?=some (.cells #[.string (S g),.string (S t),.int .i64 q,.int .i64 p] 112 (0,0))):=heap_alloc_new W _;have HO:Zq ((W.alloc (.cells #[.string (S g),.string (S t),.int .i64 q,.int .i64 p] 112)).heap[ob]?=some (.cells #[d,.slice none 0 0] 117 (0,0))):=ag O ho;have U:=zq O;have HR:=zq (λw=>anx g t q p hg ht hgl htl hq hp w);have ac:=zq (λw=>ap9 (S g) (S t) q p w);have HI:=zq (λG w h=>akr (S g) (S t) q p G w h);clear O hg ht hgl htl hq hp ho;generalize S g=g at *
 generalize S t=t at *
 go_enter Tryz.func45,Tryz.ntmps45;go_upto_region 1 with fail
 generalize W.alloc (.cells #[.string g,.string t,.int .i64 q,.int .i64 p] 112)=w1 at *
 obtain ⟨A,hA⟩:∃ A,W.heap.size=A:=⟨_,rfl⟩;rw [hA] at HA ⊢
 have HK:Zq (∀ w,Below w1.heap.size w1 w->w.cell? ⟨ob,1,none⟩=some (.slice none 0 0)/\w.cell? ⟨A,0,none⟩=some (.string g)/\w.cell? ⟨A,1,none⟩=some (.string t)/\w.cell? ⟨A,2,none⟩=some (.int .i64 q)/\w.cell? ⟨A,3,none⟩=some (.int .i64 p)/\True):=λw hb=>by
  have h1:=ag hb HO.o;have N:=ag hb HA.o;exact ⟨aa h1 1 _ rfl,aa N 0 _ rfl,aa N 1 _ rfl,aa N 2 _ rfl,aa N 3 _ rfl,trivial⟩
 obtain ⟨_,k0,k1,k2,k3,_⟩:=HK.o w1 (Below.refl _ _);go_wp2_with fail;refine (HR.o w1).mono ?_;rintro e w2 ⟨rfl,hb⟩;have ad:=zq hb;clear hb k0 k1 k2 k3 HR;go_upto_region 6 with fail
 have X:Zq (∀ w,RecW.ExtR w2.drew w->Below w1.heap.size w1 w):=λw E=>ad.o.trans ((((Below.refl w2.heap.size w2).drew).trans E).mono ad.o.size)
 refine GrowN.au 11 [none,none,none,none,none,some (.inl (.tuple #[.int .i64 0,.bool false])),none,none,none,none,none] (RecW.ExtR) (by kernel_rfl) (by kernel_rfl) (by kernel_rfl) (RecW.ExtR.refl) (λ_ _ _=>RecW.ExtR.trans) ?_ ?_
 . exact GrowN.jy rfl
 simp only [List.take_succ_cons,List.take_zero,List.drop_succ_cons,List.drop_zero]
 iterate 5
  refine GrowN.g_det rfl ?_;apply Exists.intro;refine ⟨λw E B=>?_,?_⟩
  . clear B
    obtain ⟨a1,b0,b1,b2,b3,_⟩:=HK.o w (X.o w E);go_simp;exact ⟨rfl,RecW.ExtR.refl _⟩
  go_frame
 refine GrowN.g_con rfl (λw E B=>?_) ?_
 . clear B
   go_simp;exact (ac.o w).mono λe w3 h=>⟨_,h.1,rfl,h.2⟩
 iterate 5
  go_frame;refine GrowN.g_det rfl ?_;apply Exists.intro;refine ⟨λw E B=>?_,?_⟩
  . clear B
    go_simp;exact ⟨rfl,RecW.ExtR.refl _⟩
 go_frame;refine GrowN.g_nil λw4 ak B=>?_
 clear B;have F:=zq (X.o w4 ak);clear ak X ac;obtain ⟨c1,_⟩:=HK.o w4 F.o;go_upto_region 7 with fail
 clear c1;obtain ⟨Z,rfl⟩:∃ Z:World,Z=w4:=⟨_,rfl⟩;have I:Zq (∀ w,RecW.ExtR Z.drew w->Below w1.heap.size w1 w):=λw E=>F.o.trans ((((Below.refl Z.heap.size Z).drew).trans E).mono F.o.size)
 refine GrowN.au 9 [none,none,none,none,none,none,none,some (.inr λ_ v w=>∃ G,v=.slice (some ⟨G,0,none⟩) 1 1/\w.heap[G]?=some (.cells #[.string g,.string t,.int .i64 q,.int .i64 p] 112 (0,0))),some (.inr λ_ v w=>∃ R cap,v=.slice (some ⟨R,0,none⟩) 1 cap/\Z.heap.size<=R/\(w.cell? ⟨R,0,none⟩=some (.string g)/\w.cell? ⟨R,1,none⟩=some (.string t)/\w.cell? ⟨R,2,none⟩=some (.int .i64 q)/\w.cell? ⟨R,3,none⟩=some (.int .i64 p)))] (RecW.ExtR) (by kernel_rfl) (by kernel_rfl) (by kernel_rfl) (RecW.ExtR.refl) (λ_ _ _=>RecW.ExtR.trans) ?_ ?_
 ·
  intro K hK Y hY l v w w' hR h;simp only [List.mem_cons,List.not_mem_nil,or_false] at hK
  rcases hK with rfl | rfl | rfl | rfl | rfl | rfl | rfl | rfl | rfl <;> simp only [reduceCtorEq,Option.some.injEq,Sum.inr.injEq] at hY
  . subst hY; obtain ⟨G,e,hg⟩:=h; exact ⟨G,e,ag hR hg⟩
  . subst hY; obtain ⟨R,cap,e,hl,c0,c1,c2,c3⟩:=h; exact ⟨R,cap,e,hl,by rw [hR.cell (ax c0)]; exact c0,by rw [hR.cell (ax c1)]; exact c1,by rw [hR.cell (ax c2)]; exact c2,by rw [hR.cell (ax c3)]; exact c3⟩
 simp only [List.take_succ_cons,List.take_zero,List.drop_succ_cons,List.drop_zero]
 iterate 7
  refine GrowN.g_det rfl ?_;apply Exists.intro;refine ⟨λw E B=>?_,?_⟩
  . clear B
    obtain ⟨a1,b0,b1,b2,b3,_⟩:=HK.o w (I.o w E);go_simp;exact ⟨rfl,RecW.ExtR.refl _⟩
  go_frame
 refine GrowN.g_new rfl (λw E B=>?_) (λv7=>?_)
 . clear B
   go_simp;exact ⟨⟨_,rfl,heap_alloc_new w _⟩,(Below.refl _ w).alloc (Nat.le_refl _) _⟩
 go_frame;refine GrowN.g_new rfl (λw E B=>?_) (λv8=>?_)
 ·
  skip
  obtain ⟨G,rfl,hG⟩:=B _ (.head _) (by kernel_rfl);clear B;have ba:=zq (HI.o G w hG);have b7:=(I.o w E).size;clear hG;go_simp;exact ba.o.mono λe w3 ⟨R,cap,h1,N,h3,h4⟩=>⟨_,h1,⟨R,⟨cap,rfl⟩,Nat.le_trans E.size h4,N⟩,h3⟩
 go_frame;refine GrowN.g_nil λw6 am B=>?_
 obtain ⟨R,cap,hv,bc,an⟩:=B _ (.head _);clear B
 first | subst hv | (dsimp only at hv; subst hv)
 have ao:=zq (I.o w6 am);have bd:=zq an;have bh:Zq (A<=R):=by have h1:=F.o.size; have N:=U.o.size; show _<=_; omega
 have J:=ag ao.o HO.o;have z1:=aa J 1 _ rfl;have f1:=ae J 1;have HM:Zq (Mod (λk=>k=ob) w6 (w6.setCell ⟨ob,1,none⟩ (.slice (some ⟨R,0,none⟩) 1 cap))):=(Mod.refl (λk=>k=ob) w6).setCell (a:=⟨ob,1,none⟩) (.inl rfl) _;have HS:Zq ((w6.setCell ⟨ob,1,none⟩ (.slice (some ⟨R,0,none⟩) 1 cap)).heap[ob]?=some (.cells #[d,.slice (some ⟨R,0,none⟩) 1 cap] 117 (0,0))):=heap_setCell_same w6 ob 1 _ _ _ J
 have M:Zq (R≠ob):=λe=>by
  have h1:=(Array.getElem?_eq_some_iff.1 HO.o).1;have N:=F.o.size;omega
 clear an am bc J I HI;go_wp2_with fail;go_ret;obtain ⟨c0,c1,c2,c3⟩:=bd.o;refine ⟨rfl,R,cap,HS.o,⟨?_,?_,?_,?_⟩,?_,?_⟩
 . rw [HM.o.cell (ax c0) M.o]; exact c0
 . rw [HM.o.cell (ax c1) M.o]; exact c1
 . rw [HM.o.cell (ax c2) M.o]; exact c2
 . rw [HM.o.cell (ax c3) M.o]; exact c3
 . exact (Mod.of_below (hA ▸ U.o.trans (ao.o.mono U.o.size))).trans HM.o
 . exact hA ▸ bh.o
theorem aln (g t:ByteArray) (q:Int) (ob:Nat) (d:Value) (W:World) (ho:W.heap[ob]?=some (.cells #[d,.slice none 0 0] 117 (0,0))) :
 Calls Tryz.prog 18 #[.pointer (some ⟨ob,0,none⟩),.string g,.string t,.int .i64 q] W λe w'=>e=.returned (.int .i64 0)/\Below W.heap.size W w':=by
 have A:=zq (λw=>ap9 g t q 0 w);have c1:=aa ho 1 _ rfl;clear ho;go_enter Tryz.func18,Tryz.ntmps18;go_wp2_with fail;refine (A.o W).mono ?_;rintro e w2 ⟨rfl,hb⟩;have B:=zq hb;clear hb A c1;go_wp2_with fail;go_ret;exact ⟨rfl,B.o⟩
theorem get_one (g t:ByteArray) (q p:Int) (R cap:Nat) (ob:Nat) (d:Value) (W:World) (ho:W.heap[ob]?=some (.cells #[d,.slice (some ⟨R,0,none⟩) 1 cap] 117 (0,0)))
 (h0:W.cell? ⟨R,0,none⟩=some (.string g)) (h1:W.cell? ⟨R,1,none⟩=some (.string t)) (h2:W.cell? ⟨R,2,none⟩=some (.int .i64 q)) (h3:W.cell? ⟨R,3,none⟩=some (.int .i64 p)) :
 Calls Tryz.prog 18 #[.pointer (some ⟨ob,0,none⟩),.string g,.string t,.int .i64 q] W λe w'=>e=.returned (.int .i64 p)/\Below W.heap.size W w':=by
 have A:=zq (atw g t q p 0 R cap W h0 h1 h2 h3);have c1:=aa ho 1 _ rfl;have E:=zq ho;have B:=zq h3;clear ho h0 h1 h2 h3;go_enter Tryz.func18,Tryz.ntmps18;go_wp2_with fail;refine A.o.mono ?_;rintro e w2 ⟨rfl,hb⟩;have F:=zq hb;have c1:=aa (ag hb E.o) 1 _ rfl;have c3:w2.cell? ⟨R,3,none⟩=some (.int .i64 p):=by rw [hb.cell (ax B.o)]; exact B.o
 clear hb A;go_wp2_with fail;go_ret;exact ⟨rfl,F.o⟩
end RetW
namespace EntW
open Go.RowKit OctW OctMath
def lc:List Nat->RS->List Nat×RS
 | [],r=>([],r)
 | n :: ns,r=>((dh (n:Int) r).1 :: (lc ns (dh (n:Int) r).2).1,(lc ns (dh (n:Int) r).2).2)
theorem agy (a b:List Nat):∀ r,lc (a++b) r=((lc a r).1++(lc b (lc a r).2).1,(lc b (lc a r).2).2):=by
 induction a with
 | nil=>intro r; rfl
 | cons n a ih=>intro r; simp only [List.cons_append,lc,ih]
theorem aks (ns:List Nat) (k:Nat) (h:k < ns.length) (r:RS):lc (ns.take (k+1)) r=((lc (ns.take k) r).1++[(dh (ns[k]:Int) (lc (ns.take k) r).2).1],(dh (ns[k]:Int) (lc (ns.take k) r).2).2):=by
 rw [List.take_succ_eq_append_getElem h,agy]; rfl
theorem acl (ns:List Nat):∀ r,(lc ns r).1.length=ns.length:=by
 induction ns with
 | nil=>intro r; rfl
 | cons n ns ih=>intro r; simp [lc,ih]
theorem anz (ns:List Nat):∀ r,(lc ns r).2.s.length<=r.s.length:=by
 induction ns with
 | nil=>intro r; exact Nat.le_refl _
 | cons n ns ih=>intro r; exact Nat.le_trans (ih _) (jm _ _)
def Wb (g:Nat) (ns xs:List Nat) (w:World):Prop:=∀ i (h:i < ns.length),w.heap[g+i]?=some (.cells #[.int .i64 (ns[i]:Int),.int .i64 (xs.getD i 0:Nat)] 228 (0,0))
theorem Wb.mod {M:Nat->Prop} {g:Nat} {ns xs:List Nat} {w w':World} (h:Wb g ns xs w) (hm:Mod M w w') (hM:∀ i,i < ns.length->¬ M (g+i)):Wb g ns xs w':=λi A=>(hm.block _ (Array.getElem?_eq_some_iff.1 (h i A)).1 (hM i A)).trans (h i A)
theorem Wb.cell0 {g:Nat} {ns xs:List Nat} {w:World} (h:Wb g ns xs w) (i:Nat) (hi:i < ns.length):w.cell? ⟨g+i,0,none⟩=some (.int .i64 (ns[i]:Int)):=by unfold World.cell?; rw [show w.heap[(⟨g+i,0,none⟩:Addr).block]?=_ from h i hi]; rfl
theorem Wb.cell1 {g:Nat} {ns xs:List Nat} {w:World} (h:Wb g ns xs w) (i:Nat) (hi:i < ns.length):w.cell? ⟨g+i,1,none⟩=some (.int .i64 (xs.getD i 0:Nat)):=by unfold World.cell?; rw [show w.heap[(⟨g+i,1,none⟩:Addr).block]?=_ from h i hi]; rfl
theorem Wb.free1 {g:Nat} {ns xs:List Nat} {w:World} (h:Wb g ns xs w) (i:Nat) (hi:i < ns.length):w.frozen? ⟨g+i,1,none⟩=false:=by unfold World.frozen?; rw [show w.heap[(⟨g+i,1,none⟩:Addr).block]?=_ from h i hi]; rfl
theorem Wb.lt {g:Nat} {ns xs:List Nat} {w:World} (h:Wb g ns xs w) (i:Nat) (hi:i < ns.length):g+i < w.heap.size:=(Array.getElem?_eq_some_iff.1 (h i hi)).1
theorem Wb.set_ {g:Nat} {ns xs:List Nat} {w:World} (h:Wb g ns xs w) (k x:Nat) (hk:k < ns.length) (hx:xs.length=k):Wb g ns (xs++[x]) (w.setCell ⟨g+k,1,none⟩ (.int .i64 (x:Int))):=by
 intro i A
 by_cases e:i=k
 . subst e
   rw [rq (h i A)];simp [hx]
 ·
  rw [Below.heap_setCell _ _ _ _ (show g+i≠g+k by omega),h i A]
  have:(xs++[x]).getD i 0=xs.getD i 0:=by
   by_cases hlt:i < k
   . simp [List.getD,List.getElem?_append_left (show i < xs.length by omega)]
   . simp [List.getD,List.getElem?_append_right (show xs.length<=i by omega),List.getElem?_eq_none (show xs.length<=i by omega),List.getElem?_eq_none (show [x].length<=i - xs.length by simp; omega)]
  rw [this]
theorem aqg {M N:Nat->Prop} {u v w:World} (h:Mod N u v) (k:Mod M v w) (hM:∀ b,b < u.heap.size->M b->N b):Mod N u w :=
 ⟨k.os.trans h.os,k.tape.trans h.tape,k.output.trans h.output,Nat.le_trans h.size k.size,λi A B=>(k.block i (Nat.lt_of_lt_of_le A h.size) (λE=>B (hM i A E))).trans (h.block i A B)⟩
theorem get_any (g p cap:Nat) (ns:List Nat) (hl:ns.length<=16) (hw:∀ n∈ns,1<=n/\n<=7) (l:List UInt8) (hs:l.length<=140737488351232) (W:World) (hS:∀ i,i < ns.length->W.cell? ⟨p,i,none⟩=some (.pointer (some ⟨g+i,0,none⟩))) (hW:Wb g ns [] W) (hp:∀ i,i < ns.length->p≠g+i) :
 Calls Tryz.prog 147 #[.string (S l),.slice (some ⟨p,0,none⟩) ns.length cap] W λe w'=>e=.returned (.bool (yl (lc ns ⟨l,0⟩).2 == 0))/\Wb g ns (lc ns ⟨l,0⟩).1 w'/\Mod (λb=>g<=b/\b < g+ns.length) W w':=by
 have HS:=zq hS;have HW:=zq hW;have HP:=zq hp;have HN:=zq hw;clear hS hW hp hw;go_enter Tryz.func147,Tryz.ntmps147;go_wp2_with fail;refine (new_any l _).mono ?_;rintro e w1 ⟨rfl,X,J⟩;have I:Zq (Rd W.heap.size (lc (ns.take 0) ⟨l,0⟩).2 w1):=X;have N:Zq (Mod (λb=>g<=b/\b < g+ns.length) W w1):=Mod.of_below J;have A:Zq (Wb g ns (lc (ns.take 0) ⟨l,0⟩).1 w1):=HW.o.mod (M:=λ_=>False) (Mod.of_below J) (λ_ _ x=>x);clear X J;go_wp2_with fail;go_loopw [12] (λi wr=>∃ k:Nat,k<=ns.length/\i=.int .i64 k/\Zq (Rd W.heap.size (lc (ns.take k) ⟨l,0⟩).2 wr)/\Zq (Wb g ns (lc (ns.take k) ⟨l,0⟩).1 wr)/\Zq (Mod (λb=>g<=b/\b < g+ns.length) W wr)) (λi _=>ns.length - (intOf i).toNat)
 case atStart=>exact ⟨0,by omega,rfl,I,A,N⟩
 case round =>
  clear I A N;obtain ⟨k,hk,rfl,I,A,N⟩:=hrel
  by_cases hlt:k < ns.length
  ·
   have hc:=HS.o k hlt;have a6:=HP.o k hlt;rw [<- N.o.cell (p:=⟨p,k,none⟩) (ax hc) (λh=>HP.o (p - g) (by have h1:g<=p:=h.1; have h2:p < g+ns.length:=h.2; omega) (by have h1:g<=p:=h.1; show p=g+(p - g); omega))] at hc;have h0:=A.o.cell0 k hlt;have ac:=HN.o ns[k] (by simp);have ap:=anz (ns.take k) ⟨l,0⟩;have ad:=I.o.lt;have a7:=HW.o.lt k hlt;have E:=aks ns k hlt ⟨l,0⟩;have O:=acl (ns.take k) ⟨l,0⟩;rw [List.length_take,Nat.min_eq_left hk] at O;have R:k < ns.length:=hlt;generalize ns[k]=n at *
   obtain ⟨a8,ba⟩:=ac;generalize lc (ns.take k) ⟨l,0⟩=q at *
   obtain ⟨xs,r⟩:=q;simp only at *
   have F:=ql W.heap.size r (n:Int) (by omega) (by omega) (by omega) wr I.o;generalize dh (n:Int) r=nr at *
   obtain ⟨x,r'⟩:=nr;simp only at *
   have Y:=zq E;have HC:=zq F;have ak:=zq O;clear E F O;go_wp2_with fail;refine HC.o.mono ?_;rintro e w2 ⟨rfl,Z,U⟩;have B:Zq (Wb g ns xs w2):=A.o.mod U (λi hi h=>by have:=HW.o.lt i hi; omega);have al:Zq (Rd W.heap.size r' (w2.setCell ⟨g+k,1,none⟩ (.int .i64 (x:Int)))):=Z.mod ((Mod.refl (λb=>b=g+k) w2).setCell (a:=⟨g+k,1,none⟩) (Or.inl rfl) _) (λh=>by omega)
   have am:Zq (Mod (λb=>g<=b/\b < g+ns.length) W (w2.setCell ⟨g+k,1,none⟩ (.int .i64 (x:Int)))) :=
    (aqg N.o U (λb hb h=>by omega)).setCell (a:=⟨g+k,1,none⟩) (Or.inl ⟨by show g<=g+k; omega,by show g+k < _; omega⟩) _
   have an:Zq (Wb g ns (xs++[x]) (w2.setCell ⟨g+k,1,none⟩ (.int .i64 (x:Int)))):=B.o.set_ k x R ak.o;have bd:=B.o.cell1 k R;have bh:=B.o.free1 k R;clear Z U A B I N HC hc h0;go_wp2_with fail;go_roundw
   case rel=>exact ⟨k+1,by omega,by go_num,by rw [Y.o]; exact al,by rw [Y.o]; exact an,am⟩
   case measure=>simp [intOf]; omega
  ·
   have ek:k=ns.length:=by omega
   subst ek;rw [List.take_length] at I A;go_wp2_with fail;refine (end_any W.heap.size _ _ I.o).mono ?_;rintro e w2 ⟨rfl,rfl⟩;go_wp2_with fail;go_ret;exact ⟨bf (by rw [Bool.eq_iff_iff]; simp),A.o,N.o⟩
theorem aba {w:World} {o:Obj} {k:Nat} (h:k=w.heap.size):(w.alloc o).heap[k]?=some o:=by subst h; exact heap_alloc_new w o
theorem kz {w:World} {o:Obj} {k:Nat} (h:k < w.heap.size):(w.alloc o).heap[k]?=w.heap[k]?:=Below.heap_alloc w o k h
def aqh (ns:List Nat) (l:List UInt8):List Nat×Bool:=if yl (lc ns ⟨l,0⟩).2=0 then ((lc ns ⟨l,0⟩).1,true) else ([],false)
theorem asl (ns:List Nat) (l:List UInt8):aqh ns l=if yl (lc ns ⟨l,0⟩).2=0 then ((lc ns ⟨l,0⟩).1,true) else ([],false):=rfl
def aqi (xs:List Nat):Value:=.agg #[.int .i64 (xs.getD 0 0:Nat),.int .i64 (xs.getD 1 0:Nat),.int .i64 (xs.getD 2 0:Nat),.int .i64 (xs.getD 3 0:Nat)]
theorem an0 (l:List UInt8) (hs:l.length<=140737488351232) (W:World) :
 Calls Tryz.prog 79 #[.string (S l)] W λe w'=>e=.returned (.tuple #[aqi (aqh [6,2,5,7] l).1,.bool (aqh [6,2,5,7] l).2])/\Below W.heap.size W w':=by
 go_enter Tryz.func79,Tryz.ntmps79;go_wp2_with fail;generalize hW6:(((((W.alloc _).alloc _).alloc _).alloc _).alloc _).alloc _=W6;have hz:W6.heap.size=W.heap.size+6:=by rw [<- hW6]; simp
 have J:Wb (W.heap.size+1) [6,2,5,7] [] W6:=by
  intro i E;have E:i < 4:=E;rw [<- hW6]
  match i,E with
  | 0,_=>exact (kz (by simp only [World.size_alloc]; omega)).trans ((kz (by simp only [World.size_alloc]; omega)).trans ((kz (by simp only [World.size_alloc]; omega)).trans ((kz (by simp only [World.size_alloc]; omega)).trans (aba (by simp)))))
  | 1,_=>exact (kz (by simp only [World.size_alloc]; omega)).trans ((kz (by simp only [World.size_alloc]; omega)).trans ((kz (by simp only [World.size_alloc]; omega)).trans (aba (by simp))))
  | 2,_=>exact (kz (by simp only [World.size_alloc]; omega)).trans ((kz (by simp only [World.size_alloc]; omega)).trans (aba (by simp)))
  | 3,_=>exact (kz (by simp only [World.size_alloc]; omega)).trans (aba (by simp))
 have M:W6.heap[W.heap.size+1+1+1+1+1]?=some (.cells #[.pointer (some ⟨W.heap.size+1,0,none⟩),.pointer (some ⟨W.heap.size+1+1,0,none⟩),.pointer (some ⟨W.heap.size+1+1+1,0,none⟩),.pointer (some ⟨W.heap.size+1+1+1+1,0,none⟩)] 230 (0,0)):=by
  rw [<- hW6]; exact aba (by simp)
 have Y:∀ i,i < 4->W6.cell? ⟨W.heap.size+1+1+1+1+1,i,none⟩=some (.pointer (some ⟨W.heap.size+1+i,0,none⟩)):=by
  intro i E;rw [Lib.cell_of_heap M]
  match i,E with
  | 0,_=>rfl
  | 1,_=>rfl
  | 2,_=>rfl
  | 3,_=>rfl
 have N:W6.heap[W.heap.size]?=some (.cells #[.int .i64 0,.int .i64 0,.int .i64 0,.int .i64 0] 61 (0,0)):=by
  rw [<- hW6]; exact (kz (by simp only [World.size_alloc]; omega)).trans ((kz (by simp only [World.size_alloc]; omega)).trans ((kz (by simp only [World.size_alloc]; omega)).trans ((kz (by simp only [World.size_alloc]; omega)).trans ((kz (by simp only [World.size_alloc]; omega)).trans (aba (by simp))))))
 have Z:Below W.heap.size W W6:=by
  rw [<- hW6];refine ((((((Below.refl _ _).alloc (Nat.le_refl _) _).alloc ?_ _).alloc ?_ _).alloc ?_ _).alloc ?_ _).alloc ?_ _ <;> simp <;> omega
 clear hW6;refine (get_any (W.heap.size+1) (W.heap.size+1+1+1+1+1) 4 [6,2,5,7] (by decide) (by decide) l hs W6 Y J (λi E=>by have E:i < 4:=E; omega)).mono ?_;rintro e w2 ⟨rfl,A,F⟩;have hG:w2.heap[W.heap.size]?=some (.cells #[.int .i64 0,.int .i64 0,.int .i64 0,.int .i64 0] 61 (0,0)):=(F.block _ (by omega) (λh=>by omega)).trans N;have O:Below W.heap.size W w2:=Z.trans (F.to_below _ (by omega) (λk h=>by omega));have X:=acl [6,2,5,7] ⟨l,0⟩;have R:=zq O;have HG:=zq hG;clear Z N Y M J F O hG hz;have B:=asl [6,2,5,7] l;generalize lc [6,2,5,7] ⟨l,0⟩=q at *
 obtain ⟨xs,r⟩:=q;simp only at *
 have al:=A.cell1 0 (by decide);have am:=A.cell1 1 (by decide);have an:=A.cell1 2 (by decide);have ao:=A.cell1 3 (by decide)
 have g0:∀ i,i < 4->w2.cell? ⟨W.heap.size,i,none⟩=some (.int .i64 0):=λi E=>by
  rw [Lib.cell_of_heap HG.o]
  match i,E with
  | 0,_=>rfl
  | 1,_=>rfl
  | 2,_=>rfl
  | 3,_=>rfl
 have U:=λi=>Lib.frozen_of_heap HG.o i
 have a0:=g0 0 (by omega);have a1:=g0 1 (by omega);have a2:=g0 2 (by omega);have a3:=g0 3 (by omega);have b0:=U 0;have b1:=U 1;have b2:=U 2;have b3:=U 3;clear g0 U A X
 by_cases he:yl r=0
 ·
  have hb:(yl r == 0)=true:=beq_iff_eq.2 he;rw [if_pos he] at B;have I:=zq B;clear B he;rw [hb];clear hb;go_wp2_with fail;refine bodyPost_ret (v:=.tuple #[aqi xs,.bool true]) ?_ rfl ⟨by rw [I.o],?_⟩
  . simp [results,Tryz.results79,go_sem,aqi,a0,a1,a2,a3]
  . exact ((((R.o.setCell (p:=⟨W.heap.size,0,none⟩) (Nat.le_refl _) _).setCell (p:=⟨W.heap.size,1,none⟩) (Nat.le_refl _) _).setCell (p:=⟨W.heap.size,2,none⟩) (Nat.le_refl _) _).setCell (p:=⟨W.heap.size,3,none⟩) (Nat.le_refl _) _)
 ·
  have hb:(yl r == 0)=false:=beq_eq_false_iff_ne.2 he;rw [if_neg he] at B;have I:=zq B;clear B he;rw [hb];clear hb;go_wp2_with fail;refine bodyPost_ret (v:=.tuple #[aqi [],.bool false]) ?_ rfl ⟨by rw [I.o],?_⟩
  . simp [results,Tryz.results79,go_sem,aqi,a0,a1,a2,a3]
  . exact ((((R.o.setCell (p:=⟨W.heap.size,0,none⟩) (Nat.le_refl _) _).setCell (p:=⟨W.heap.size,1,none⟩) (Nat.le_refl _) _).setCell (p:=⟨W.heap.size,2,none⟩) (Nat.le_refl _) _).setCell (p:=⟨W.heap.size,3,none⟩) (Nat.le_refl _) _)
theorem akt (a b c d:Nat) (h:yz (fw (a:Int) (b:Int) (c:Int) (d:Int))=true):aqh [6,2,5,7] (wu (fw (a:Int) (b:Int) (c:Int) (d:Int)))=([a,b,c,d],true):=by
 have A:=of_decide_eq_true h;have h1:a < 256 ^ 6:=Int.ofNat_lt.1 (A (6,(a:Int)) (by simp [fw])).2;have B:b < 256 ^ 2:=Int.ofNat_lt.1 (A (2,(b:Int)) (by simp [fw])).2;have E:c < 256 ^ 5:=Int.ofNat_lt.1 (A (5,(c:Int)) (by simp [fw])).2;have F:d < 256 ^ 7:=Int.ofNat_lt.1 (A (7,(d:Int)) (by simp [fw])).2
 have e:wu (fw (a:Int) (b:Int) (c:Int) (d:Int))=be 6 a++(be 2 b++(be 5 c++(be 7 d++[]))):=by
  unfold wu;rw [h,if_pos rfl];simp [fw,aag]
 have I:=xg 6 a (be 2 b++(be 5 c++(be 7 d++[]))) (by omega) (by omega) h1;have J:=xg 2 b (be 5 c++(be 7 d++[])) (by omega) (by omega) B;have n3:=xg 5 c (be 7 d++[]) (by omega) (by omega) E;have n4:=xg 7 d [] (by omega) (by omega) F
 have M:lc [6,2,5,7] ⟨be 6 a++(be 2 b++(be 5 c++(be 7 d++[]))),0⟩=([a,b,c,d],⟨[],0⟩):=by
  simp only [lc];rw [show ((6:Nat):Int)=(6:Int) from rfl] at *
  simp only [I,J,n3,n4]
 unfold aqh;rw [e,M];rfl
end EntW
namespace CqW
open Go.RowKit Go.MapKept OctMath RecMath DskW SegW MapG CacheW EntW NameW KxW StoW
theorem asn {base:Nat} {D:DiskD} {x:QueD} (p a b c d:Nat) (W:World) (hx:W.heap[x.blk]?=some (.cells x.cells 102 (0,0))) (hR:SegAt base W x.R) (hD:DiskAt base W D) (hdb:x.R.db=D.blk) (hT:TabB base W) (hok:aac D x.R) (hup:D.down=false) (hb0:x.b0=0) (hb:x.R.b=0) (hsz:x.R.size=200)
 (hp:20 * p+20<=x.R.txt.length) (hpb:p<=10000000) (I:yz (fw (a:Int) (b:Int) (c:Int) (d:Int))=true) (htx:(x.R.txt.drop (20 * p)).take 20=wu (fw (a:Int) (b:Int) (c:Int) (d:Int))) :
 Calls Tryz.prog 38 #[.pointer (some ⟨x.blk,0,none⟩),.int .i64 (p:Int)] W λe w'=>e=.returned (.tuple #[.agg #[.int .i64 (a:Int),.int .i64 (b:Int),.int .i64 (c:Int),.int .i64 (d:Int)],.int .i64 0])/\Below W.heap.size W w':=by
 have O:x.R.readT D ((20 * p:Nat):Int) 20=wu (fw (a:Int) (b:Int) (c:Int) (d:Int))/\x.R.readE D ((20 * p:Nat):Int) 20=0:=by
  have he:x.R.e=x.R.txt.length:=by unfold SegD.e; omega
  have hl:(20:Int)<=x.R.left ((20 * p:Nat):Int):=by
   unfold SegD.left;rw [if_neg (by rw [hb,he]; omega),hsz,Int.toNat_natCast,he];omega
  have hB:x.R.readB ((20 * p:Nat):Int) 20=true:=by
   unfold SegD.readB;rw [decide_eq_true (by omega),decide_eq_true hl]; rfl
  constructor
  . unfold SegD.readT
    rw [if_pos ⟨hup,hB⟩,hb,Int.toNat_natCast];exact htx
  . unfold SegD.readE
    rw [if_neg (by rw [hup]; decide),if_neg (by omega),if_pos hB]
 have U:Zq (∀ w2,Below W.heap.size W w2->Calls Tryz.prog 40 #[.pointer (some ⟨x.R.blk,0,none⟩),.int .i64 ((20 * p:Nat):Int),.int .i64 20] w2 λe w'=>e=.returned (.tuple #[.string (S (wu (fw (a:Int) (b:Int) (c:Int) (d:Int)))),.int .i64 0])/\RecW.ExtR w2 w'):=λw2 X=>by
  have h3:=SegW.read_any (D:=D) ((20 * p:Nat):Int) 20 (by omega) (by omega) w2 (hT.below X).tab (hR.below X) (hD.below X) hdb hok;rw [O.1,O.2] at h3;exact h3
 obtain ⟨P,hP⟩:∃ P:Int,P=((20 * p:Nat):Int):=⟨_,rfl⟩;rw [<- hP] at U;have ar:=zq hP;clear hP
 have HC:Zq ((∀ w2,Below W.heap.size W w2->w2.cell? ⟨x.blk,0,none⟩=some (.pointer (some ⟨x.R.blk,0,none⟩)))/\∀ w2,Below W.heap.size W w2->w2.cell? ⟨x.blk,1,none⟩=some (.int .i64 0)):=by
  have g:∀ w2,Below W.heap.size W w2->w2.heap[x.blk]?=some (.cells x.cells 102 (0,0)):=λw2 Y=>ag Y hx
  exact ⟨λw2 Y=>aa (g w2 Y) 0 _ rfl,λw2 Y=>aa (g w2 Y) 1 _ (by unfold QueD.cells; rw [hb0]; rfl)⟩
 have J:=zq (λ(w2:World)=>an0 (wu (fw (a:Int) (b:Int) (c:Int) (d:Int))) (by rw [<- htx]; simp; omega) w2);rw [akt a b c d I] at J;have J:Zq (∀ w2:World,Calls Tryz.prog 79 #[.string (S (wu (fw (a:Int) (b:Int) (c:Int) (d:Int))))] w2 λe w'=>e=.returned (.tuple #[.agg #[.int .i64 (a:Int),.int .i64 (b:Int),.int .i64 (c:Int),.int .i64 (d:Int)],.bool true])/\Below w2.heap.size w2 w'):=J;generalize wu (fw (a:Int) (b:Int) (c:Int) (d:Int))=tx at *
 clear hx hR hD hT hok htx O hb hsz hp I;go_enter Tryz.func38,Tryz.ntmps38;go_upto_region 1 with fail
 have ak:Zq (Below W.heap.size W (W.alloc (.cells #[.int .i64 0,.int .i64 0,.int .i64 0,.int .i64 0] 61))):=(Below.refl _ W).alloc (Nat.le_refl _) _;have Z:Zq ((W.alloc (.cells #[.int .i64 0,.int .i64 0,.int .i64 0,.int .i64 0] 61)).heap[W.heap.size]?=some (.cells #[.int .i64 0,.int .i64 0,.int .i64 0,.int .i64 0] 61 (0,0))):=heap_alloc_new W _;generalize W.alloc (.cells #[.int .i64 0,.int .i64 0,.int .i64 0,.int .i64 0] 61)=w1 at *
 obtain ⟨A,hA⟩:∃ A,W.heap.size=A:=⟨_,rfl⟩;rw [hA] at Z ⊢;have a7:=zq hA;clear hA;have DR:Zq (∀ w2,RecW.ExtR w1.drew w2->Below W.heap.size W w2):=λw2 Y=>ak.o.trans ((((Below.refl w1.heap.size w1).drew).trans Y).mono ak.o.size)
 refine GrowN.au 17 [none,none,none,none,none,none,none,none,none,some (.inl (.int .i64 (p:Int))),some (.inl (.int .i64 P)),some (.inl (.tuple #[.string (S tx),.int .i64 0])),none,none,none,none,none] (RecW.ExtR) (by kernel_rfl) (by kernel_rfl) (by kernel_rfl) (RecW.ExtR.refl) (λ_ _ _=>RecW.ExtR.trans) ?_ ?_
 . exact GrowN.jy rfl
 simp only [List.take_succ_cons,List.take_zero,List.drop_succ_cons,List.drop_zero]
 iterate 3
  refine GrowN.g_det rfl ?_;apply Exists.intro;refine ⟨λw I E=>?_,?_⟩
  . clear E
    go_simp;exact ⟨rfl,RecW.ExtR.refl _⟩
  go_frame
 refine GrowN.g_det rfl ?_;apply Exists.intro;refine ⟨λw I E=>?_,?_⟩
 ·
  clear E;have c0:=HC.o.1 w (DR.o w I);go_simp;exact ⟨rfl,RecW.ExtR.refl _⟩
 iterate 4
  go_frame;refine GrowN.g_det rfl ?_;apply Exists.intro;refine ⟨λw I E=>?_,?_⟩
  . clear E
    go_simp;exact ⟨rfl,RecW.ExtR.refl _⟩
 go_frame;refine GrowN.g_det rfl ?_;apply Exists.intro;refine ⟨λw I E=>?_,?_⟩
 ·
  clear E;have c1:=HC.o.2 w (DR.o w I);go_simp;exact ⟨rfl,RecW.ExtR.refl _⟩
 go_frame;refine GrowN.g_con rfl (λw I E=>?_) ?_
 . clear E
   go_simp;exact ⟨by rw [IntWalk.i64_in _ (by omega)],RecW.ExtR.refl _⟩
 go_frame;refine GrowN.g_con rfl (λw I E=>?_) ?_
 ·
  clear E;go_simp;have hP:=ar.o;exact ⟨by rw [IntWalk.i64_in _ (by omega),show (p:Int) * 20=P by omega],RecW.ExtR.refl _⟩
 go_frame;refine GrowN.g_con rfl (λw I E=>?_) ?_
 . clear E
   go_simp;exact (U.o w (DR.o w I)).mono λe w3 h=>⟨_,h.1,rfl,h.2⟩
 iterate 5
  go_frame;refine GrowN.g_det rfl ?_;apply Exists.intro;refine ⟨λw I E=>?_,?_⟩
  . clear E
    go_simp;exact ⟨rfl,RecW.ExtR.refl _⟩
 go_frame;refine GrowN.g_nil λw2 ab E=>?_
 clear E;have ac:=zq (DR.o w2 ab);have al:Zq (w2.heap[A]?=_):=ag (((Below.refl w1.heap.size w1).drew).trans ab) Z.o;clear ab DR Z HC U;go_wp2_with fail;refine (J.o w2).mono ?_;rintro e w3 ⟨rfl,ad⟩;have am:=zq (ac.o.trans (ad.mono ac.o.size));have a8:Zq (w3.heap[A]?=_):=ag ad al.o;clear ad J ac al;go_upto_region 3 with fail
 have ba:Zq (Below W.heap.size W (w3.alloc (.cells #[.int .i64 (a:Int),.int .i64 (b:Int),.int .i64 (c:Int),.int .i64 (d:Int)] 61))):=am.o.alloc am.o.size _;have an:Zq ((w3.alloc (.cells #[.int .i64 (a:Int),.int .i64 (b:Int),.int .i64 (c:Int),.int .i64 (d:Int)] 61)).heap[A]?=_):=ag ((Below.refl _ w3).alloc (Nat.le_refl _) _) a8.o;have ao:Zq ((w3.alloc (.cells #[.int .i64 (a:Int),.int .i64 (b:Int),.int .i64 (c:Int),.int .i64 (d:Int)] 61)).heap[w3.heap.size]?=_):=heap_alloc_new w3 _;generalize w3.alloc (.cells #[.int .i64 (a:Int),.int .i64 (b:Int),.int .i64 (c:Int),.int .i64 (d:Int)] 61)=w4 at *
 generalize w3.heap.size=G at *
 have B:=an.o;have M:=ao.o;have y0:=aa M 0 _ rfl;have y1:=aa M 1 _ rfl;have y2:=aa M 2 _ rfl;have y3:=aa M 3 _ rfl;have f0:=ae B 0;have f1:=ae B 1;have f2:=ae B 2;have f3:=ae B 3;have z0:=aa B 0 _ rfl;have z1:=aa B 1 _ rfl;have z2:=aa B 2 _ rfl;have z3:=aa B 3 _ rfl;clear B M ao;go_wp2_with fail;have F:=heap_setCell_same _ A 3 _ _ (.int .i64 (d:Int)) (heap_setCell_same _ A 2 _ _ (.int .i64 (c:Int)) (heap_setCell_same _ A 1 _ _ (.int .i64 (b:Int)) (heap_setCell_same w4 A 0 _ _ (.int .i64 (a:Int)) an.o)));have N:W.heap.size<=A:=by rw [a7.o]; exact Nat.le_refl _
 have bb:Below W.heap.size W ((((w4.setCell ⟨A,0,none⟩ (.int .i64 (a:Int))).setCell ⟨A,1,none⟩ (.int .i64 (b:Int))).setCell ⟨A,2,none⟩ (.int .i64 (c:Int))).setCell ⟨A,3,none⟩ (.int .i64 (d:Int))):=((((ba.o.setCell (p:=⟨A,0,none⟩) N _).setCell (p:=⟨A,1,none⟩) N _).setCell (p:=⟨A,2,none⟩) N _).setCell (p:=⟨A,3,none⟩) N _);generalize (((w4.setCell ⟨A,0,none⟩ (.int .i64 (a:Int))).setCell ⟨A,1,none⟩ (.int .i64 (b:Int))).setCell ⟨A,2,none⟩ (.int .i64 (c:Int))).setCell ⟨A,3,none⟩ (.int .i64 (d:Int))=w5 at *
 have a0:w5.cell? ⟨A,0,none⟩=some (.int .i64 (a:Int)):=aa F 0 _ rfl;have a1:w5.cell? ⟨A,1,none⟩=some (.int .i64 (b:Int)):=aa F 1 _ rfl;have a2:w5.cell? ⟨A,2,none⟩=some (.int .i64 (c:Int)):=aa F 2 _ rfl;have a3:w5.cell? ⟨A,3,none⟩=some (.int .i64 (d:Int)):=aa F 3 _ rfl;clear F;refine bodyPost_ret (v:=.tuple #[.agg #[.int .i64 (a:Int),.int .i64 (b:Int),.int .i64 (c:Int),.int .i64 (d:Int)],.int .i64 0]) ?_ rfl ⟨rfl,bb⟩;simp [results,Tryz.results38,go_sem,a0,a1,a2,a3]
theorem aqj {base:Nat} {C:CqD} {D:DiskD} {x:QueD} (q p a b c d:Nat) (W:World) (h:CqAt base W C) (hx:x∈C.qs) (hq:x.q=(q:Int)) (hk:∀ y∈C.qs,∃ n:Nat,y.q=(n:Int)) (hD:DiskAt base W D) (hdb:C.db=D.blk) (hT:TabB base W) (hok:aac D x.R) (hup:D.down=false) (hb0:x.b0=0) (hl0:x.least=0) (hb:x.R.b=0) (hsz:x.R.size=200)
 (hp:20 * p+20<=x.R.txt.length) (hpb:p<=10000000) (hw:yz (fw (a:Int) (b:Int) (c:Int) (d:Int))=true) (htx:(x.R.txt.drop (20 * p)).take 20=wu (fw (a:Int) (b:Int) (c:Int) (d:Int))) :
 Calls Tryz.prog 15 #[.pointer (some ⟨C.blk,0,none⟩),.string (S x.topic),.int .i64 (q:Int),.int .i64 (p:Int)] W λe w'=>e=.returned (.tuple #[.agg #[.int .i64 (a:Int),.int .i64 (b:Int),.int .i64 (c:Int),.int .i64 (d:Int)],.int .i64 0])/\Below W.heap.size W w':=by
 have HO:=zq (λ(w:World) (hb:Below W.heap.size W w)=>of_any q w (h.below hb) hx hq hk);have HN:=zq (λ(w:World) (hb:Below W.heap.size W w)=>CqW.next_any w ((h.below hb).que x hx).1 ((h.below hb).que x hx).2.1 (by rw [hb0]; omega));have HA:=zq (λ(w:World) (I:Below W.heap.size W w)=>asn p a b c d w ((h.below I).que x hx).1 ((h.below I).que x hx).2.1 (hD.below I) (((h.que x hx).2.2).trans hdb) (hT.below I) hok hup hb0 hb hsz hp hpb hw htx);have HX:Zq (W.heap[x.blk]?=some (.cells x.cells 102 (0,0))):=(h.que x hx).1;have he:x.b0+x.R.e / 20=x.R.txt.length / 20:=by unfold SegD.e; rw [hb0,hb]; omega
 rw [he] at HN;obtain ⟨n,hn⟩:∃ n,x.R.txt.length / 20=n:=⟨_,rfl⟩;rw [hn] at HN;have a8:decide ((n:Int)<=(p:Int))=false:=decide_eq_false (by omega);have a6:decide (n<=p)=false:=decide_eq_false (by omega);have a7:¬ n<=p:=by omega
 have ak:decide ((p:Int) < 0)=false:=decide_eq_false (by omega);have ba:decide ((p:Int) < 0)=false:=ak;have bb:decide ((0:Int)<=(p:Int))=true:=decide_eq_true (by omega);have U:x.cells=#[.pointer (some ⟨x.R.blk,0,none⟩),.int .i64 0,.int .i64 0]:=by unfold QueD.cells; rw [hb0,hl0]; rfl
 rw [U] at HX;clear h hx hq hk hD hdb hT hok hup hb0 hl0 hb hsz hp hpb hw htx he hn U;generalize S x.topic=tt at *
 generalize x.blk=xb at *
 go_enter Tryz.func15,Tryz.ntmps15;go_upto_region 1 with fail
 have F:Zq (Below W.heap.size W (W.alloc (.cells #[.int .i64 0,.int .i64 0,.int .i64 0,.int .i64 0] 61))):=(Below.refl _ W).alloc (Nat.le_refl _) _;have N:Zq ((W.alloc (.cells #[.int .i64 0,.int .i64 0,.int .i64 0,.int .i64 0] 61)).heap[W.heap.size]?=some (.cells #[.int .i64 0,.int .i64 0,.int .i64 0,.int .i64 0] 61 (0,0))):=heap_alloc_new W _;generalize W.alloc (.cells #[.int .i64 0,.int .i64 0,.int .i64 0,.int .i64 0] 61)=w1 at *
 obtain ⟨A,hA⟩:∃ A,W.heap.size=A:=⟨_,rfl⟩;rw [hA] at N ⊢;have am:=zq hA;clear hA;go_wp2_with fail;refine (HO.o w1 F.o).mono ?_;rintro e w2 ⟨rfl,he⟩;obtain rfl:=he.symm;have X:=zq (ag F.o HX.o);have x0:=aa X.o 2 _ rfl;clear HO;go_wp2_with fail;refine (HN.o w1 F.o).mono ?_;rintro e w2 ⟨rfl,hd⟩;have J:=zq (F.o.trans ((hd.below w1.heap.size).mono F.o.size));have Y:Zq (w2.heap[A]?=_):=ag (hd.below w1.heap.size) N.o;clear hd HN x0;go_wp2_with fail;refine (HA.o w2 J.o).mono ?_;rintro e w3 ⟨rfl,O⟩;have an:=zq (J.o.trans (O.mono J.o.size));have Z:Zq (w3.heap[A]?=_):=ag O Y.o;have B:=Z.o;have f0:=ae B 0;have f1:=ae B 1;have f2:=ae B 2;have f3:=ae B 3;have z0:=aa B 0 _ rfl;have z1:=aa B 1 _ rfl;have z2:=aa B 2 _ rfl;have z3:=aa B 3 _ rfl;clear B O HA J Y N F X HX;go_wp2_with fail;have E:=heap_setCell_same _ A 3 _ _ (.int .i64 (d:Int)) (heap_setCell_same _ A 2 _ _ (.int .i64 (c:Int)) (heap_setCell_same _ A 1 _ _ (.int .i64 (b:Int)) (heap_setCell_same w3 A 0 _ _ (.int .i64 (a:Int)) Z.o)));have M:W.heap.size<=A:=by rw [am.o]; exact Nat.le_refl _
 have ao:Below W.heap.size W ((((w3.setCell ⟨A,0,none⟩ (.int .i64 (a:Int))).setCell ⟨A,1,none⟩ (.int .i64 (b:Int))).setCell ⟨A,2,none⟩ (.int .i64 (c:Int))).setCell ⟨A,3,none⟩ (.int .i64 (d:Int))):=((((an.o.setCell (p:=⟨A,0,none⟩) M _).setCell (p:=⟨A,1,none⟩) M _).setCell (p:=⟨A,2,none⟩) M _).setCell (p:=⟨A,3,none⟩) M _);generalize (((w3.setCell ⟨A,0,none⟩ (.int .i64 (a:Int))).setCell ⟨A,1,none⟩ (.int .i64 (b:Int))).setCell ⟨A,2,none⟩ (.int .i64 (c:Int))).setCell ⟨A,3,none⟩ (.int .i64 (d:Int))=w5 at *
 have a0:w5.cell? ⟨A,0,none⟩=some (.int .i64 (a:Int)):=aa E 0 _ rfl;have a1:w5.cell? ⟨A,1,none⟩=some (.int .i64 (b:Int)):=aa E 1 _ rfl;have a2:w5.cell? ⟨A,2,none⟩=some (.int .i64 (c:Int)):=aa E 2 _ rfl;have a3:w5.cell? ⟨A,3,none⟩=some (.int .i64 (d:Int)):=aa E 3 _ rfl;clear E;refine bodyPost_ret (v:=.tuple #[.agg #[.int .i64 (a:Int),.int .i64 (b:Int),.int .i64 (c:Int),.int .i64 (d:Int)],.int .i64 0]) ?_ rfl ⟨rfl,ao⟩;simp [results,Tryz.results15,go_sem,a0,a1,a2,a3]
theorem aso (w:World):Calls Tryz.prog 35 #[.pointer none] w λe w'=>e=.returned (.int .i64 0)/\w'=w:=by
 go_enter Tryz.func35,Tryz.ntmps35;go_wp2_with fail;go_ret;exact ⟨rfl,rfl⟩
theorem ae3 (b:Nat) (w:World) (hx:w.heap[b]?=some (.cells #[.pointer none,.int .i64 0,.int .i64 0] 102 (0,0))) :
 Calls Tryz.prog 32 #[.pointer (some ⟨b,0,none⟩)] w λe w'=>e=.returned (.int .i64 0)/\Drawn w w':=by
 have c0:w.cell? ⟨b,0,none⟩=some (.pointer none):=by rw [Lib.cell_of_heap hx]; rfl
 have c1:w.cell? ⟨b,1,none⟩=some (.int .i64 0):=by rw [Lib.cell_of_heap hx]; rfl
 have F:=zq (λ(w2:World)=>aso w2);clear hx;go_enter Tryz.func32,Tryz.ntmps32;go_wp2_with fail;refine GrowN.au 12 [none,none,none,none,none,none,none,none,some (.inl (.int .i64 0)),some (.inl (.int .i64 0)),some (.inl (.int .i64 0)),none] (DrR) (by kernel_rfl) (by kernel_rfl) (by kernel_rfl) (DrR.refl) (λ_ _ _=>DrR.trans) ?_ ?_
 . exact GrowN.jy rfl
 simp only [List.take_succ_cons,List.take_zero,List.drop_succ_cons,List.drop_zero]
 iterate 2
  refine GrowN.g_det rfl ?_;apply Exists.intro;refine ⟨λw B A=>?_,?_⟩
  . clear A
    go_simp;exact ⟨rfl,DrR.refl _⟩
  go_frame;refine GrowN.g_det rfl ?_;apply Exists.intro;refine ⟨λw B A=>?_,?_⟩
  . clear A
    go_simp;exact ⟨rfl,DrR.refl _⟩
  go_frame;refine GrowN.g_det rfl ?_;apply Exists.intro;refine ⟨λw B A=>?_,?_⟩
  . clear A
    go_simp;exact ⟨rfl,DrR.refl _⟩
  go_frame;refine GrowN.g_det rfl ?_;apply Exists.intro;refine ⟨λw B A=>?_,?_⟩
  . clear A
    obtain ⟨n,rfl⟩:=B;go_simp;exact ⟨rfl,DrR.refl _⟩
  go_frame
 refine GrowN.g_con rfl (λw B A=>?_) ?_
 ·
  clear A;obtain ⟨n,rfl⟩:=B;go_simp;exact (F.o _).mono λe w3 h=>⟨_,h.1,rfl,h.2 ▸ DrR.refl _⟩
 iterate 2
  go_frame;refine GrowN.g_con rfl (λw B A=>?_) ?_
  . clear A
    go_simp;exact ⟨by decide,DrR.refl _⟩
 go_frame;refine GrowN.g_det rfl ?_;apply Exists.intro;refine ⟨λw B A=>?_,?_⟩
 . clear A
   go_simp;exact ⟨rfl,DrR.refl _⟩
 go_frame;refine GrowN.g_nil λw2 E A=>?_
 clear A
 have hd:Drawn w w2:=by
  obtain ⟨n,rfl⟩:=E;exact ⟨1+n,by rw [<- World.drewN_drewN]; rfl⟩
 have I:=zq hd;clear hd E;go_wp2_with fail;go_ret;exact ⟨rfl,I.o⟩
theorem alo {base:Nat} {C:CqD} (t:List UInt8) (q:Int) (w:World) (h:CqAt base w C) (hk:∀ y∈C.qs,∃ n:Nat,y.q=(n:Int)) (A:∀ x∈C.qs,¬ (x.topic=t/\x.q=q)) :
 Calls Tryz.prog 31 #[.pointer (some ⟨C.blk,0,none⟩),.string (S t),.int .i64 q] w λe w'=>∃ b,e=.returned (.pointer (some ⟨b,0,none⟩))/\w'.heap[b]?=some (.cells #[.pointer none,.int .i64 0,.int .i64 0] 102 (0,0))/\Below w.heap.size w w':=by
 have E:(Instr.lookup 149 (.map (some C.mB)) (.agg #[.string (S t),.int .i64 q]) false).run Tryz.prog w=.ok (.pointer none) w:=by
  refine vw Tryz.underlying149 aes h.map (λp hp=>?_) (k:=.agg #[.string (S t),.int .i64 q]) ⟨t,q,rfl⟩ (λp hp=>?_) ah8 false
  . obtain ⟨y,B,rfl⟩:=List.mem_map.1 hp
    obtain ⟨n,A⟩:=hk y B;exact ⟨y.topic,n,by show QueD.key y=_; unfold QueD.key; rw [A]⟩
  . obtain ⟨y,B,rfl⟩:=List.mem_map.1 hp
    exact apt (A y B)
 have c1:w.cell? ⟨C.blk,1,none⟩=some (.map (some C.mB)):=aa h.cells 1 _ rfl;have F:=zq E;clear h hk A;generalize S t=tt at *
 go_enter Tryz.func31,Tryz.ntmps31;go_wp2_with fail;go_ret;exact ⟨_,rfl,heap_alloc_new w _,(Below.refl _ w).alloc (Nat.le_refl _) _⟩
theorem ae4 {base:Nat} {C:CqD} (t:List UInt8) (q:Int) (w:World) (h:CqAt base w C) (hk:∀ y∈C.qs,∃ n:Nat,y.q=(n:Int)) (hn:∀ x∈C.qs,¬ (x.topic=t/\x.q=q)) :
 Calls Tryz.prog 10 #[.pointer (some ⟨C.blk,0,none⟩),.string (S t),.int .i64 q] w λe w'=>e=.returned (.int .i64 0)/\Below w.heap.size w w':=by
 have F:=zq (alo t q w h hk hn);have J:=zq (λ(b:Nat) (w:World)=>ae3 b w);clear h hk hn;generalize S t=tt at *
 go_enter Tryz.func10,Tryz.ntmps10;go_wp2_with fail;refine F.o.mono ?_;rintro e w2 ⟨b,rfl,hb,A⟩;have I:=zq A;have B:=zq (J.o b w2 hb);clear F hb A;go_wp2_with fail;refine B.o.mono ?_;rintro e w3 ⟨rfl,hd⟩;have E:=zq (I.o.trans ((hd.below w2.heap.size).mono I.o.size));clear hd B;go_wp2_with fail;go_ret;exact ⟨rfl,E.o⟩
def gq (t:List UInt8) (q:Int) (l:List (Nat×Msg)):Nat:=(l.filter (isQ t q)).length
theorem aty {t:List UInt8} {q:Int} {l:List (Nat×Msg)} (h:∀ p∈l,aev p) {i:Nat} (hi:i < l.length) (hm:isQ t q l[i]=true) :
 ((ofQ t q l).drop (20 * gq t q (l.take i))).take 20=aeu l[i]/\20 * gq t q (l.take i)+20<=(ofQ t q l).length:=by
 have B:l=l.take i++(l[i] :: l.drop (i+1)):=by rw [List.getElem_cons_drop,List.take_append_drop]
 have h1:(ofQ t q (l.take i)).length=20 * gq t q (l.take i):=aci t q _ λp hp=>h p (List.mem_of_mem_take hp)
 have A:=(ach (h l[i] (List.getElem_mem hi))).2
 have E:ofQ t q l=ofQ t q (l.take i)++(aeu l[i]++ofQ t q (l.drop (i+1))):=by
  have:ofQ t q l=ofQ t q (l.take i++(l[i] :: l.drop (i+1))):=congrArg _ B;rw [this];unfold ofQ;rw [List.filter_append,List.filter_cons_of_pos hm,List.flatMap_append,List.flatMap_cons]
 rw [E]
 constructor
 . rw [<- h1,List.drop_left,<- A,List.take_left]
 . rw [List.length_append,List.length_append,h1,A]; omega
theorem aay {base:Nat} {w:World} {C:CqD} {D:DiskD} {X:KxD} {done:List (Nat×Msg)} {mk:Nat} (h:DisI base w C D X done mk):∀ y∈C.qs,∃ n:Nat,y.q=(n:Int):=λy A=>by
 obtain ⟨q,h1,_⟩:=(h.que y A).q;exact ⟨q,h1⟩
theorem aqk {base:Nat} {C:CqD} {D:DiskD} {X:KxD} {l:List (Nat×Msg)} {mk:Nat} (t:List UInt8) (q i:Nat) (w:World) (h:DisI base w C D X l mk) (hT:TabB base w) (hi:i < l.length) (hl:l.length<=100000) (hm:isQ t (q:Int) l[i]=true) :
 Calls Tryz.prog 15 #[.pointer (some ⟨C.blk,0,none⟩),.string (S t),.int .i64 (q:Int),.int .i64 ((gq t (q:Int) (l.take i):Nat):Int)] w λe w'=>e=.returned (.tuple #[.agg #[.int .i64 (l[i].1:Int),.int .i64 (((bg l[i].2).length:Nat):Int),.int .i64 ((mq [l[i].2.tag]:Nat):Int),.int .i64 ((l[i].2.born.toNat:Nat):Int)],.int .i64 0])/\Below w.heap.size w w':=by
 obtain ⟨h1,O⟩:=aty h.ents hi hm;have hp:=h.ents l[i] (List.getElem_mem hi);have B:l[i].2.topic=t/\l[i].2.queue=(q:Int):=by unfold isQ at hm; simpa using hm
 obtain ⟨x,M,U,Y⟩:=h.has l[i] (List.getElem_mem hi);have E:x.topic=t:=U.trans B.1;have F:x.q=(q:Int):=Y.trans B.2;have A:=h.que x M;have I:x.R.txt=ofQ t (q:Int) l:=by rw [A.txt,E,F]
 obtain ⟨N,o2⟩:=ach hp;obtain ⟨d,J,hd⟩:∃ d:Nat,l[i].2.born.toNat=d/\l[i].2.born=(d:Int):=⟨l[i].2.born.toNat,rfl,by have:=hp.born; omega⟩;have Z:aeu l[i]=wu (fw (l[i].1:Int) ((bg l[i].2).length:Int) ((mq [l[i].2.tag]:Nat):Int) (d:Int)):=by unfold aeu; rw [hd]
 rw [hd] at N
 have hc:gq t (q:Int) (l.take i)<=100000:=by
  have h3:gq t (q:Int) (l.take i)<=(l.take i).length:=List.length_filter_le ..
  rw [List.length_take] at h3;omega
 have:=aqj (D:=D) q (gq t (q:Int) (l.take i)) l[i].1 (bg l[i].2).length (mq [l[i].2.tag]) d w h.cq M F (aay h) h.dsk h.db hT A.ok h.quiet.up A.b0 A.least A.b A.sz (by rw [I]; exact O) (by omega) N (by rw [I,h1,Z]);rw [E] at this;rw [J];exact this
theorem asq {base:Nat} {C:CqD} {D:DiskD} {X:KxD} {l:List (Nat×Msg)} {mk:Nat} (t:List UInt8) (q:Nat) (w:World) (h:DisI base w C D X l mk) :
 Calls Tryz.prog 10 #[.pointer (some ⟨C.blk,0,none⟩),.string (S t),.int .i64 (q:Int)] w λe w'=>e=.returned (.int .i64 ((gq t (q:Int) l:Nat):Int))/\Below w.heap.size w w':=by
 by_cases hex:∃ x∈C.qs,x.topic=t/\x.q=(q:Int)
 ·
  obtain ⟨x,A,B,E⟩:=hex;have J:=h.que x A;have M:x.R.txt=ofQ t (q:Int) l:=by rw [J.txt,B,E]
  have N:=anh q w h.cq A E (aay h) (by rw [J.b0]; omega)
  have U:x.b0+x.R.e / 20=gq t (q:Int) l:=by
   unfold SegD.e;rw [J.b0,J.b,M,aci t (q:Int) l h.ents];show 0+(0+20 * gq t (q:Int) l) / 20=_;omega
  rw [U,B] at N;exact N.mono λe w' ⟨g1,g2⟩=>⟨g1,g2.below _⟩
 ·
  have F:∀ x∈C.qs,¬ (x.topic=t/\x.q=(q:Int)):=λx A e=>hex ⟨x,A,e⟩
  have Y:gq t (q:Int) l=0:=by
   unfold gq;rw [List.length_eq_zero_iff,List.filter_eq_nil_iff];intro p hp O;have I:p.2.topic=t/\p.2.queue=(q:Int):=by unfold isQ at O; simpa using O
   obtain ⟨x,A,Z,e2⟩:=h.has p hp;exact F x A ⟨Z.trans I.1,e2.trans I.2⟩
  rw [Y];exact ae4 t q w h.cq (aay h) F
end CqW
namespace RetW
open Go.RowKit Go.MapKept Go.Sort OctMath RecMath RecW DskW SegW MapG TapeW TapeMath PendW CacheW EntW NameW CqW KxW StoW TopW NameMath SndW
theorem atz (cb:Nat) (tt:ByteArray) (q p n:Int) (W:World) (hp:p < 0\/n<=p) (hn:0<=n)
 (HO:Zq (∀ w,Below W.heap.size W w->Calls Tryz.prog 31 #[.pointer (some ⟨cb,0,none⟩),.string tt,.int .i64 q] w λe w'=>∃ b r,e=.returned (.pointer (some ⟨b,0,none⟩))/\w'.heap[b]?=some (.cells #[r,.int .i64 0,.int .i64 0] 102 (0,0))/\Below w.heap.size w w' /\
  Calls Tryz.prog 32 #[.pointer (some ⟨b,0,none⟩)] w' λe w3=>e=.returned (.int .i64 n)/\Below w'.heap.size w' w3)) :
 Calls Tryz.prog 15 #[.pointer (some ⟨cb,0,none⟩),.string tt,.int .i64 q,.int .i64 p] W λe w'=>e=.returned (.tuple #[.agg #[.int .i64 0,.int .i64 0,.int .i64 0,.int .i64 0],.int .i64 2])/\Below W.heap.size W w':=by
 have J:Zq (Below W.heap.size W (W.alloc (.cells #[.int .i64 0,.int .i64 0,.int .i64 0,.int .i64 0] 61))):=(Below.refl _ W).alloc (Nat.le_refl _) _;have M:Zq ((W.alloc (.cells #[.int .i64 0,.int .i64 0,.int .i64 0,.int .i64 0] 61)).heap[W.heap.size]?=some (.cells #[.int .i64 0,.int .i64 0,.int .i64 0,.int .i64 0] 61 (0,0))):=heap_alloc_new W _;go_enter Tryz.func15,Tryz.ntmps15;go_upto_region 1 with fail
 generalize W.alloc (.cells #[.int .i64 0,.int .i64 0,.int .i64 0,.int .i64 0] 61)=w1 at *
 obtain ⟨A,Y⟩:∃ A,W.heap.size=A:=⟨_,rfl⟩;rw [Y] at M ⊢;have U:=zq Y;clear Y;go_wp2_with fail;refine (HO.o w1 J.o).mono ?_;rintro e w2 ⟨b,r,rfl,hc,hb,X⟩;have N:=zq (J.o.trans (hb.mono J.o.size));have E:=zq (ag hb M.o);have O:=zq X;have x2:=aa hc 2 _ rfl;clear hc hb X HO M J
 by_cases hp0:p < 0
 ·
  have p1:decide (p < 0)=true:=decide_eq_true hp0;have p2:¬ (0:Int)<=p:=by omega
  have p3:decide ((0:Int)<=p)=false:=decide_eq_false p2;have f0:=ae E.o 0;have f1:=ae E.o 1;have f2:=ae E.o 2;have f3:=ae E.o 3;have z0:=aa E.o 0 _ rfl;have z1:=aa E.o 1 _ rfl;have z2:=aa E.o 2 _ rfl;have z3:=aa E.o 3 _ rfl;clear hp hn O;go_wp2_with fail;have B:=heap_setCell_same _ A 3 _ _ (.int .i64 0) (heap_setCell_same _ A 2 _ _ (.int .i64 0) (heap_setCell_same _ A 1 _ _ (.int .i64 0) (heap_setCell_same w2 A 0 _ _ (.int .i64 0) E.o)));have F:W.heap.size<=A:=by rw [U.o]; exact Nat.le_refl _
  have R:Below W.heap.size W ((((w2.setCell ⟨A,0,none⟩ (.int .i64 0)).setCell ⟨A,1,none⟩ (.int .i64 0)).setCell ⟨A,2,none⟩ (.int .i64 0)).setCell ⟨A,3,none⟩ (.int .i64 0)):=(((N.o.setCell (p:=⟨A,0,none⟩) F _).setCell (p:=⟨A,1,none⟩) F _).setCell (p:=⟨A,2,none⟩) F _).setCell (p:=⟨A,3,none⟩) F _;generalize (((w2.setCell ⟨A,0,none⟩ (.int .i64 0)).setCell ⟨A,1,none⟩ (.int .i64 0)).setCell ⟨A,2,none⟩ (.int .i64 0)).setCell ⟨A,3,none⟩ (.int .i64 0)=w5 at *
  have a0:=aa B 0 _ rfl;have Z:=aa B 1 _ rfl;have a2:=aa B 2 _ rfl;have a3:=aa B 3 _ rfl;clear B;refine bodyPost_ret (v:=.tuple #[.agg #[.int .i64 0,.int .i64 0,.int .i64 0,.int .i64 0],.int .i64 2]) ?_ rfl ⟨rfl,R⟩;simp [results,Tryz.results15,go_sem,a0,Z,a2,a3]
 ·
  have p2:¬ p < 0:=hp0;have p1:decide (p < 0)=false:=decide_eq_false hp0;have p3:(0:Int)<=p:=by omega
  have p4:decide ((0:Int)<=p)=true:=decide_eq_true p3;have p5:decide (n<=p)=true:=decide_eq_true (by omega);have p6:n<=p:=by omega
  clear hp hn hp0;go_wp2_with fail;refine O.o.mono ?_;rintro e w3 ⟨rfl,hb⟩;have I:=zq (ag hb E.o);have ab:=zq (N.o.trans (hb.mono N.o.size));have f0:=ae I.o 0;have f1:=ae I.o 1;have f2:=ae I.o 2;have f3:=ae I.o 3;have z0:=aa I.o 0 _ rfl;have z1:=aa I.o 1 _ rfl;have z2:=aa I.o 2 _ rfl;have z3:=aa I.o 3 _ rfl;clear hb O x2;go_wp2_with fail;have B:=heap_setCell_same _ A 3 _ _ (.int .i64 0) (heap_setCell_same _ A 2 _ _ (.int .i64 0) (heap_setCell_same _ A 1 _ _ (.int .i64 0) (heap_setCell_same w3 A 0 _ _ (.int .i64 0) I.o)));have F:W.heap.size<=A:=by rw [U.o]; exact Nat.le_refl _
  have R:Below W.heap.size W ((((w3.setCell ⟨A,0,none⟩ (.int .i64 0)).setCell ⟨A,1,none⟩ (.int .i64 0)).setCell ⟨A,2,none⟩ (.int .i64 0)).setCell ⟨A,3,none⟩ (.int .i64 0)):=(((ab.o.setCell (p:=⟨A,0,none⟩) F _).setCell (p:=⟨A,1,none⟩) F _).setCell (p:=⟨A,2,none⟩) F _).setCell (p:=⟨A,3,none⟩) F _;generalize (((w3.setCell ⟨A,0,none⟩ (.int .i64 0)).setCell ⟨A,1,none⟩ (.int .i64 0)).setCell ⟨A,2,none⟩ (.int .i64 0)).setCell ⟨A,3,none⟩ (.int .i64 0)=w5 at *
  have a0:=aa B 0 _ rfl;have Z:=aa B 1 _ rfl;have a2:=aa B 2 _ rfl;have a3:=aa B 3 _ rfl;clear B;refine bodyPost_ret (v:=.tuple #[.agg #[.int .i64 0,.int .i64 0,.int .i64 0,.int .i64 0],.int .i64 2]) ?_ rfl ⟨rfl,R⟩;simp [results,Tryz.results15,go_sem,a0,Z,a2,a3]
theorem acm {base:Nat} {C:CqD} {D:DiskD} {X:KxD} {l:List (Nat×Msg)} {mk:Nat} (t:List UInt8) (q:Int) (w:World) (h:DisI base w C D X l mk) :
 Calls Tryz.prog 10 #[.pointer (some ⟨C.blk,0,none⟩),.string (S t),.int .i64 q] w λe w'=>e=.returned (.int .i64 ((gq t q l:Nat):Int))/\Below w.heap.size w w':=by
 by_cases hq:0<=q
 . obtain ⟨n,rfl⟩:∃ n:Nat,q=(n:Int):=⟨q.toNat,by omega⟩
   exact asq t n w h
 ·
  have A:∀ x∈C.qs,¬ (x.topic=t/\x.q=q):=λx E e=>by
   obtain ⟨n,N⟩:=aay h x E;omega
  have I:gq t q l=0:=by
   unfold gq;rw [List.length_eq_zero_iff,List.filter_eq_nil_iff];intro p hp F;have B:p.2.topic=t/\p.2.queue=q:=by unfold isQ at F; simpa using F
   obtain ⟨x,E,J,M⟩:=h.has p hp;exact A x E ⟨J.trans B.1,M.trans B.2⟩
  rw [I];exact ae4 t q w h.cq (aay h) A
theorem asr {base:Nat} {C:CqD} {D:DiskD} {X:KxD} {l:List (Nat×Msg)} {mk:Nat} (t:List UInt8) (q p:Int) (w:World) (h:DisI base w C D X l mk) (hp:p < 0\/(gq t q l:Int)<=p) :
 Calls Tryz.prog 15 #[.pointer (some ⟨C.blk,0,none⟩),.string (S t),.int .i64 q,.int .i64 p] w λe w'=>e=.returned (.tuple #[.agg #[.int .i64 0,.int .i64 0,.int .i64 0,.int .i64 0],.int .i64 2])/\Below w.heap.size w w':=by
 refine atz C.blk (S t) q p (gq t q l:Int) w hp (by omega) (zq λw2 B=>?_)
 by_cases hex:∃ x∈C.qs,x.topic=t/\x.q=q
 ·
  obtain ⟨x,A,I,J⟩:=hex;obtain ⟨n,hn⟩:=aay h x A;have Y:q=(n:Int):=by omega
  subst Y;have F:=h.que x A;have Z:x.R.txt=ofQ t (n:Int) l:=by rw [F.txt,I,J]
  have he:x.b0+x.R.e / 20=gq t (n:Int) l:=by
   unfold SegD.e;rw [F.b0,F.b,Z,aci t (n:Int) l h.ents];show 0+(0+20 * gq t (n:Int) l) / 20=_;omega
  have E:=(h.cq.below B).que x A;have M:=of_any n w2 (h.cq.below B) A J (aay h);rw [I] at M;refine M.mono ?_;rintro e w' ⟨rfl,rfl⟩;have ab:x.cells=#[.pointer (some ⟨x.R.blk,0,none⟩),.int .i64 0,.int .i64 0]:=by unfold QueD.cells; rw [F.b0,F.least]; rfl
  refine ⟨x.blk,_,rfl,by rw [<- ab]; exact E.1,Below.refl _ _,?_⟩;have N:=CqW.next_any w' E.1 E.2.1 (by rw [F.b0]; omega);rw [he] at N;exact N.mono λe w3 ⟨g1,g2⟩=>⟨g1,g2.below _⟩
 ·
  have O:∀ x∈C.qs,¬ (x.topic=t/\x.q=q):=λx A e=>hex ⟨x,A,e⟩
  have hz:gq t q l=0:=by
   unfold gq;rw [List.length_eq_zero_iff,List.filter_eq_nil_iff];intro p hp hm;have U:p.2.topic=t/\p.2.queue=q:=by unfold isQ at hm; simpa using hm
   obtain ⟨x,A,e1,e2⟩:=h.has p hp;exact O x A ⟨e1.trans U.1,e2.trans U.2⟩
  rw [hz];refine (alo t q w2 (h.cq.below B) (aay h) O).mono ?_;rintro e w' ⟨b,rfl,hb,ac⟩;exact ⟨b,_,rfl,hb,ac,(ae3 b w' hb).mono λe w3 ⟨g1,g2⟩=>⟨g1,g2.below _⟩⟩
theorem ae5 (t:List UInt8) (q:Int):∀ (l:List (Nat×Msg)) (k:Nat),k < gq t q l->∃ i,∃ h:i < l.length,isQ t q l[i]=true/\gq t q (l.take i)=k
 | [],k,h=>absurd h (Nat.not_lt_zero _)
 | p :: l,k,h=>by
   by_cases hp:isQ t q p=true
   ·
    cases k with
    | zero=>exact ⟨0,by simp,hp,rfl⟩
    | succ k =>
      have h1:gq t q (p :: l)=gq t q l+1:=by unfold gq; rw [List.filter_cons_of_pos hp]; rfl
      obtain ⟨i,A,g1,g2⟩:=ae5 t q l k (by omega);refine ⟨i+1,by simpa using A,g1,?_⟩;rw [List.take_succ_cons];unfold gq;rw [List.filter_cons_of_pos hp,List.length_cons];unfold gq at g2;rw [g2]
   ·
    have h1:gq t q (p :: l)=gq t q l:=by unfold gq; rw [List.filter_cons_of_neg hp]
    obtain ⟨i,A,g1,g2⟩:=ae5 t q l k (by omega);refine ⟨i+1,by simpa using A,g1,?_⟩;rw [List.take_succ_cons];unfold gq;rw [List.filter_cons_of_neg hp];exact g2
theorem aql {base:Nat} {T:TapeD} (W:World) (h:TapeAt base W T) :
 Calls Tryz.prog 16 #[.pointer (some ⟨T.O.blk,0,none⟩),.int .i64 (-1)] W λe w'=>e=.returned (.tuple #[.agg #[.int .i64 0,.int .i64 0,.int .i64 0,.int .i64 0,.int .i64 0,.int .i64 0,.string ⟨#[]⟩,.string ⟨#[]⟩,.string ⟨#[]⟩,.slice none 0 0],.int .i64 9])/\Below W.heap.size W w':=by
 have F:Below W.heap.size W (W.alloc (.cells #[.int .i64 0,.int .i64 0,.int .i64 0,.int .i64 0,.int .i64 0,.int .i64 0,.string ⟨#[]⟩,.string ⟨#[]⟩,.string ⟨#[]⟩,.slice none 0 0] 65)):=(Below.refl _ W).alloc (Nat.le_refl _) _;have I:Zq ((W.alloc (.cells #[.int .i64 0,.int .i64 0,.int .i64 0,.int .i64 0,.int .i64 0,.int .i64 0,.string ⟨#[]⟩,.string ⟨#[]⟩,.string ⟨#[]⟩,.slice none 0 0] 65)).heap[W.heap.size]?=some (.cells #[.int .i64 0,.int .i64 0,.int .i64 0,.int .i64 0,.int .i64 0,.int .i64 0,.string ⟨#[]⟩,.string ⟨#[]⟩,.string ⟨#[]⟩,.slice none 0 0] 65 (0,0))):=heap_alloc_new W _
 have U:aae T.O.recs (-1)=0:=by
  unfold aae
  rw [List.find?_eq_none.2 (λp _=>by
   have:¬ ((p.1:Int) = -1):=by omega
   simp)]
  rfl
 have M:=adr (h.below F).own (-1);rw [U] at M;have X:=zq M;have c3:(W.alloc (.cells #[.int .i64 0,.int .i64 0,.int .i64 0,.int .i64 0,.int .i64 0,.int .i64 0,.string ⟨#[]⟩,.string ⟨#[]⟩,.string ⟨#[]⟩,.slice none 0 0] 65)).cell? ⟨T.O.blk,3,none⟩=some (.map (some T.O.mB)):=(h.below F).own.cell 3 _ rfl;have J:=zq F;clear F U M h;go_enter Tryz.func16,Tryz.ntmps16;go_upto_region 1 with fail
 generalize W.alloc (.cells #[.int .i64 0,.int .i64 0,.int .i64 0,.int .i64 0,.int .i64 0,.int .i64 0,.string ⟨#[]⟩,.string ⟨#[]⟩,.string ⟨#[]⟩,.slice none 0 0] 65)=w1 at *
 obtain ⟨A,Y⟩:∃ A,W.heap.size=A:=⟨_,rfl⟩;rw [Y] at I ⊢;have E:=I.o;have M:=X.o;have z0:=ae E 0;have Z:=ae E 1;have z2:=ae E 2;have z3:=ae E 3;have z4:=ae E 4;have z5:=ae E 5;have z6:=ae E 6;have z7:=ae E 7;have z8:=ae E 8;have z9:=ae E 9;have k0:w1.cell? ⟨A,0,none⟩=_:=aa E 0 _ rfl;have k1:w1.cell? ⟨A,1,none⟩=_:=aa E 1 _ rfl;have k2:w1.cell? ⟨A,2,none⟩=_:=aa E 2 _ rfl;have k3:w1.cell? ⟨A,3,none⟩=_:=aa E 3 _ rfl;have k4:w1.cell? ⟨A,4,none⟩=_:=aa E 4 _ rfl;have k5:w1.cell? ⟨A,5,none⟩=_:=aa E 5 _ rfl;have k6:w1.cell? ⟨A,6,none⟩=_:=aa E 6 _ rfl;have k7:w1.cell? ⟨A,7,none⟩=_:=aa E 7 _ rfl;have k8:w1.cell? ⟨A,8,none⟩=_:=aa E 8 _ rfl;have k9:w1.cell? ⟨A,9,none⟩=_:=aa E 9 _ rfl;have HH:=zq (kw rfl E (.int .i64 0) (.int .i64 0) (.int .i64 0) (.int .i64 0) (.int .i64 0) (.int .i64 0) (.string ⟨#[]⟩) (.string ⟨#[]⟩) (.string ⟨#[]⟩) (.slice none 0 0));have N:=zq (mg w1 A (.int .i64 0) (.int .i64 0) (.int .i64 0) (.int .i64 0) (.int .i64 0) (.int .i64 0) (.string ⟨#[]⟩) (.string ⟨#[]⟩) (.string ⟨#[]⟩) (.slice none 0 0));clear E;go_wp2_with fail;clear k0 k1 k2 k3 k4 k5 k6 k7 k8 k9 z0 Z z2 z3 z4 z5 z6 z7 z8 z9;change bodyPost _ _ _ _ _ (o9 w1 A (.int .i64 0) (.int .i64 0) (.int .i64 0) (.int .i64 0) (.int .i64 0) (.int .i64 0) (.string ⟨#[]⟩) (.string ⟨#[]⟩) (.string ⟨#[]⟩) (.slice none 0 0));generalize o9 w1 A (.int .i64 0) (.int .i64 0) (.int .i64 0) (.int .i64 0) (.int .i64 0) (.int .i64 0) (.string ⟨#[]⟩) (.string ⟨#[]⟩) (.string ⟨#[]⟩) (.slice none 0 0)=w9 at *
 have B:=HH.o;have c0:w9.cell? ⟨A,0,none⟩=_:=aa B 0 _ rfl;have c1:w9.cell? ⟨A,1,none⟩=_:=aa B 1 _ rfl;have c2:w9.cell? ⟨A,2,none⟩=_:=aa B 2 _ rfl;have c3:w9.cell? ⟨A,3,none⟩=_:=aa B 3 _ rfl;have c4:w9.cell? ⟨A,4,none⟩=_:=aa B 4 _ rfl;have c5:w9.cell? ⟨A,5,none⟩=_:=aa B 5 _ rfl;have c6:w9.cell? ⟨A,6,none⟩=_:=aa B 6 _ rfl;have c7:w9.cell? ⟨A,7,none⟩=_:=aa B 7 _ rfl;have c8:w9.cell? ⟨A,8,none⟩=_:=aa B 8 _ rfl;have c9:w9.cell? ⟨A,9,none⟩=_:=aa B 9 _ rfl;have R:Below W.heap.size W w9:=J.o.trans (N.o.to_below _ J.o.size (λk e=>by omega));refine bodyPost_ret (v:=.tuple #[.agg #[.int .i64 0,.int .i64 0,.int .i64 0,.int .i64 0,.int .i64 0,.int .i64 0,.string ⟨#[]⟩,.string ⟨#[]⟩,.string ⟨#[]⟩,.slice none 0 0],.int .i64 9]) ?_ rfl ⟨rfl,R⟩;clear B;simp [results,Tryz.results16,go_sem,c0,c1,c2,c3,c4,c5,c6,c7,c8,c9]
def acn (m:Msg) (g:Nat) (w:World):Prop:=∃ a c,w.heap[g]?=some (.cells #[.int .i64 m.kind,.int .i64 m.queue,.int .i64 m.due,.int .i64 m.retry,.int .i64 m.ref,.int .i64 m.born,.string (S m.topic),.string (S m.tag),.string (S m.body),.slice a m.keys.length c] 65 (0,0))/\Strs w a (m.keys.map S)
def aqm (g:Nat) (w:World):Prop:=w.heap[g]?=some (.cells #[.int .i64 0,.int .i64 0,.int .i64 0,.int .i64 0,.int .i64 0,.int .i64 0,.string ⟨#[]⟩,.string ⟨#[]⟩,.string ⟨#[]⟩,.slice none 0 0] 65 (0,0))
structure ReadG (s:Nat) (m:Msg) (u v:World):Prop where
 below:Below s u v
 size:u.heap.size<=v.heap.size
 zero:∀ g,s<=g->aqm g u->aqm g v\/acn m g v
 full:∀ g,s<=g->acn m g u->acn m g v
 strs:∀ a,Strs u a (m.keys.map S)->Strs v a (m.keys.map S)
theorem ReadG.refl (s:Nat) (m:Msg) (w:World):ReadG s m w w:=⟨Below.refl _ _,Nat.le_refl _,λ_ _ h=>.inl h,λ_ _ h=>h,λ_ h=>h⟩
theorem ReadG.trans {s:Nat} {m:Msg} {u v w:World} (h:ReadG s m u v) (k:ReadG s m v w):ReadG s m u w :=
 ⟨h.below.trans k.below,Nat.le_trans h.size k.size,λg A e=>(h.zero g A e).elim (k.zero g A) λB=>.inr (k.full g A B),λg A e=>k.full g A (h.full g A e),λa e=>k.strs a (h.strs a e)⟩
theorem ReadG.of_below {s:Nat} {m:Msg} {u v:World} (hb:Below u.heap.size u v) (hs:s<=u.heap.size):ReadG s m u v :=
 ⟨hb.mono hs,hb.size,λg _ e=>.inl (ag hb e),λg _ ⟨a,c,h1,A⟩=>⟨a,c,ag hb h1,Strs.below A hb⟩,λa h=>Strs.below h hb⟩
def MadeM (s:Nat) (m:Msg) (g:Nat) (w:World):Prop:=s<=g/\(aqm g w\/acn m g w)
theorem MadeM.keep {s:Nat} {m:Msg} {g:Nat} {u v:World} (h:MadeM s m g u) (k:ReadG s m u v):MadeM s m g v :=
 ⟨h.1,h.2.elim (k.zero g h.1) λe=>.inr (k.full g h.1 e)⟩
theorem MadeM.cells {s:Nat} {m:Msg} {g:Nat} {w:World} (h:MadeM s m g w):∃ c0 c1 c2 c3 c4 c5 c6 c7 c8 c9,w.heap[g]?=some (.cells #[c0,c1,c2,c3,c4,c5,c6,c7,c8,c9] 65 (0,0)) :=
 h.2.elim (λe=>⟨_,_,_,_,_,_,_,_,_,_,e⟩) λ⟨_,_,e,_⟩=>⟨_,_,_,_,_,_,_,_,_,_,e⟩
theorem MadeM.store {s:Nat} {m:Msg} {g:Nat} {w:World} (h:MadeM s m g w) (hk:∀ t∈m.keys,t≠[]) (a:Option Addr) (c:Nat) (hS:Strs w a (m.keys.map S)) :
 ReadG s m w (o9 w g (.int .i64 m.kind) (.int .i64 m.queue) (.int .i64 m.due) (.int .i64 m.retry) (.int .i64 m.ref) (.int .i64 m.born) (.string (S m.topic)) (.string (S m.tag)) (.string (S m.body)) (.slice a m.keys.length c))/\acn m g (o9 w g (.int .i64 m.kind) (.int .i64 m.queue) (.int .i64 m.due) (.int .i64 m.retry) (.int .i64 m.ref) (.int .i64 m.born) (.string (S m.topic)) (.string (S m.tag)) (.string (S m.body)) (.slice a m.keys.length c)):=by
 obtain ⟨c0,c1,c2,c3,c4,c5,X,Y,Z,c9,hc⟩:=h.cells;have E:=kw rfl hc (.int .i64 m.kind) (.int .i64 m.queue) (.int .i64 m.due) (.int .i64 m.retry) (.int .i64 m.ref) (.int .i64 m.born) (.string (S m.topic)) (.string (S m.tag)) (.string (S m.body)) (.slice a m.keys.length c);have I:=mg w g (.int .i64 m.kind) (.int .i64 m.queue) (.int .i64 m.due) (.int .i64 m.retry) (.int .i64 m.ref) (.int .i64 m.born) (.string (S m.topic)) (.string (S m.tag)) (.string (S m.body)) (.slice a m.keys.length c)
 have F:∀ a2,Strs w a2 (m.keys.map S)->Strs (o9 w g (.int .i64 m.kind) (.int .i64 m.queue) (.int .i64 m.due) (.int .i64 m.retry) (.int .i64 m.ref) (.int .i64 m.born) (.string (S m.topic)) (.string (S m.tag)) (.string (S m.body)) (.slice a m.keys.length c)) a2 (m.keys.map S):=by
  intro a2 J i M;obtain ⟨b,off,e,A⟩:=J i M;refine ⟨b,off,e,?_⟩
  by_cases hb:b=g
  ·
   subst hb
   rcases h.2 with hz | ⟨a3,q3,hf,_⟩
   ·
    exfalso;rw [Lib.cell_of_heap hz] at A;have N:i < m.keys.length:=by rw [List.length_map] at M; exact M
    have O:=hk _ (List.getElem_mem N);rw [List.getElem_map] at A
    match h:off+i with
    | 0 | 1 | 2 | 3 | 4 | 5 | 9=>rw [h] at A; simp at A
    | 6 | 7 | 8=>rw [h] at A; simp at A; exact O (OctMath.S_inj (show S m.keys[i]=S [] from A.symm))
    | n+10=>rw [h] at A; simp at A
   ·
    rw [Lib.cell_of_heap hf] at A;rw [Lib.cell_of_heap E]
    match h:off+i with
    | 0 | 1 | 2 | 3 | 4 | 5 | 6 | 7 | 8=>rw [h] at A; exact A
    | 9=>rw [h] at A; simp at A
    | n+10=>rw [h] at A; simp at A
  . rw [I.cell (p:=⟨b,off+i,none⟩) (ax A) hb]; exact A
 have B:acn m g (o9 w g (.int .i64 m.kind) (.int .i64 m.queue) (.int .i64 m.due) (.int .i64 m.retry) (.int .i64 m.ref) (.int .i64 m.born) (.string (S m.topic)) (.string (S m.tag)) (.string (S m.body)) (.slice a m.keys.length c)):=⟨a,c,E,F a hS⟩;refine ⟨⟨I.to_below _ (by have:=(Array.getElem?_eq_some_iff.1 hc).1; have:=h.1; omega) λk e=>e ▸ h.1,I.size,λg2 R e=>?_,λg2 R e=>?_,F⟩,B⟩
 . by_cases hg:g2=g
   . subst hg; exact .inr B
   . exact .inl (di I e hg)
 ·
  by_cases hg:g2=g
  . subst hg; exact B
  . obtain ⟨a2,U,h1,J⟩:=e
    exact ⟨a2,U,di I h1 hg,F a2 J⟩
def ny (next n:Int):Bool:=decide (n < 0) || decide (next<=n)
theorem ass (n next:Int) (bx:Nat) (w:World) (hc:w.cell? ⟨bx,0,none⟩=some (.int .i64 next)) :
 Calls Tryz.prog 43 #[.int .i64 n,.pointer (some ⟨bx,0,none⟩)] w λe w'=>e=.returned (.bool (ny next n))/\w'=w:=by
 by_cases h1:n < 0
 ·
  have hb:ny next n=true:=by unfold ny; rw [decide_eq_true h1]; rfl
  rw [hb];have d1:decide (n < 0)=true:=decide_eq_true h1;clear hb;go_enter Tryz.func43,Tryz.ntmps43;go_wp2_with fail;go_ret;exact ⟨rfl,rfl⟩
 ·
  have d1:decide (n < 0)=false:=decide_eq_false h1
  by_cases h2:next<=n
  ·
   have hb:ny next n=true:=by unfold ny; rw [decide_eq_true h2,Bool.or_true]
   rw [hb];have d2:decide (next<=n)=true:=decide_eq_true h2;clear hb;go_enter Tryz.func43,Tryz.ntmps43;go_wp2_with fail;go_ret;exact ⟨rfl,rfl⟩
  ·
   have hb:ny next n=false:=by unfold ny; rw [d1,decide_eq_false h2]; rfl
   rw [hb];have d2:decide (next<=n)=false:=decide_eq_false h2;clear hb;go_enter Tryz.func43,Tryz.ntmps43;go_wp2_with fail;go_ret;exact ⟨rfl,rfl⟩
theorem ast (a:Option Addr) (cp:Nat) (xs:List Int) (J:xs.length<=1048576) (bx:Nat) (next:Int) (w:World) (hr:OctW.Ints w a xs) (hs:w.cell? ⟨bx,0,none⟩=some (.int .i64 next)) :
 Calls Tryz.prog 92 #[.slice a xs.length cp,.func (.func 43) #[] #[.pointer (some ⟨bx,0,none⟩)]] w λe w'=>∃ r:Int,e=.returned (.int .i64 r)/\decide (0<=r)=xs.any (ny next)/\Below w.heap.size w w':=by
 have X:=zq hr;have R:=zq hs;clear hr hs;go_enter Tryz.func92,Tryz.ntmps92;go_wp2_with fail;go_loopw [8] (λi wr=>∃ k:Nat,k<=xs.length/\i=.int .i64 (k:Int)/\Zq (∀ x∈xs.take k,ny next x=false)/\Zq (Below w.heap.size w wr)) (λi _=>xs.length+1 - (intOf i).toNat)
 case atStart=>exact ⟨0,by omega,rfl,λx J=>by simp at J,Below.refl _ _⟩
 case round =>
  obtain ⟨k,hk,rfl,U,M⟩:=hrel
  by_cases hlt:k < xs.length
  ·
   obtain ⟨g,off,rfl,h1⟩:=(X.o.below M.o) k hlt;have A:=zq (λw2 Y=>ass xs[k] next bx w2 Y);have E:wr.cell? ⟨bx,0,none⟩=some (.int .i64 next):=by rw [M.o.cell (ax R.o)]; exact R.o
   have B:=zq E;have F:xs.take (k+1)=xs.take k++[xs[k]]:=List.take_succ_eq_append_getElem hlt
   by_cases he:ny next xs[k]=true
   ·
    have N:Zq (decide (0<=(k:Int))=xs.any (ny next)):=by
     show _=_;rw [decide_eq_true (by omega),(List.any_eq_true.2 ⟨xs[k],List.getElem_mem hlt,he⟩)]
    rw [he] at A;clear F he E;generalize xs[k]=z at *
    go_wp2_with fail;refine (A.o _ (by first | exact B.o | simpa using B.o)).mono ?_;rintro e w2 ⟨rfl,hb⟩;obtain rfl:=hb.symm;clear A h1;go_wp2_with fail;go_ret;exact ⟨_,rfl,N.o,M.o.trans (by first | exact Below.refl _ _ | exact (Below.refl _ _).drew)⟩
   ·
    have I:ny next xs[k]=false:=by cases h:ny next xs[k] with
     | true=>exact absurd h he
     | false=>rfl
    have O:Zq (∀ x∈xs.take (k+1),ny next x=false):=by
     show ∀ x∈xs.take (k+1),ny next x=false
     rw [F];intro x J
     rcases List.mem_append.1 J with h | h
     . exact U.o x h
     . rw [List.mem_singleton] at h; subst h; exact I
    rw [I] at A;clear F he I E;generalize xs[k]=z at *
    go_wp2_with fail;refine (A.o _ (by first | exact B.o | simpa using B.o)).mono ?_;rintro e w2 ⟨rfl,hb⟩;obtain rfl:=hb.symm;clear A h1;go_wp2_with fail;go_roundw
    case rel=>exact ⟨k+1,by omega,by go_num,O,M.o.trans (by first | exact Below.refl _ _ | exact (Below.refl _ _).drew)⟩
    case measure=>simp [intOf]; omega
  ·
   obtain rfl:k=xs.length:=by omega
   have N:Zq (decide (0<=(-1:Int))=xs.any (ny next)):=by
    show _=_;have:=U.o;rw [List.take_length] at this;rw [List.any_eq_false.2 (λx J=>by rw [this x J]; decide)];rfl
   go_wp2_with fail;go_ret;exact ⟨_,rfl,N.o,M.o⟩
theorem abx (a:Option Addr) (cp:Nat) (xs:List Int) (hx:xs.length<=1048576) (bx:Nat) (next:Int) (w:World) (A:OctW.Ints w a xs) (hs:w.cell? ⟨bx,0,none⟩=some (.int .i64 next)) :
 Calls Tryz.prog 42 #[.slice a xs.length cp,.func (.func 43) #[] #[.pointer (some ⟨bx,0,none⟩)]] w λe w'=>e=.returned (.bool (xs.any (ny next)))/\Below w.heap.size w w':=by
 have B:=zq (ast a cp xs hx bx next w A hs);clear A hs;go_enter Tryz.func42,Tryz.ntmps42;go_wp2_with fail;refine B.o.mono ?_;rintro e w2 ⟨r,rfl,A,hb⟩;have E:=zq hb;have F:=zq A;clear hb A B;go_wp2_with fail;go_ret;rw [<- F.o];exact ⟨rfl,E.o⟩
def kv (xs:List Int):Int:=xs.foldl (λm x=>max m x) (-1)
theorem abb (xs:List Int) {k:Nat} (h:k < xs.length):kv (xs.take (k+1))=max (kv (xs.take k)) xs[k]:=by
 rw [List.take_succ_eq_append_getElem h]; unfold kv; rw [List.foldl_append]; rfl
theorem aqn (xs:List Int) (h:0 < xs.length) (h0:0<=xs[0]):kv (xs.take 1)=xs[0]:=by
 rw [abb xs h];show max (-1) xs[0]=xs[0];omega
theorem aur (a:Option Addr) (cp:Nat) (xs:List Int) (hx:xs.length<=1048576) (h0:0 < xs.length) (hp:∀ x∈xs,0<=x) (w:World) (hr:OctW.Ints w a xs) :
 Calls Tryz.prog 44 #[.slice a xs.length cp] w λe w'=>e=.returned (.int .i64 (kv xs))/\w'=w:=by
 have I:=zq hr;have J:=zq (aqn xs h0 (hp _ (List.getElem_mem h0)));have M:=zq (λk (h:k < xs.length)=>abb xs h);obtain ⟨g,off,rfl,h1⟩:=hr 0 h0;have B:¬ (xs.length:Int) < 1:=by omega
 have N:decide ((xs.length:Int) < 1)=false:=decide_eq_false B;rw [<- J.o,Nat.add_zero] at h1;clear hr hp;go_enter Tryz.func44,Tryz.ntmps44;go_wp2_with fail;go_loopw [3,4] (λm i wr=>∃ k:Nat,1<=k/\k<=xs.length/\i=.int .i64 (k:Int)/\m=.int .i64 (kv (xs.take k))/\wr=w) (λ_ i _=>xs.length+1 - (intOf i).toNat)
 case atStart=>exact ⟨1,by omega,by omega,rfl,rfl,rfl⟩
 case round =>
  obtain ⟨k,O,hk,rfl,rfl,rfl⟩:=hrel
  by_cases hlt:k < xs.length
  ·
   obtain ⟨g2,F,A,R⟩:=I.o k hlt;injection A with A
   injection A with A e3
   subst A e3;have E:=zq (M.o k hlt);clear h1;go_wp2_with fail;go_roundw
   case rel=>exact ⟨k+1,by omega,by omega,by go_num,by rw [E.o],by first | rfl | trivial⟩
   case measure=>simp [intOf]; omega
  ·
   obtain rfl:k=xs.length:=by omega
   clear h1;go_wp2_with fail;go_ret;rw [List.take_length];exact ⟨rfl,rfl⟩
theorem bars_nil (g t:ByteArray) (q:Int) (w:World) :
 Calls Tryz.prog 36 #[.pointer none,.string g,.string t,.int .i64 q] w λe w'=>e=.returned (.int .i64 1)/\w'=w:=by
 go_enter Tryz.func36,Tryz.ntmps36;go_wp2_with fail;go_ret;exact ⟨rfl,rfl⟩
def lm (l:List (List UInt8×Nat)) (g t:List UInt8) (q:Int):Int:=if iq g=true then ni l t q else 11
theorem bars_any {base:Nat} {S0:StoD} {X:TabD} (g t:List UInt8) (q:Int) (hg:g.length<=1000) (ht:t.length<=1000) (W:World) (h:StoTab base W S0 X) (hl:X.l.length<=1000) :
 Calls Tryz.prog 36 #[.pointer (some ⟨S0.blk,0,none⟩),.string (S g),.string (S t),.int .i64 q] W λe w'=>e=.returned (.int .i64 (lm X.l g t q))/\Below W.heap.size W w':=by
 have M:=zq (NameW.uq g (by omega) W);have N:Zq (∀ w,Below W.heap.size W w->w.cell? ⟨S0.blk,3,none⟩=some (.pointer (some ⟨X.blk,0,none⟩))/\Calls Tryz.prog 63 #[.pointer (some ⟨X.blk,0,none⟩),.string (S t),.int .i64 q] w λe w'=>e=.returned (.int .i64 (ni X.l t q))/\Below w.heap.size w w'):=λw hb=>⟨ack (h.below hb),aez t (by omega) q w (h.below hb).tab hl⟩
 have B:Zq (lm X.l g t q=if iq g=true then ni X.l t q else 11):=rfl;clear h hg ht hl;generalize ni X.l t q=ck at *
 generalize S g=sg at *
 generalize S t=st at *
 go_enter Tryz.func36,Tryz.ntmps36;go_wp2_with fail;refine M.o.mono ?_;rintro e w2 ⟨rfl,hb⟩;have I:=zq hb;obtain ⟨c3,E⟩:=N.o w2 hb;have F:=zq E;clear hb E M N
 cases hgl:iq g with
 | false =>
   rw [hgl] at B;have A:=zq (B.o.trans (if_neg (by decide)));clear hgl B;go_wp2_with fail;go_ret;rw [A.o];exact ⟨rfl,I.o⟩
 | true =>
   rw [hgl] at B;have A:=zq (B.o.trans (if_pos rfl));clear hgl B;go_wp2_with fail;refine F.o.mono ?_;rintro e w3 ⟨rfl,hb⟩;have J:=zq (I.o.trans (hb.mono I.o.size));clear hb F c3;go_wp2_with fail;go_ret;rw [A.o];exact ⟨rfl,J.o⟩
theorem an1 (g:ByteArray) (w:World) :
 Calls Tryz.prog 19 #[.pointer none,.string g] w λe w'=>e=.returned (.tuple #[.int .i64 0,.int .i64 0,.int .i64 1])/\w'=w:=by
 go_enter Tryz.func19,Tryz.ntmps19;go_wp2_with fail;refine bodyPost_ret (v:=.tuple #[.int .i64 0,.int .i64 0,.int .i64 1]) ?_ rfl ⟨rfl,rfl⟩;simp [results,Tryz.results19,go_sem]
theorem aku (w:World) :
 Calls Tryz.prog 20 #[.pointer none,.int .i64 0] w λe w'=>e=.returned (.tuple #[.int .i64 0,.int .i64 1])/\w'=w:=by
 go_enter Tryz.func20,Tryz.ntmps20;go_wp2_with fail;go_ret2;exact ⟨rfl,rfl⟩
theorem akv {base:Nat} {S0:StoD} (W:World) (h:StoAt base W S0) :
 Calls Tryz.prog 20 #[.pointer (some ⟨S0.blk,0,none⟩),.int .i64 (-1)] W λe w'=>e=.returned (.tuple #[.int .i64 0,.int .i64 9])/\Below W.heap.size W w':=by
 have A:=zq (aql W h.tape);have c0:W.cell? ⟨S0.blk,0,none⟩=some (.pointer (some ⟨S0.T.O.blk,0,none⟩)):=h.cell 0 _ rfl;clear h;go_enter Tryz.func20,Tryz.ntmps20;go_wp2_with fail;refine A.o.mono ?_;rintro e w2 ⟨rfl,hb⟩;have B:=zq (hb.alloc (o:=.cells #[.int .i64 0,.int .i64 0,.int .i64 0,.int .i64 0,.int .i64 0,.int .i64 0,.string ⟨#[]⟩,.string ⟨#[]⟩,.string ⟨#[]⟩,.slice none 0 0] 65) hb.size);clear hb A c0;go_wp2_with fail;go_ret2;exact ⟨rfl,B.o⟩
theorem aqo (g t:ByteArray) (q p:Int) (sy:Bool) (w:World) :
 Calls Tryz.prog 14 #[.pointer none,.string g,.string t,.int .i64 q,.int .i64 p,.bool sy] w λe w'=>e=.returned (.tuple #[.int .i64 0,.int .i64 1])/\w'=w:=by
 have A:=zq (bars_nil g t q w);go_enter Tryz.func14,Tryz.ntmps14;go_wp2_with fail;refine A.o.mono ?_;rintro e w2 ⟨rfl,rfl⟩;clear A;go_wp2_with fail;go_ret2;exact ⟨rfl,rfl⟩
theorem asu (g t:ByteArray) (q:Int) (w:World) :
 Calls Tryz.prog 17 #[.pointer none,.string g,.string t,.int .i64 q,.slice none 0 0] w λe w'=>e=.returned (.int .i64 1)/\w'=w:=by
 have A:=zq (bars_nil g t q w);go_enter Tryz.func17,Tryz.ntmps17;go_wp2_with fail;refine A.o.mono ?_;rintro e w2 ⟨rfl,rfl⟩;clear A;go_wp2_with fail;go_ret;exact ⟨rfl,rfl⟩
theorem an2 {base:Nat} {S0:StoD} {X:TabD} (g t:List UInt8) (q p:Int) (sy:Bool) (hg:g.length<=1000) (ht:t.length<=1000) (W:World) (h:StoTab base W S0 X) (hl:X.l.length<=1000) (r:Int) (hr:lm X.l g t q=r) (h0:r≠0) :
 Calls Tryz.prog 14 #[.pointer (some ⟨S0.blk,0,none⟩),.string (S g),.string (S t),.int .i64 q,.int .i64 p,.bool sy] W λe w'=>e=.returned (.tuple #[.int .i64 0,.int .i64 r])/\Below W.heap.size W w':=by
 have A:=zq (bars_any g t q hg ht W h hl);rw [hr] at A;have E:(r != 0)=true:=bne_iff_ne.2 h0;clear h hr hg ht hl;generalize S g=sg at *
 generalize S t=st at *
 go_enter Tryz.func14,Tryz.ntmps14;go_wp2_with fail;refine A.o.mono ?_;rintro e w2 ⟨rfl,hb⟩;have B:=zq hb;clear hb A;go_wp2_with fail;go_ret2;exact ⟨rfl,B.o⟩
theorem aqp {base:Nat} {S0:StoD} {X:TabD} (g t:List UInt8) (q:Int) (a:Option Addr) (n cp:Nat) (hg:g.length<=1000) (ht:t.length<=1000) (W:World) (h:StoTab base W S0 X) (hl:X.l.length<=1000) (r:Int) (hr:lm X.l g t q=r) (h0:r≠0) :
 Calls Tryz.prog 17 #[.pointer (some ⟨S0.blk,0,none⟩),.string (S g),.string (S t),.int .i64 q,.slice a n cp] W λe w'=>e=.returned (.int .i64 r)/\Below W.heap.size W w':=by
 have A:=zq (bars_any g t q hg ht W h hl);rw [hr] at A;have E:(r != 0)=true:=bne_iff_ne.2 h0;clear h hr hg ht hl;generalize S g=sg at *
 generalize S t=st at *
 go_enter Tryz.func17,Tryz.ntmps17;go_wp2_with fail;refine A.o.mono ?_;rintro e w2 ⟨rfl,hb⟩;have B:=zq hb;clear hb A;go_wp2_with fail;go_ret;exact ⟨rfl,B.o⟩
end RetW
end Go.Proofs.YtkjocpjikcepkaaGreatDoor
