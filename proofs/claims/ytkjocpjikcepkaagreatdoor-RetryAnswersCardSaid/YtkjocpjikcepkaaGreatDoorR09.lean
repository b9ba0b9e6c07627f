/- keyx.Add on a quiet disk. And what follows. -/
import Derived.Test.YtkjocpjikcepkaaGreatDoorR08
import Derived.ArgAppend
set_option linter.unusedVariables false
set_option linter.unusedSimpArgs false
set_option maxHeartbeats 25600000
set_option maxRecDepth 100000
namespace Go.Proofs.YtkjocpjikcepkaaGreatDoor
namespace KxW
open Go.RowKit OctMath DskW SegW MapG CacheW NameW EntW OctW
theorem apr (a b c d:Nat) (ha:a < 4294967296) (hb:b<=1099511627776) (hc:c<=1099511627776) (hd:d < 16777216):yz (qp (a:Int) (b:Int) (c:Int) (d:Int))=true/\(wu (qp (a:Int) (b:Int) (c:Int) (d:Int))).length=20:=by
 have A:yz (qp (a:Int) (b:Int) (c:Int) (d:Int))=true:=by
  refine decide_eq_true λp hp=>?_
  simp only [qp,List.mem_cons,List.not_mem_nil,or_false] at hp
  rcases hp with rfl | rfl | rfl | rfl
  . exact ⟨Int.natCast_nonneg _,by show (a:Int) < ((1099511627776:Nat):Int); omega⟩
  . exact ⟨Int.natCast_nonneg _,by show (b:Int) < ((281474976710656:Nat):Int); omega⟩
  . exact ⟨Int.natCast_nonneg _,by show (c:Int) < ((281474976710656:Nat):Int); omega⟩
  . exact ⟨Int.natCast_nonneg _,by show (d:Int) < ((16777216:Nat):Int); omega⟩
 refine ⟨A,?_⟩;unfold wu;rw [A,if_pos rfl];simp [qp,aag,bq]
structure atn (base:Nat) (W w':World) (X:KxD) (D D':DiskD):Prop where
 kx:KxAt base w' { X with many:=X.many+1 } D'
 dsk:DiskAt base w' D'
 grows:Grows D D' [] 20 2
 mod:Mod (λk=>D.foot k\/k=X.blk) W w'
 foot:∀ k,D'.foot k->D.foot k\/W.heap.size<=k
 other:∀ m,m≠jd->m≠jg->D'.find m=D.find m
theorem ato {base:Nat} {X:KxD} {D:DiskD} (t k:List UInt8) (a b:Nat) (W:World) (h:KxAt base W X D) (hD:DiskAt base W D) (hq:Quiet D) (hbase:base<=W.heap.size) (ht:NameMath.j6 t=true) (hk:RecMath.qx k=true) (htl:t.length<=1000) (hkl:k.length<=1000)
 (ha:a<=1099511627776) (hb:b<=1099511627776) (hm:X.many<=700000) (hroom:20<=D.room) (hwl:D.waits.length<=1000000) :
 Calls Tryz.prog 143 #[.pointer (some ⟨X.blk,0,none⟩),.string (S t),.string (S k),.int .i64 (a:Int),.int .i64 (b:Int)] W λe w'=>e=.returned (.int .i64 0)/\∃ D',atn base W w' X D D':=by
 have ad:=zq (λw=>aa6 t (by omega) w);rw [ht] at ad;have ak:=zq (λw=>RecW.ak7 k (by omega) w);rw [hk] at ak;have a8:=zq (λw=>akf t k (by omega) (by omega) w);have ba:=ake t k;generalize adu t k=n at *
 have bb:=zq (λ(w:World) (hb:Below W.heap.size W w)=>apn (X:=X) (n % 8) (Nat.mod_lt _ (by decide)) w (h.below hb) (hD.below hb) hq);have dl:IntKind.i64.wrap ((n:Int) % 8)=((n % 8:Nat):Int):=IntWalk.i64_in _ (by omega);have dn:(decide ((a:Int) < 0))=false:=by simp
 have dp:(decide ((1099511627776:Int) < (a:Int)))=false:=by simp; omega
 have dq:(decide ((b:Int) < 0))=false:=by simp
 have dr:(decide ((1099511627776:Int) < (b:Int)))=false:=by simp; omega
 obtain ⟨fs,bc,Z⟩:=h.slots;obtain ⟨fl,bd,I⟩:=h.links;have F:=zq h;have HD:=zq hD;have HQ:=zq hq;have cf:=zq hbase;have cg:=zq bc;have ab:=zq Z;have bh:=zq I;have ci:=zq hwl;have da:IntKind.i64.wrap ((X.many:Int) * 20)=((20 * X.many:Nat):Int):=by rw [IntWalk.i64_in _ (by omega)]; omega
 have ds:IntKind.i64.wrap ((X.many:Int)+1)=((X.many+1:Nat):Int):=by rw [IntWalk.i64_in _ (by omega)]; omega
 have cj:IntKind.i64.wrap (3 * ((n:Int) % 8))=((3 * (n % 8):Nat):Int):=by rw [IntWalk.i64_in _ (by omega)]; omega
 have bj:=zq (λ(s:List UInt8) (hs:s.length=20) (w:World) (hb:Below W.heap.size W w)=>agw jg fl s w (hD.below hb) hq bd (20 * X.many) I.symm (by intro e; rw [e] at hs; cases hs) (by omega) (by rw [hs]; exact hroom) (by omega) (Nat.le_trans hbase hb.size));have HM:=zq hm;have HN:=zq ba;have HA:=zq ha;have HB:=zq hb;clear h hD hq hbase ht hk htl hkl hroom hwl bc Z bd I hm ba ha hb;go_enter Tryz.func143,Tryz.ntmps143;go_wp2_with fail;refine (ad.o _).mono ?_;rintro e w1 ⟨rfl,hb⟩;have al:=zq hb;clear hb ad;go_wp2_with fail;refine (ak.o _).mono ?_;rintro e w2 ⟨rfl,hb⟩;have am:=zq (al.o.trans (hb.mono al.o.size));clear hb ak al;go_wp2_with fail;refine (a8.o _).mono ?_;rintro e w3 ⟨rfl,hb⟩;have J:=zq (am.o.trans (hb.mono am.o.size));clear hb a8 am;go_wp2_with fail;refine (bb.o _ J.o).mono ?_;rintro e w4 ⟨u,rfl,hu,hb⟩;have an:=zq (J.o.trans (hb.mono J.o.size));clear hb bb J;obtain ⟨l1,l2⟩:=apr n a b u HN.o HA.o HB.o hu;have ao:=zq (λw=>apl (n:Int) (a:Int) (b:Int) (u:Int) (by have:=HN.o; omega) (by have:=HA.o; omega) (by have:=HB.o; omega) (by omega) w);rw [l1] at ao;generalize wu (qp (n:Int) (a:Int) (b:Int) (u:Int))=s at *
 have HS:=zq l2;clear l1 l2;go_wp2_with fail;refine (ao.o _).mono ?_;rintro e w5 ⟨rfl,hb⟩;have O:=zq (an.o.trans (hb.mono an.o.size));clear hb ao an;go_upto_region 13 with fail
 have c5:w5.heap[X.blk]?=some (.cells #[.pointer (some ⟨D.blk,0,none⟩),.int .i64 (X.many:Int)] 255 (0,0)):=(F.o.below O.o).cells;have k0:w5.drew.cell? ⟨X.blk,0,none⟩=some (.pointer (some ⟨D.blk,0,none⟩)):=by rw [Lib.cell_of_heap (show w5.drew.heap[X.blk]?=_ from c5)]; rfl
 have k1:w5.drew.cell? ⟨X.blk,1,none⟩=some (.int .i64 (X.many:Int)):=by rw [Lib.cell_of_heap (show w5.drew.heap[X.blk]?=_ from c5)]; rfl
 clear c5;have ap:=zq (bj.o s HS.o w5.drew (O.o.drew));rw [show S jg=⟨#[120,45,108,105,110,107,115]⟩ from rfl,HS.o] at ap;clear bj;refine GrowM.j3 (by kernel_rfl) ?_;refine GrowM.j5 10 [none,none,none,none,none,none,none,none,none,none] (λu v=>v=u) (by kernel_rfl) (by kernel_rfl) (λ_=>rfl) (λ_ _ _ h k=>k.trans h) ?_ ?_
 . exact GrowN.jy rfl
 simp only [List.take_succ_cons,List.take_zero,List.drop_succ_cons,List.drop_zero,Nat.reduceSub]
 iterate 10
  refine GrowN.g_det rfl ?_;apply Exists.intro;refine ⟨λw hw hF=>?_,?_⟩
  . obtain rfl:=hw.symm
    clear hF;go_simp
    first | exact rfl | exact ⟨rfl,rfl⟩
  go_frame
 refine GrowN.g_nil λwz av hF=>?_
 obtain rfl:=av.symm;clear hF;refine GrowM.qj (λv w'=>v=.int .i64 0/\∃ D',DiskAt base w' D'/\Grows D D' [] 20 1/\Mod D.foot w5.drew w'/\(∀ k,D'.foot k->D.foot k\/w5.drew.heap.size<=k)/\(∃ f',D'.find jg=some f'/\f'.now=fl.now++s)/\∀ m,m≠jg->D'.find m=D.find m) (by kernel_rfl) rfl rfl ?_ ?_
 ·
  go_simp;refine ap.o.mono ?_;rintro e w' ⟨rfl,hb⟩;exact ⟨_,rfl,rfl,hb⟩
 rintro v R ⟨rfl,D1,bk,bl,bm,bo,bp,br⟩;go_frame;have co:=zq bk;have U:=zq bl;have E:Zq (Mod D.foot W R):=(Mod.of_below (M:=D.foot) O.o.drew).trans bm;have bs:Zq (∀ k,D1.foot k->D.foot k\/W.heap.size<=k):=λk hk=>(bo k hk).imp_right λh=>Nat.le_trans O.o.size h
 have cp:=zq bp;have bw:=zq br;clear bk bl bm bo bp br ap k0 k1;refine GrowM.j5 12 [none] (λu v=>v=u) (by kernel_rfl) (by kernel_rfl) (λ_=>rfl) (λ_ _ _ h k=>k.trans h) ?_ ?_
 . exact GrowN.jy rfl
 simp only [List.take_succ_cons,List.take_zero,List.drop_succ_cons,List.drop_zero,Nat.reduceSub];refine GrowN.g_det rfl ?_;apply Exists.intro;refine ⟨λw hw hF=>?_,?_⟩
 ·
  obtain rfl:=hw.symm;clear hF;go_simp
  first | exact rfl | exact ⟨rfl,rfl⟩
 go_frame;refine GrowN.g_nil λwz av hF=>?_
 obtain rfl:=av.symm;clear hF;refine GrowM.uy rfl ?_;have A:=(Array.getElem?_eq_some_iff.1 F.o.cells).1;have c6:R.heap[X.blk]?=some (.cells #[.pointer (some ⟨D.blk,0,none⟩),.int .i64 (X.many:Int)] 255 (0,0)):=(E.o.block _ A F.o.away).trans F.o.cells;have k0:R.cell? ⟨X.blk,0,none⟩=some (.pointer (some ⟨D.blk,0,none⟩)):=by rw [Lib.cell_of_heap c6]; rfl
 have k1:R.cell? ⟨X.blk,1,none⟩=some (.int .i64 (X.many:Int)):=by rw [Lib.cell_of_heap c6]; rfl
 clear c6 A;go_upto_region 16 with fail
 go_wp2_with fail
 have a1:=zq (OctW.nums_any 3 (by omega) (by omega) (some ⟨R.heap.size,0,none⟩) 1 [(X.many:Int)+1] (by simp) (λy hy=>by
  have hm:=HM.o;have e:y=(X.many:Int)+1:=by simpa using hy
  omega) (R.alloc (.cells #[.int .i64 ((X.many:Int)+1)] 3)) (λi hi=>by
  obtain rfl:i=0:=by simpa using hi
  refine ⟨_,_,rfl,?_⟩;rw [World.cell?_alloc_new]; rfl))
 have bz:pu 3 [(X.many:Int)+1]=(be 3 (X.many+1),0):=by
  have:=acf 3 ((X.many:Int)+1) (by decide) (by decide);rw [if_pos ⟨by omega,by show (X.many:Int)+1 < ((16777216:Nat):Int); have:=HM.o; omega⟩] at this;rw [show ((X.many:Int)+1).toNat=X.many+1 by omega] at this;exact this
 rw [bz] at a1;have B:Zq (Below R.heap.size R (R.alloc (.cells #[.int .i64 ((X.many:Int)+1)] 3))):=(Below.refl _ _).alloc (Nat.le_refl _) _;clear bz;refine a1.o.mono ?_;rintro e w7 ⟨rfl,hb⟩;have B:=zq (B.o.trans (hb.mono B.o.size));clear hb a1;have A:=(Array.getElem?_eq_some_iff.1 F.o.cells).1;have c7:w7.heap[X.blk]?=some (.cells #[.pointer (some ⟨D.blk,0,none⟩),.int .i64 (X.many:Int)] 255 (0,0)):=(B.o.block _ (Nat.lt_of_lt_of_le A E.o.size)).trans ((E.o.block _ A F.o.away).trans F.o.cells);have k0:w7.cell? ⟨X.blk,0,none⟩=some (.pointer (some ⟨D.blk,0,none⟩)):=by rw [Lib.cell_of_heap c7]; rfl
 clear c7 A k1;have cs:D1.find jd=some fs:=(bw.o jd (by decide)).trans cg.o;have Y:(be 3 (X.many+1)).length=3:=bq _ _;have a6:=zq (atm jd fs (be 3 (X.many+1)) (3 * (n % 8)) w7 (co.o.below B.o) U.o.quiet cs (by rw [Y,ab.o]; omega) (by intro e; rw [e] at Y; cases Y) (by rw [Y]; omega) (by rw [U.o.waits]; have:=ci.o; omega) (by have h1:=cf.o; have h2:=E.o.size; have h3:=B.o.size; omega));rw [show S jd=⟨#[120,45,115,108,111,116,115]⟩ from rfl,U.o.blk,show ((3 * (n % 8):Nat):Int)=3 * ((n:Int) % 8) by omega] at a6;rw [show ((3 * (n % 8):Nat):Int)=3 * ((n:Int) % 8) by omega] at cj;go_wp2_with fail;refine a6.o.mono ?_;rintro e w8 ⟨rfl,D2,b0,b1,b2,b3,b4,b5⟩;have cv:=zq b0;have b6:=zq (U.o.trans b1);have b7:Zq (∀ k,D2.foot k->D.foot k\/W.heap.size<=k):=λk hk=>(b3 k hk).elim (λh=>bs.o k h) λh=>.inr (Nat.le_trans E.o.size (Nat.le_trans B.o.size h))
 have b8:Zq (Mod D.foot W w8):=(((E.o.mono (N:=λk=>D.foot k\/W.heap.size<=k) (λk _ h=>.inl h)).trans (Mod.of_below (M:=λk=>D.foot k\/W.heap.size<=k) B.o)).trans (b2.mono (λk _ h=>bs.o k h))).mono (λk hk h=>h.elim (λh=>h) λh=>by omega);have cw:=zq b4;have b9:=zq b5;clear b0 b1 b2 b3 b4 b5 a6 k0;have A:=(Array.getElem?_eq_some_iff.1 F.o.cells).1;have c8:w8.heap[X.blk]?=some (.cells #[.pointer (some ⟨D.blk,0,none⟩),.int .i64 (X.many:Int)] 255 (0,0)):=(b8.o.block _ A F.o.away).trans F.o.cells;have cx:=zq c8;have k1:w8.cell? ⟨X.blk,1,none⟩=some (.int .i64 (X.many:Int)):=by rw [Lib.cell_of_heap c8]; rfl
 have f1:w8.frozen? ⟨X.blk,1,none⟩=false:=Lib.frozen_of_heap c8 1;clear c8;go_wp2_with fail;go_ret;have ca:Mod (λk=>k=X.blk) w8 (w8.setCell ⟨X.blk,1,none⟩ (.int .i64 ((X.many:Int)+1))):=jv _ _ _ _;have cb:¬ D2.foot X.blk:=λh=>(b7.o _ h).elim F.o.away λh=>by omega
 obtain ⟨f1,x1,x2⟩:=cp.o;obtain ⟨f2,y1,y2⟩:=cw.o;refine ⟨rfl,D2,⟨?_,⟨f2,y1,y2.trans ab.o⟩,⟨f1,(b9.o jg (by decide)).trans x1,by rw [x2,List.length_append,HS.o,bh.o]; show _=20 * (X.many+1); omega⟩,F.o.low,cb⟩,cv.o.mod ca (λk hk e=>cb (e ▸ hk)),b6.o,(b8.o.mono (λk _ h=>.inl h)).trans (ca.mono (λk _ h=>.inr h)),b7.o,λm h1 h2=>(b9.o m h1).trans (bw.o m h2)⟩;rw [b6.o.blk];exact heap_set1 cx.o _ rfl
end KxW
namespace CqW
open Go.RowKit Go.MapKept OctMath RecMath DskW SegW MapG CacheW EntW NameW KxW
theorem ac5 {t t':List UInt8} {q q' n n':Nat} (hq:q < 3) (hq':q' < 3) (hn:n<=99999999) (hn':n'<=99999999) (h:ah (ll t q) n=ah (ll t' q') n'):t=t'/\q=q':=by
 have h1:ll t q=ll t' q':=(List.append_inj' h (by rw [adq n hn,adq n' hn'])).1;have hd:∀ k < 3,Lib.decDigits k=[UInt8.ofNat (48+k)]:=λk hk=>Lib.decDigits_one (by omega)
 unfold ll at h1;rw [hd q hq,hd q' hq'] at h1;have B:=(List.append_inj' h1 rfl).1;have A:=List.append_inj' B rfl;have E:=(List.append_inj' A.1 rfl).1;refine ⟨(List.append_inj E rfl).2,?_⟩;have F:=A.2;have:q=0\/q=1\/q=2:=by omega
 have:q'=0\/q'=1\/q'=2:=by omega
 rcases ‹q=0\/q=1\/q=2› with rfl | rfl | rfl <;> rcases ‹q'=0\/q'=1\/q'=2› with rfl | rfl | rfl <;> first | rfl | (exact absurd F (by decide))
theorem af4 (t:List UInt8) {q:Nat} (hq:q < 3):(ll t q).length=t.length+5:=by
 have hd:∀ k < 3,(Lib.decDigits k).length=1:=λk hk=>by rw [Lib.decDigits_one (by omega)]; rfl
 unfold ll;simp only [List.length_append,hd q hq,List.length_cons,List.length_nil];omega
theorem aa9 (t:List UInt8) (q n:Nat):ah (ll t q) n≠jd/\ah (ll t q) n≠jg:=by
 constructor <;> (intro h; injection h with h1 h2; exact absurd h1 (by decide))
theorem adv (t:List UInt8) (q n:Nat):ah (ll t q) n≠oo/\ah (ll t q) n≠ul:=by
 constructor <;> (intro h; injection h with h1 h2; exact absurd h1 (by decide))
def TmS (D D':DiskD):Prop:=D'.blk=D.blk/\∀ n,n=oo\/n=ul->D'.find n=D.find n
theorem TmS.refl (D:DiskD):TmS D D:=⟨rfl,λ_ _=>rfl⟩
theorem TmS.trans {D D1 D2:DiskD} (k:TmS D1 D2) (h:TmS D D1):TmS D D2:=⟨k.1.trans h.1,λn A=>(k.2 n A).trans (h.2 n A)⟩
def aeu (p:Nat×Msg):List UInt8:=wu (fw (p.1:Int) ((bg p.2).length:Int) ((mq [p.2.tag]:Nat):Int) p.2.born)
def isQ (t:List UInt8) (q:Int) (p:Nat×Msg):Bool:=decide (p.2.topic=t) && decide (p.2.queue=q)
def ofQ (t:List UInt8) (q:Int) (l:List (Nat×Msg)):List UInt8:=(l.filter (isQ t q)).flatMap aeu
theorem alh {t:List UInt8} {q:Int} (l:List (Nat×Msg)) {p:Nat×Msg} (h1:p.2.topic=t) (h2:p.2.queue=q):ofQ t q (l++[p])=ofQ t q l++aeu p:=by
 have h:isQ t q p=true:=by unfold isQ; simp [h1,h2]
 unfold ofQ;rw [List.filter_append,List.filter_cons_of_pos h,List.filter_nil,List.flatMap_append];simp
theorem atp {t:List UInt8} {q:Int} (l:List (Nat×Msg)) {p:Nat×Msg} (h:¬ (p.2.topic=t/\p.2.queue=q)):ofQ t q (l++[p])=ofQ t q l:=by
 have h:¬ isQ t q p=true:=by unfold isQ; simpa using λh1 A=>h ⟨h1,A⟩
 unfold ofQ;rw [List.filter_append,List.filter_cons_of_neg h,List.filter_nil,List.append_nil]
theorem aps {t:List UInt8} {q:Int} {l:List (Nat×Msg)} (h:∀ p∈l,¬ (p.2.topic=t/\p.2.queue=q)):ofQ t q l=[]:=by
 have:l.filter (isQ t q)=[]:=List.filter_eq_nil_iff.2 λp hp=>by unfold isQ; simpa using λh1 A=>h p hp ⟨h1,A⟩
 unfold ofQ;rw [this]; rfl
structure aev (p:Nat×Msg):Prop where
 id:p.1<=99999999
 len:(bg p.2).length<=1024
 born:0<=p.2.born/\p.2.born<=1099511627776
 top:NameMath.j6 p.2.topic=true
 tl:p.2.topic.length<=1000
 q:∃ q:Nat,p.2.queue=(q:Int)/\q < 3
theorem ach {p:Nat×Msg} (h:aev p):yz (fw (p.1:Int) ((bg p.2).length:Int) ((mq [p.2.tag]:Nat):Int) p.2.born)=true/\(aeu p).length=20:=by
 have h1:=h.id;have F:=h.len;have E:=h.born;have I:=acg [p.2.tag]
 have A:yz (fw (p.1:Int) ((bg p.2).length:Int) ((mq [p.2.tag]:Nat):Int) p.2.born)=true:=by
  refine decide_eq_true λx B=>?_
  simp only [fw,List.mem_cons,List.not_mem_nil,or_false] at B
  rcases B with rfl | rfl | rfl | rfl
  . exact ⟨Int.natCast_nonneg _,by show (p.1:Int) < ((281474976710656:Nat):Int); omega⟩
  . exact ⟨Int.natCast_nonneg _,by show ((bg p.2).length:Int) < ((65536:Nat):Int); omega⟩
  . exact ⟨Int.natCast_nonneg _,by show ((mq [p.2.tag]:Nat):Int) < ((1099511627776:Nat):Int); omega⟩
  . exact ⟨E.1,by show p.2.born < ((72057594037927936:Nat):Int); omega⟩
 refine ⟨A,?_⟩;unfold aeu wu;rw [A,if_pos rfl];simp [fw,aag,bq]
theorem aci (t:List UInt8) (q:Int):∀ (l:List (Nat×Msg)),(∀ p∈l,aev p)->(ofQ t q l).length=20 * (l.filter (isQ t q)).length
 | [],_=>rfl
 | p :: l,h=>by
   have A:=aci t q l (λx B=>h x (.tail _ B));unfold ofQ at *
   by_cases hp:isQ t q p=true
   . rw [List.filter_cons_of_pos hp,List.flatMap_cons,List.length_append,A,(ach (h p (.head _))).2,List.length_cons]; omega
   . rw [List.filter_cons_of_neg hp]; exact A
structure QueOk (D:DiskD) (x:QueD) (done:List (Nat×Msg)):Prop where
 q:∃ q:Nat,x.q=(q:Int)/\q < 3/\x.R.head=ll x.topic q
 top:NameMath.j6 x.topic=true
 tl:x.topic.length<=1000
 b0:x.b0=0
 least:x.least=0
 b:x.R.b=0
 sz:x.R.size=200
 ok:aac D x.R
 only:xu D x.R
 txt:x.R.txt=ofQ x.topic x.q done
structure DisI (base:Nat) (w:World) (C:CqD) (D:DiskD) (X:KxD) (done:List (Nat×Msg)) (mk:Nat):Prop where
 cq:CqAt base w C
 dsk:DiskAt base w D
 kx:KxAt base w X D
 db:C.db=D.blk
 quiet:Quiet D
 awc:∀ k,C.foot k->¬ D.foot k
 awx:¬ C.foot X.blk
 ents:∀ p∈done,aev p
 que:∀ x∈C.qs,QueOk D x done
 uniq:C.qs.Pairwise λx y=>¬ (x.topic=y.topic/\x.q=y.q)
 has:∀ p∈done,∃ x∈C.qs,x.topic=p.2.topic/\x.q=p.2.queue
 absent:∀ (t:List UInt8) (q:Nat),q < 3->(∀ x∈C.qs,¬ (x.topic=t/\x.q=(q:Int)))->∀ n,n<=99999999->D.find (ah (ll t q) n)=none
 files:D.files.length<=4+done.length
 names:∀ p∈D.files,p.1.length<=2000
 many:X.many=mk
 waits:D.waits.length<=10+done.length+2 * mk
def lu (C:CqD) (D:DiskD) (X:KxD) (k:Nat):Prop:=C.foot k\/D.foot k\/k=X.blk
theorem DisI.lt {base:Nat} {w:World} {C:CqD} {D:DiskD} {X:KxD} {done:List (Nat×Msg)} {mk:Nat} (h:DisI base w C D X done mk) {k:Nat} (hk:lu C D X k):k < w.heap.size:=by
 rcases hk with hk | hk | rfl
 . exact h.cq.lt hk
 . exact h.dsk.lt hk
 . exact (Array.getElem?_eq_some_iff.1 h.kx.cells).1
theorem DisI.mod {base:Nat} {w w':World} {C:CqD} {D:DiskD} {X:KxD} {done:List (Nat×Msg)} {mk:Nat} {M:Nat->Prop} (h:DisI base w C D X done mk) (hm:Mod M w w') (hM:∀ k,lu C D X k->¬ M k):DisI base w' C D X done mk :=
 { h with cq:=h.cq.mod hm (λk hk=>hM k (.inl hk)),dsk:=h.dsk.mod hm (λk hk=>hM k (.inr (.inl hk))),
          kx:={ h.kx with cells:=(hm.block _ (Array.getElem?_eq_some_iff.1 h.kx.cells).1 (hM _ (.inr (.inr rfl)))).trans h.kx.cells } }
theorem DisI.below {base:Nat} {w w':World} {C:CqD} {D:DiskD} {X:KxD} {done:List (Nat×Msg)} {mk:Nat} (h:DisI base w C D X done mk) (hb:Below w.heap.size w w'):DisI base w' C D X done mk :=
 h.mod (M:=λ_=>False) (Mod.of_below hb) (λ_ _ h=>h)
theorem QueOk.other {D D':DiskD} {x:QueD} {done:List (Nat×Msg)} {p:Nat×Msg} {t:List UInt8} {q:Nat} (hq:q < 3) (h:QueOk D x done) (hl:0 < x.R.n->x.R.b+(x.R.n - 1) * x.R.size<=99999999) (ht:p.2.topic=t) (hpq:p.2.queue=(q:Int)) (hne:¬ (x.topic=t/\x.q=(q:Int)))
 (ho:∀ n,(∀ m,m<=99999999->n≠ah (ll t q) m)->D'.find n=D.find n):QueOk D' x (done++[p]):=by
 obtain ⟨X,h1,M,N⟩:=h.q
 have A:∀ n,n<=99999999->D'.find (ah x.R.head n)=D.find (ah x.R.head n):=λn I=>ho _ λm F e=>by
  rw [N] at e;obtain ⟨O,U⟩:=ac5 M hq I F e;exact hne ⟨O,by rw [h1,U]⟩
 have E:∀ i,i < x.R.n->x.R.b+i * x.R.size<=99999999:=λi B=>by
  have Y:=hl (by omega);have Z:i * x.R.size<=(x.R.n - 1) * x.R.size:=Nat.mul_le_mul_right _ (by omega);omega
 have J:∀ n,n<=99999999->D'.bytes (ah x.R.head n)=D.bytes (ah x.R.head n):=λn I=>by unfold DiskD.bytes; rw [A n I]
 refine { h with ok:=λi B=>?_,only:=λm F B=>?_,txt:=?_ }
 . rw [J _ (E i B),A _ (E i B)]; exact h.ok i B
 . rw [A m F]; exact h.only m F B
 . rw [atp done (λe=>hne ⟨e.1.symm.trans ht |>.symm ▸ rfl,e.2.symm.trans hpq⟩)]; exact h.txt
theorem QueOk.keep {D D':DiskD} {x:QueD} {done:List (Nat×Msg)} (h:QueOk D x done) (ho:∀ (t:List UInt8) (q n:Nat),D'.find (ah (ll t q) n)=D.find (ah (ll t q) n)):QueOk D' x done:=by
 obtain ⟨I,h1,J,E⟩:=h.q;refine { h with ok:=λi B=>?_,only:=λm F B=>?_ }
 ·
  have A:=h.ok i B;unfold DiskD.bytes at A ⊢;rw [E] at A ⊢;rw [ho]; exact A
 . have A:=h.only m F B
   rw [E] at A ⊢;rw [ho]; exact A
theorem apt {x:QueD} {t:List UInt8} {q:Int} (h:¬ (x.topic=t/\x.q=q)):x.key≠.agg #[.string (S t),.int .i64 q]:=λe=>by
 unfold QueD.key at e;injection e with e
 injection e with e
 injection e with e1 e2
 injection e2 with e2 _
 injection e1 with e1
 injection e2 with _ e2
 exact h ⟨OctMath.S_inj e1,e2⟩
theorem ali {base:Nat} {w w':World} {X:KxD} {D D':DiskD} {M:Nat->Prop} (h:KxAt base w X D) (hm:Mod M w w') (hM:¬ M X.blk) (hb:D'.blk=D.blk) (h1:D'.find jd=D.find jd) (h2:D'.find jg=D.find jg) (hf:∀ k,D'.foot k->D.foot k\/w.heap.size<=k):KxAt base w' X D' where
 cells:=by rw [hb]; exact (hm.block _ (Array.getElem?_eq_some_iff.1 h.cells).1 hM).trans h.cells
 slots:=by rw [h1]; exact h.slots
 links:=by rw [h2]; exact h.links
 low:=h.low
 away:=λhk=>(hf _ hk).elim h.away λA=>by have:=(Array.getElem?_eq_some_iff.1 h.cells).1; omega
structure aul (base:Nat) (W w':World) (C:CqD) (D:DiskD) (X:KxD) (done:List (Nat×Msg)) (mk:Nat) (C':CqD) (D':DiskD) (X':KxD):Prop where
 inv:DisI base w' C' D' X' done mk
 cb:C'.blk=C.blk
 db:TmS D D'
 xb:X'.blk=X.blk
 room:D'.room=D.room - 20
 foot:∀ k,lu C' D' X' k->lu C D X k\/W.heap.size<=k
 mod:Mod (lu C D X) W w'
theorem ar8 {base:Nat} {C:CqD} {D:DiskD} {X:KxD} {done:List (Nat×Msg)} {mk:Nat} (p:Nat×Msg) (t:List UInt8) (qi sz hv born:Int) (W:World) (h:DisI base W C D X done mk) (hp:aev p) (ht:p.2.topic=t) (hqi:p.2.queue=qi) (hsz:((bg p.2).length:Int)=sz) (hhv:((mq [p.2.tag]:Nat):Int)=hv) (hborn:p.2.born=born)
 (hT:TabB base W) (hbase:base<=W.heap.size) (hroom:20<=D.room) (hdl:done.length<=10000) (hmk:mk<=100000) :
 Calls Tryz.prog 142 #[.pointer (some ⟨C.blk,0,none⟩),.string (S t),.int .i64 qi,.agg #[.int .i64 (p.1:Int),.int .i64 sz,.int .i64 hv,.int .i64 born]] W λe w'=>∃ pos:Int,e=.returned (.tuple #[.int .i64 pos,.int .i64 0])/\∃ C' D',aul base W w' C D X (done++[p]) mk C' D' X:=by
 obtain ⟨q,hq,J⟩:=hp.q;have bs:qi=(q:Int):=hqi.symm.trans hq;subst bs;have am:NameMath.j6 t=true:=by rw [<- ht]; exact hp.top
 have bm:t.length<=1000:=by rw [<- ht]; exact hp.tl
 obtain ⟨ca,a6⟩:=ach hp
 have bb:∀ w,Calls Tryz.prog 203 #[.agg #[.int .i64 (p.1:Int),.int .i64 sz,.int .i64 hv,.int .i64 born]] w λe w'=>e=.returned (.tuple #[.string (S (aeu p)),.bool true])/\Below w.heap.size w w':=λw=>by
  have h1:=hp.id;have E:=hp.len;have h3:=hp.born;have h4:=acg [p.2.tag];have h5:=anc (p.1:Int) ((bg p.2).length:Int) ((mq [p.2.tag]:Nat):Int) p.2.born (by omega) (by omega) (by omega) (by omega) w;rw [ca] at h5;rw [<- hsz,<- hhv,<- hborn];exact h5
 have bw:D.waits.length<=1000000:=by have:=h.waits; omega
 have an:∀ y∈done++[p],aev y:=λy A=>by
  rcases List.mem_append.1 A with A | A
  . exact h.ents y A
  . rw [List.mem_singleton] at A; subst A; exact hp
 have bo:∀ k,C.foot k->k < W.heap.size:=λk hk=>h.cq.lt hk
 have cg:X.blk < W.heap.size:=h.lt (.inr (.inr rfl))
 by_cases hex:∃ x∈C.qs,x.topic=t/\x.q=(q:Int)
 ·
  obtain ⟨x,hx,U,Y⟩:=hex;obtain ⟨l1,l2,hl⟩:=List.append_of_mem hx;have Z:=h.que x hx;have bc:x.R.txt.length=20 * (done.filter (isQ x.topic x.q)).length:=by rw [Z.txt,aci _ _ done h.ents]
  have ci:(done.filter (isQ x.topic x.q)).length<=done.length:=List.length_filter_le ..
  refine (ar5 t q (p.1:Int) sz hv born W h.cq h.dsk h.db h.quiet hbase hT hl ⟨U,Y⟩ am bm J h.awc Z.ok Z.only Z.sz (by rw [bc]; omega) (by unfold SegD.e; rw [Z.b,bc]; omega) (by rw [Z.b0]; omega) (aeu p) a6 bb hroom bw).mono ?_;rintro e w' ⟨rfl,R',D',B⟩;have F:=B.app;have ac:=B.row;obtain ⟨xq,b1,bh,bp⟩:=Z.q;have b2:xq=q:=by rw [b1] at Y; omega
  subst b2;have ao:∀ n,(∀ m,m<=99999999->n≠ah (ll t xq) m)->D'.find n=D.find n:=λn hn=>F.other n (by rw [bp,U]; exact hn)
  have b3:=h.uniq;rw [hl] at b3;have O:=List.pairwise_append.1 b3;have ar:=List.pairwise_cons.1 O.2.1
  have cb:∀ y,y∈l1\/y∈l2->¬ (y.topic=t/\y.q=(xq:Int)):=λy A e=>by
   rcases A with A | A
   . exact O.2.2 y A x (.head _) ⟨e.1.trans U.symm,e.2.trans Y.symm⟩
   . exact ar.1 y A ⟨U.trans e.1.symm,Y.trans e.2.symm⟩
  have ak:∀ y,y∈l1\/y∈l2->y∈C.qs:=λy A=>by
   rw [hl]
   rcases A with A | A
   . exact List.mem_append_left _ A
   . exact List.mem_append_right _ (.tail _ A)
  have av:∀ k,CqD.foot { C with qs:=l1++{ x with R:=R' } :: l2 } k->C.foot k\/W.heap.size<=k:=λk hk=>by
   rcases hk with hk | hk | ⟨y,A,hk⟩
   . exact .inl (.inl hk)
   . exact .inl (.inr (.inl hk))
   ·
    have M:y∈l1++{ x with R:=R' } :: l2:=A
    rcases List.mem_append.1 M with A | A
    . exact .inl (.inr (.inr ⟨y,ak y (.inl A),hk⟩))
    . rcases List.mem_cons.1 A with rfl | A
      . rcases hk with hk | hk
        . exact .inl (.inr (.inr ⟨x,hx,.inl hk⟩))
        . exact (B.rfoot k hk).imp_left λE=>.inr (.inr ⟨x,hx,.inr E⟩)
      . exact .inl (.inr (.inr ⟨y,ak y (.inr A),hk⟩))
  have br:QueOk D' { x with R:=R' } (done++[p]):=by
   refine ⟨⟨xq,b1,bh,by show R'.head=_; rw [ac]; exact bp⟩,Z.top,Z.tl,Z.b0,Z.least,by show R'.b=0; rw [ac]; exact Z.b,by show R'.size=200; rw [ac]; exact Z.sz,F.ok,F.only,?_⟩;show R'.txt=ofQ x.topic x.q (done++[p]);rw [alh done (ht.trans U.symm) (hq.trans Y.symm),<- Z.txt,ac]
  refine ⟨_,rfl,{ C with qs:=l1++{ x with R:=R' } :: l2 },D',⟨⟨B.cq,B.whole.dsk,?_,h.db.trans F.blk.symm,F.quiet,?_,?_,an,?_,?_,?_,?_,?_,?_,h.many,?_⟩,rfl,⟨F.blk,λn hn=>ao n λm _ e=>hn.elim (λE=>(adv t xq m).1 (e.symm.trans E)) λE=>(adv t xq m).2 (e.symm.trans E)⟩,rfl,?_,?_,?_⟩⟩
  . refine ali h.kx B.mod ?_ F.blk (ao _ λm _=>(aa9 t xq m).1.symm) (ao _ λm _=>(aa9 t xq m).2.symm) B.dfoot
    rintro (h1 | h1)
    . exact h.kx.away h1
    . exact h.awx (.inr (.inr ⟨x,hx,.inr h1⟩))
  ·
   intro k hk a7
   rcases hk with hk | hk | ⟨y,A,hk⟩
   . rcases B.dfoot k a7 with E | E
     . exact h.awc k (.inl hk) E
     . have:=bo k (.inl hk); omega
   . rcases B.dfoot k a7 with E | E
     . exact h.awc k (.inr (.inl hk)) E
     . have:=bo k (.inr (.inl hk)); omega
   ·
    have hold:∀ y∈C.qs,(k=y.blk\/y.R.foot k)->False:=λy A hk=>by
     rcases B.dfoot k a7 with E | E
     . exact h.awc k (.inr (.inr ⟨y,A,hk⟩)) E
     . have:=bo k (.inr (.inr ⟨y,A,hk⟩)); omega
    have M:y∈l1++{ x with R:=R' } :: l2:=A
    rcases List.mem_append.1 M with A | A
    . exact hold y (ak y (.inl A)) hk
    . rcases List.mem_cons.1 A with rfl | A
      . rcases hk with hk | hk
        . exact hold x hx (.inl hk)
        . exact B.whole.ap k a7 hk
      . exact hold y (ak y (.inr A)) hk
  . exact λhk=>(av _ hk).elim h.awx λE=>by omega
  ·
   intro y A;have M:y∈l1++{ x with R:=R' } :: l2:=A;have bj:y∈l1\/y∈l2->QueOk D' y (done++[p]):=λA=>(h.que y (ak y A)).other J (λhn=>((h.cq.que y (ak y A)).2.1.long hn).2.2) ht hq (cb y A) ao
   rcases List.mem_append.1 M with A | A
   . exact bj (.inl A)
   . rcases List.mem_cons.1 A with rfl | A
     . exact br
     . exact bj (.inr A)
  . exact List.pairwise_append.2 ⟨O.1,List.pairwise_cons.2 ⟨λy A=>ar.1 y A,ar.2⟩,λy A z hz=>by
     rcases List.mem_cons.1 hz with rfl | hz
     . exact O.2.2 y A x (.head _)
     . exact O.2.2 y A z (.tail _ hz)⟩
  ·
   have b4:∀ y∈C.qs,∃ z∈l1++{ x with R:=R' } :: l2,z.topic=y.topic/\z.q=y.q:=λy A=>by
    rw [hl] at A
    rcases List.mem_append.1 A with A | A
    . exact ⟨y,List.mem_append_left _ A,rfl,rfl⟩
    . rcases List.mem_cons.1 A with rfl | A
      . exact ⟨_,List.mem_append_right _ (.head _),rfl,rfl⟩
      . exact ⟨y,List.mem_append_right _ (.tail _ A),rfl,rfl⟩
   intro r I
   rcases List.mem_append.1 I with I | I
   . obtain ⟨y,A,e1,e2⟩:=h.has r I
     obtain ⟨z,hz,e3,e4⟩:=b4 y A;exact ⟨z,hz,e3.trans e1,e4.trans e2⟩
   . rw [List.mem_singleton] at I
     subst I;obtain ⟨z,hz,e3,e4⟩:=b4 x hx;exact ⟨z,hz,e3.trans (U.trans ht.symm),e4.trans (Y.trans hq.symm)⟩
  ·
   intro t' q' a1 N n hn
   have bk:∀ y∈C.qs,¬ (y.topic=t'/\y.q=(q':Int)):=λy A=>by
    rw [hl] at A
    rcases List.mem_append.1 A with A | A
    . exact N y (List.mem_append_left _ A)
    . rcases List.mem_cons.1 A with rfl | A
      . exact N { y with R:=R' } (List.mem_append_right _ (.head _))
      . exact N y (List.mem_append_right _ (.tail _ A))
   rw [ao _ λm hm e=>by
    obtain ⟨e1,e2⟩:=ac5 a1 J hn hm e;exact bk x hx ⟨U.trans e1.symm,by rw [Y,e2]⟩]
   exact h.absent t' q' a1 bk n hn
  . have:=F.files; have:=h.files; rw [List.length_append]; show _<=4+(done.length+1); omega
  . intro r I
    rcases F.names r I with E | ⟨r2,h3,h4⟩
    . rw [bp,af4 _ bh] at E; have:=Z.tl; omega
    . rw [<- h4]; exact h.names r2 h3
  ·
   obtain ⟨f,o,_,hw⟩:=F.waits;rw [hw,List.length_append,List.length_append];have:=h.waits;show _+1<=10+(_+1)+_;omega
  . rw [F.room,a6]; rfl
  ·
   intro k hk
   rcases hk with hk | hk | hk
   . exact (av k hk).imp_left .inl
   . exact (B.dfoot k hk).imp_left λE=>.inr (.inl E)
   . exact .inl (.inr (.inr hk))
  . exact B.mod.mono λk _ hk=>hk.elim (λE=>.inr (.inl E)) λE=>.inl (.inr (.inr ⟨x,hx,.inr E⟩))
 ·
  have N:∀ x∈C.qs,¬ (x.topic=t/\x.q=(q:Int)):=λx hx e=>hex ⟨x,hx,e⟩
  refine (ar4 t q (p.1:Int) sz hv born W h.cq h.dsk h.db h.quiet (by have:=h.files; omega) (λr I=>by have:=h.names r I; omega) hbase hT (λx hx=>apt (N x hx)) am bm J (h.absent t q J N) h.awc (aeu p) a6 bb hroom bw).mono ?_;rintro e w' ⟨rfl,x,D',B⟩
  have av:∀ k,CqD.foot { C with qs:=C.qs++[x] } k->C.foot k\/W.heap.size<=k:=λk hk=>by
   rcases hk with hk | hk | ⟨y,A,hk⟩
   . exact .inl (.inl hk)
   . exact .inl (.inr (.inl hk))
   ·
    have M:y∈C.qs++[x]:=A
    rcases List.mem_append.1 M with A | A
    . exact .inl (.inr (.inr ⟨y,A,hk⟩))
    . rw [List.mem_singleton] at A
      subst A;exact .inr (B.xfoot k hk)
  refine ⟨_,rfl,{ C with qs:=C.qs++[x] },D',⟨⟨B.cq,B.dsk,?_,h.db.trans B.dblk.symm,B.quiet,B.away,?_,an,?_,?_,?_,?_,?_,?_,h.many,?_⟩,rfl,⟨B.dblk,λn hn=>B.other n λm _ e=>hn.elim (λE=>(adv t q m).1 (e.symm.trans E)) λE=>(adv t q m).2 (e.symm.trans E)⟩,rfl,?_,?_,?_⟩⟩
  . refine ali h.kx B.mod ?_ B.dblk (B.other _ λm _=>(aa9 t q m).1.symm) (B.other _ λm _=>(aa9 t q m).2.symm) B.dfoot
    rintro (h1 | h1)
    . exact h.awx (.inr (.inl h1))
    . exact h.kx.away h1
  . exact λhk=>(av _ hk).elim h.awx λE=>by omega
  ·
   intro y A;have M:y∈C.qs++[x]:=A
   rcases List.mem_append.1 M with A | A
   . exact (h.que y A).other J (λhn=>((h.cq.que y A).2.1.long hn).2.2) ht hq (N y A) B.other
   ·
    rw [List.mem_singleton] at A;subst A;refine ⟨⟨q,B.qq,J,by rw [B.topic]; exact B.hd⟩,by rw [B.topic]; exact am,by rw [B.topic]; exact bm,B.b0,B.least,B.b,B.sz,B.whole.ok,B.whole.only,?_⟩
    rw [alh done (ht.trans B.topic.symm) (hq.trans B.qq.symm),aps λr I e=>by
     obtain ⟨z,hz,e1,e2⟩:=h.has r I;exact N z hz ⟨e1.trans (e.1.trans B.topic),e2.trans (e.2.trans B.qq)⟩]
    rw [List.nil_append]; exact B.txt
  . refine List.pairwise_append.2 ⟨h.uniq,List.pairwise_singleton ..,λy A z hz e=>?_⟩
    rw [List.mem_singleton] at hz;subst hz;exact N y A ⟨e.1.trans B.topic,e.2.trans B.qq⟩
  ·
   intro r I
   rcases List.mem_append.1 I with I | I
   . obtain ⟨y,A,e1,e2⟩:=h.has r I
     exact ⟨y,List.mem_append_left _ A,e1,e2⟩
   . rw [List.mem_singleton] at I
     subst I;exact ⟨x,List.mem_append_right _ (.head _),B.topic.trans ht.symm,B.qq.trans hq.symm⟩
  ·
   intro t' q' a1 b5 n hn;have br:=b5 x (List.mem_append_right _ (.head _))
   rw [B.other _ λm hm e=>by
    obtain ⟨e1,e2⟩:=ac5 a1 J hn hm e;exact br ⟨B.topic.trans e1.symm,by rw [B.qq,e2]⟩]
   exact h.absent t' q' a1 (λy A=>b5 y (List.mem_append_left _ A)) n hn
  . have:=B.files; have:=h.files; rw [List.length_append]; show _<=4+(done.length+1); omega
  . intro r I
    rcases B.names r I with E | ⟨r2,h3,h4⟩
    . rw [af4 _ J] at E; omega
    . rw [<- h4]; exact h.names r2 h3
  . rw [B.waits,List.length_append]
    have:=h.waits;show _+1<=10+(_+1)+_;omega
  . rw [B.room,a6]; rfl
  ·
   intro k hk
   rcases hk with hk | hk | hk
   . exact (av k hk).imp_left .inl
   . exact (B.dfoot k hk).imp_left λE=>.inr (.inl E)
   . exact .inl (.inr (.inr hk))
  . exact B.mod.mono λk _ hk=>hk.elim (λE=>.inl (.inr (.inl E))) λE=>.inr (.inl E)
theorem ar9 {base:Nat} {C:CqD} {D:DiskD} {X:KxD} {done:List (Nat×Msg)} {mk:Nat} (t k:List UInt8) (id:Nat) (born:Int) (W:World) (h:DisI base W C D X done mk) (ht:NameMath.j6 t=true) (hk:RecMath.qx k=true) (htl:t.length<=1000) (hkl:k.length<=1000)
 (hid:id<=99999999) (hborn:0<=born/\born<=1099511627776) (hbase:base<=W.heap.size) (hroom:20<=D.room) (hdl:done.length<=10000) (hmk:mk<=100000) :
 Calls Tryz.prog 143 #[.pointer (some ⟨X.blk,0,none⟩),.string (S t),.string (S k),.int .i64 (id:Int),.int .i64 born] W λe w'=>e=.returned (.int .i64 0)/\∃ D' X',aul base W w' C D X done (mk+1) C D' X':=by
 obtain ⟨b,rfl⟩:∃ b:Nat,born=(b:Int):=⟨born.toNat,by omega⟩;refine (ato t k id b W h.kx h.dsk h.quiet hbase ht hk htl hkl (by omega) (by omega) (by have:=h.many; omega) hroom (by have:=h.waits; omega)).mono ?_;rintro e w' ⟨rfl,D',F⟩;have J:=F.grows;have I:D'.files.map (·.1)=D.files.map (·.1):=by have:=J.names; rw [List.append_nil] at this; exact this
 have B:∀ (t:List UInt8) (q n:Nat),D'.find (ah (ll t q) n)=D.find (ah (ll t q) n):=λt q n=>F.other _ (aa9 t q n).1 (aa9 t q n).2
 have M:∀ k,C.foot k->k < W.heap.size:=λk hk=>h.cq.lt hk
 refine ⟨rfl,D',{ X with many:=X.many+1 },⟨⟨h.cq.mod F.mod ?_,F.dsk,F.kx,h.db.trans J.blk.symm,J.quiet,?_,h.awx,h.ents,λx O=>(h.que x O).keep B,h.uniq,h.has,λt q R N n I=>?_,?_,?_,?_,?_⟩,rfl,⟨J.blk,λn I=>F.other n (I.elim (λe=>by rw [e]; decide) λe=>by rw [e]; decide) (I.elim (λe=>by rw [e]; decide) λe=>by rw [e]; decide)⟩,rfl,J.room,?_,?_⟩⟩
 . rintro j A (h1 | h1)
   . exact h.awc j A h1
   . rw [h1] at A; exact h.awx A
 ·
  intro j A h1
  rcases F.foot j h1 with E | E
  . exact h.awc j A E
  . have:=M j A; omega
 . rw [B]; exact h.absent t q R N n I
 . have:=congrArg List.length I; rw [List.length_map,List.length_map] at this; have:=h.files; omega
 ·
  intro r U;have h1:r.1∈D.files.map (·.1):=by rw [<- I]; exact List.mem_map.2 ⟨r,U,rfl⟩
  obtain ⟨Y,E,Z⟩:=List.mem_map.1 h1;rw [<- Z]; exact h.names Y E
 . show X.many+1=mk+1; rw [h.many]
 . rw [J.waits]; have:=h.waits; omega
 ·
  intro j A
  rcases A with A | A | A
  . exact .inl (.inl A)
  . exact (F.foot j A).imp_left λE=>.inr (.inl E)
  . exact .inl (.inr (.inr A))
 . exact F.mod.mono λj _ A=>A.elim (λE=>.inr (.inl E)) λE=>.inr (.inr E)
end CqW
namespace StoW
open Go.RowKit Go.MapKept OctMath RecMath RecW TapeMath DskW SegW MapG TapeW PendW
def au0 (w1:World) (t:List UInt8) (v:Value) (w:World):Prop:=∃ g,v=.slice (some ⟨g,0,none⟩) 1 1/\w.heap[g]?=some (.cells #[.string (S t)] 9 (0,0))/\w1.heap.size<=g
theorem apu (t:List UInt8) (ht:t.length<=1048576) (g:Nat) (w:World) (h:w.heap[g]?=some (.cells #[.string (S t)] 9 (0,0))) :
 Calls Tryz.prog 141 #[.slice (some ⟨g,0,none⟩) 1 1] w λe w'=>e=.returned (.int .i64 ((NameW.mq [t]:Nat):Int))/\w'=w :=
 NameW.ah9 [t] (by simp) (λl A=>by rw [List.mem_singleton] at A; subst A; omega) (some ⟨g,0,none⟩) 1 w (λi B=>by
  obtain rfl:i=0:=by simpa using B
  exact ⟨g,0,rfl,aa h 0 _ rfl⟩)
theorem apv {base B:Nat} {T:OwnD} (id:Nat) (m:Msg) (q cb xb:Nat) (sz:Int) (d:Value) (a:Option Addr) (c:Nat) (W:World) (hT:OwnAt base W T) (hB:W.heap[B]?=some (.cells #[.pointer (some ⟨T.blk,0,none⟩),.pointer (some ⟨cb,0,none⟩),.pointer (some ⟨xb,0,none⟩),d] 147 (0,0)))
 (hsz:aae T.recs (id:Int)=sz) {M:Nat->Prop} {I:World->Nat->World->Prop} (hM:∀ k,M k->k < W.heap.size) (hBM:¬ M B) (κ:Int) (hκ:κ=1\/κ=3) (htl:m.tag.length<=1048576) (ao:m.keys.length<=1048576) (hv:Int) (hhv:((NameW.mq [m.tag]:Nat):Int)=hv)
 (hks:∀ w,Mod M W w->Strs w a (m.keys.map S)) (hdr:∀ U j w,I U j w->I U j w.drew)
 (hkey:∀ U j (h:j < m.keys.length) w,Below W.heap.size W U->I U j w->Mod M U w->Calls Tryz.prog 143 #[.pointer (some ⟨xb,0,none⟩),.string (S m.topic),.string (S m.keys[j]),.int .i64 (id:Int),.int .i64 m.born] w λe w'=>e=.returned (.int .i64 0)/\I U (j+1) w'/\Mod M U w')
 (hadd:∀ w,Below W.heap.size W w->Calls Tryz.prog 142 #[.pointer (some ⟨cb,0,none⟩),.string (S m.topic),.int .i64 (q:Int),.agg #[.int .i64 (id:Int),.int .i64 sz,.int .i64 hv,.int .i64 m.born]] w λe w'=>∃ p:Int,e=.returned (.tuple #[.int .i64 p,.int .i64 0])/\I w 0 w'/\Mod M w w') :
 Calls Tryz.prog 74 #[.pointer (some ⟨B,0,none⟩),.int .i64 (id:Int),.agg #[.int .i64 κ,.int .i64 (q:Int),.int .i64 m.due,.int .i64 m.retry,.int .i64 m.ref,.int .i64 m.born,.string (S m.topic),.string (S m.tag),.string (S m.body),.slice a m.keys.length c]] W λe w'=>e=.returned (.int .i64 0)/\(∃ U,Below W.heap.size W U/\I U m.keys.length w')/\Mod M W w':=by
 have ab:Zq (Below W.heap.size W (W.alloc (.cells #[.int .i64 κ,.int .i64 (q:Int),.int .i64 m.due,.int .i64 m.retry,.int .i64 m.ref,.int .i64 m.born,.string (S m.topic),.string (S m.tag),.string (S m.body),.slice a m.keys.length c] 65))):=(Below.refl _ W).alloc (Nat.le_refl _) _;have ac:Zq (RecW.Boxed (W.alloc (.cells #[.int .i64 κ,.int .i64 (q:Int),.int .i64 m.due,.int .i64 m.retry,.int .i64 m.ref,.int .i64 m.born,.string (S m.topic),.string (S m.tag),.string (S m.body),.slice a m.keys.length c] 65)) W.heap.size #[.int .i64 κ,.int .i64 (q:Int),.int .i64 m.due,.int .i64 m.retry,.int .i64 m.ref,.int .i64 m.born,.string (S m.topic),.string (S m.tag),.string (S m.body),.slice a m.keys.length c]):=RecW.Boxed.new W _ _;have ad:Zq ((W.alloc (.cells #[.int .i64 κ,.int .i64 (q:Int),.int .i64 m.due,.int .i64 m.retry,.int .i64 m.ref,.int .i64 m.born,.string (S m.topic),.string (S m.tag),.string (S m.body),.slice a m.keys.length c] 65)).heap.size=W.heap.size+1):=by exact Array.size_push _
 have ba:=zq (hT.below ab.o);have O:Zq ((W.alloc (.cells #[.int .i64 κ,.int .i64 (q:Int),.int .i64 m.due,.int .i64 m.retry,.int .i64 m.ref,.int .i64 m.born,.string (S m.topic),.string (S m.tag),.string (S m.body),.slice a m.keys.length c] 65)).heap[B]?=_):=(ab.o.block B (Array.getElem?_eq_some_iff.1 hB).1).trans hB;have b0:=zq hsz;have HM:=zq hM;have am:=zq hadd;have b3:=zq hBM;have b4:=zq hks;have b5:=zq hdr;have b6:=zq hkey;have b7:Zq (∀ g w,w.heap[g]?=some (.cells #[.string (S m.tag)] 9 (0,0))->Calls Tryz.prog 141 #[.slice (some ⟨g,0,none⟩) 1 1] w λe w'=>e=.returned (.int .i64 hv)/\w'=w):=λg w h=>by rw [<- hhv]; exact apu m.tag htl g w h
 have b8:=zq ao;clear hT hB hsz hM hadd hBM htl ao hks hdr hkey hhv
 have b9:(κ != 1)=false\/((κ != 1)=true/\(κ != 3)=false):=by
  rcases hκ with h | h <;> subst h
  . exact .inl rfl
  . exact .inr ⟨rfl,rfl⟩
 clear hκ
 rcases b9 with κ1 | ⟨κ1,κ3⟩
 all_goals
  go_enter Tryz.func74,Tryz.ntmps74;go_upto_region 3 with fail
  generalize W.alloc (.cells #[.int .i64 κ,.int .i64 (q:Int),.int .i64 m.due,.int .i64 m.retry,.int .i64 m.ref,.int .i64 m.born,.string (S m.topic),.string (S m.tag),.string (S m.body),.slice a m.keys.length c] 65)=w1 at *
  obtain ⟨A,hA⟩:∃ A,W.heap.size=A:=⟨_,rfl⟩;rw [hA] at ac ad;have ap:=zq hA
  have bb:Zq (∀ w,RecW.ExtR w1.drew w->Calls Tryz.prog 52 #[.pointer (some ⟨T.blk,0,none⟩),.int .i64 (id:Int)] w λe w'=>e=.returned (.int .i64 sz)/\w'=w):=λw F=>by
   have:=size_any (id:Int) w (ba.o.below (((Below.refl w1.heap.size w1).drew).trans F));rw [b0.o] at this;exact this
  have bc:Zq (∀ w,RecW.ExtR w1.drew w->w.cell? ⟨B,0,none⟩=some (.pointer (some ⟨T.blk,0,none⟩))):=λw F=>aa (ahw F O.o) 0 _ rfl
  have HK:Zq (∀ w,RecW.ExtR w1.drew w->∀ j v,#[.int .i64 κ,.int .i64 (q:Int),.int .i64 m.due,.int .i64 m.retry,.int .i64 m.ref,.int .i64 m.born,.string (S m.topic),.string (S m.tag),.string (S m.body),.slice a m.keys.length c][j]?=some v->w.cell? ⟨A,j,none⟩=some v):=λw F j v hv=>by
   have h1:=ac.o j v hv;have h2:w.heap[A]?=w1.heap[A]?:=(((Below.refl w1.heap.size w1).drew).trans F).block A (by have:=ad.o; omega);unfold World.cell? at h1 ⊢;show (match w.heap[A]? with | _=>_)=_;rw [h2]; exact h1
  clear hA;rw [ap.o];refine GrowM.j3 (by kernel_rfl) ?_;refine GrowM.j5 15 [none,none,none,none,none,none,some (.inl (.int .i64 sz)),none,none,some (.inr (λ_=>au0 w1.drew m.tag)),some (.inl (.int .i64 hv)),none,none,none,some (.inr (λ_=>atj w1.drew))] RecW.ExtR (by kernel_rfl) (by kernel_rfl) RecW.ExtR.refl (λ_ _ _=>RecW.ExtR.trans) ?_ ?_
  ·
   intro K hK Y hY l v w w' hR;simp only [List.mem_cons,List.not_mem_nil,or_false] at hK
   rcases hK with rfl | rfl | rfl | rfl | rfl | rfl | rfl | rfl | rfl | rfl | rfl | rfl | rfl | rfl | rfl <;> simp only [reduceCtorEq,Option.some.injEq,Sum.inr.injEq] at hY
   iterate 2
    . subst hY; exact λ⟨g,h1,h2,h3⟩=>⟨g,h1,ahw hR h2,h3⟩
  simp only [List.take_succ_cons,List.take_zero,List.drop_succ_cons,List.drop_zero,Nat.reduceSub]
  iterate 4
   refine GrowN.g_det rfl ?_;apply Exists.intro;refine ⟨λw F E=>?_,?_⟩
   . clear E
     go_simp;exact ⟨rfl,RecW.ExtR.refl _⟩
   go_frame
  refine GrowN.g_det rfl ?_;apply Exists.intro;refine ⟨λw F E=>?_,?_⟩
  . clear E
    have c0:=bc.o w F;go_simp;exact ⟨rfl,RecW.ExtR.refl _⟩
  go_frame;refine GrowN.g_det rfl ?_;apply Exists.intro;refine ⟨λw F E=>?_,?_⟩
  . clear E
    go_simp;exact ⟨rfl,RecW.ExtR.refl _⟩
  go_frame;refine GrowN.g_con rfl (λw F E=>?_) ?_
  . clear E
    go_simp;exact (bb.o w F).mono λe w' h=>⟨_,h.1,rfl,h.2 ▸ RecW.ExtR.refl _⟩
  go_frame;refine GrowN.g_det rfl ?_;apply Exists.intro;refine ⟨λw F E=>?_,?_⟩
  . clear E
    go_simp;exact ⟨rfl,RecW.ExtR.refl _⟩
  go_frame;refine GrowN.g_det rfl ?_;apply Exists.intro;refine ⟨λw F E=>?_,?_⟩
  . clear E
    have k7:=HK.o w F 7 _ rfl;go_simp;exact ⟨rfl,RecW.ExtR.refl _⟩
  go_frame;refine GrowN.g_new rfl (λw F E=>?_) (λv9=>?_)
  . clear E
    go_simp;exact ⟨⟨_,rfl,heap_alloc_new w _,F.size⟩,(Below.refl _ w).alloc (Nat.le_refl _) _⟩
  go_frame;refine GrowN.g_con rfl (λw F E=>?_) ?_
  ·
   obtain ⟨g,hg,Z,_⟩:=E _ (.head _) (by kernel_rfl);clear E;subst hg;go_simp;exact (b7.o g w Z).mono λe w' h=>⟨_,h.1,rfl,h.2 ▸ RecW.ExtR.refl _⟩
  go_frame;refine GrowN.g_det rfl ?_;apply Exists.intro;refine ⟨λw F E=>?_,?_⟩
  . clear E
    go_simp;exact ⟨rfl,RecW.ExtR.refl _⟩
  go_frame;refine GrowN.g_det rfl ?_;apply Exists.intro;refine ⟨λw F E=>?_,?_⟩
  . clear E
    have k5:=HK.o w F 5 _ rfl;go_simp;exact ⟨rfl,RecW.ExtR.refl _⟩
  go_frame;refine GrowN.g_det rfl ?_;apply Exists.intro;refine ⟨λw F E=>?_,?_⟩
  . clear E
    go_simp;exact ⟨rfl,RecW.ExtR.refl _⟩
  go_frame;refine GrowN.g_new rfl (λw F E=>?_) (λv14=>?_)
  . clear E
    go_simp;exact ⟨⟨_,rfl,heap_alloc_new w _,F.size⟩,(Below.refl _ w).alloc (Nat.le_refl _) _⟩
  go_frame;refine GrowN.g_nil λw2 bd E=>?_
  obtain ⟨g,hg,Z,bh⟩:=E _ (.head _);clear E;subst hg;refine GrowM.qj (λv w'=>w'.heap[g]?=some (.cells #[.int .i64 (id:Int),.int .i64 sz,.int .i64 hv,.int .i64 m.born] 61 (0,0))/\Mod (λk=>k=g) w2 w') (by kernel_rfl) rfl rfl ?_ ?_
  ·
   have f0:=ae Z 0;have f1:=ae Z 1;have f2:=ae Z 2;have f3:=ae Z 3;have z0:=aa Z 0 _ rfl;have z1:=aa Z 1 _ rfl;have z2:=aa Z 2 _ rfl;have z3:=aa Z 3 _ rfl;go_simp;exact ⟨heap_setCell_same _ g 3 _ _ _ (heap_setCell_same _ g 2 _ _ _ (heap_setCell_same _ g 1 _ _ _ (heap_setCell_same _ g 0 _ _ _ Z))),((((Mod.refl (λk=>k=g) w2).setCell (.inl rfl) _).setCell (.inl rfl) _).setCell (.inl rfl) _).setCell (.inl rfl) _⟩
  rintro v w3 ⟨h3,bj⟩;go_frame;refine GrowM.uy rfl ?_;have av:RecW.ExtR w1 w2:=((Below.refl w1.heap.size w1).drew).trans bd;have bk:A < w1.heap.size:=by have:=ad.o; omega
  have an:w1.heap.size<=g:=bh;have R:Below w1.heap.size w1 w3:=Below.trans (show Below w1.heap.size w1 w2 from av) ((bj.to_below w1.heap.size av.size (λk hk=>hk ▸ an)));have a1:Zq (Below W.heap.size W w3):=ab.o.trans (R.mono ab.o.size);have b1:w3.cell? ⟨B,1,none⟩=some (.pointer (some ⟨cb,0,none⟩)):=aa ((R.block B (Array.getElem?_eq_some_iff.1 O.o).1).trans O.o) 1 _ rfl;have J:Zq (RecW.Boxed w3 A #[.int .i64 κ,.int .i64 (q:Int),.int .i64 m.due,.int .i64 m.retry,.int .i64 m.ref,.int .i64 m.born,.string (S m.topic),.string (S m.tag),.string (S m.body),.slice a m.keys.length c]):=ac.o.below R;have bl:Zq (w3.heap[B]?=_):=(R.block B (Array.getElem?_eq_some_iff.1 O.o).1).trans O.o;have k0:w3.cell? ⟨A,0,none⟩=some (.int .i64 κ):=J.o 0 _ rfl;have k1:w3.cell? ⟨A,1,none⟩=some (.int .i64 (q:Int)):=J.o 1 _ rfl;have k2:w3.cell? ⟨A,2,none⟩=some (.int .i64 m.due):=J.o 2 _ rfl;have k3:w3.cell? ⟨A,3,none⟩=some (.int .i64 m.retry):=J.o 3 _ rfl;have k4:w3.cell? ⟨A,4,none⟩=some (.int .i64 m.ref):=J.o 4 _ rfl;have k5:w3.cell? ⟨A,5,none⟩=some (.int .i64 m.born):=J.o 5 _ rfl;have k6:w3.cell? ⟨A,6,none⟩=some (.string (S m.topic)):=J.o 6 _ rfl;have k7:w3.cell? ⟨A,7,none⟩=some (.string (S m.tag)):=J.o 7 _ rfl;have k8:w3.cell? ⟨A,8,none⟩=some (.string (S m.body)):=J.o 8 _ rfl;have k9:w3.cell? ⟨A,9,none⟩=some (.slice a m.keys.length c):=J.o 9 _ rfl;have y0:w3.cell? ⟨g,0,none⟩=some (.int .i64 (id:Int)):=aa h3 0 _ rfl;have y1:w3.cell? ⟨g,1,none⟩=some (.int .i64 sz):=aa h3 1 _ rfl;have y2:w3.cell? ⟨g,2,none⟩=some (.int .i64 hv):=aa h3 2 _ rfl;have y3:w3.cell? ⟨g,3,none⟩=some (.int .i64 m.born):=aa h3 3 _ rfl;have a6:Zq (A < w3.heap.size):=Nat.lt_of_lt_of_le bk R.size;have bm:=zq (am.o w3.drew (a1.o.drew));clear h3 bj bd av Z bh an R bc HK bb bk am;go_upto_region 4 with fail
  refine GrowM.j3 (by kernel_rfl) ?_;refine GrowM.j5 9 [none,none,none,none,none,none,none,none,none] (λu v=>v=u) (by kernel_rfl) (by kernel_rfl) (λ_=>rfl) (λ_ _ _ h k=>k.trans h) ?_ ?_
  . exact GrowN.jy rfl
  simp only [List.take_succ_cons,List.take_zero,List.drop_succ_cons,List.drop_zero,Nat.reduceSub]
  iterate 9
   refine GrowN.g_det rfl ?_;apply Exists.intro;refine ⟨λw F E=>?_,?_⟩
   . obtain rfl:=F.symm
     clear E;go_simp
     first | exact rfl | exact ⟨rfl,rfl⟩
   go_frame
  refine GrowN.g_nil λwz N E=>?_
  obtain rfl:=N.symm;clear E;refine GrowM.qj (λv w'=>(∃ p:Int,v=.tuple #[.int .i64 p,.int .i64 0])/\I w3.drew 0 w'/\Mod M w3.drew w') (by kernel_rfl) rfl rfl ?_ ?_
  . go_simp
    refine bm.o.mono ?_;rintro e w' ⟨p,rfl,hb⟩;exact ⟨_,rfl,⟨p,rfl⟩,hb⟩
  rintro v w4 ⟨⟨p,rfl⟩,hb⟩;go_frame;refine GrowM.j5 15 [none,none,none,none,none] (λu v=>v=u) (by kernel_rfl) (by kernel_rfl) (λ_=>rfl) (λ_ _ _ h k=>k.trans h) ?_ ?_
  . exact GrowN.jy rfl
  simp only [List.take_succ_cons,List.take_zero,List.drop_succ_cons,List.drop_zero,Nat.reduceSub]
  iterate 5
   refine GrowN.g_det rfl ?_;apply Exists.intro;refine ⟨λw F E=>?_,?_⟩
   . obtain rfl:=F.symm
     clear E;go_simp
     first | exact rfl | exact ⟨rfl,rfl⟩
   go_frame
  refine GrowN.g_nil λwz N E=>?_
  obtain rfl:=N.symm;clear E;refine GrowM.uy rfl ?_;obtain ⟨U,hU⟩:∃ U,U=w3.drew:=⟨_,rfl⟩;have cg:Zq (I U 0 w4):=by show I U 0 w4; rw [hU]; exact hb.1
  have ci:Zq (Mod M U w4):=by show Mod M U w4; rw [hU]; exact hb.2
  have ak:Zq (Below W.heap.size W U):=by show Below W.heap.size W U; rw [hU]; exact a1.o.drew
  have bo:Zq (A < U.heap.size):=by show A < U.heap.size; rw [hU]; exact a6.o
  have bp:Zq (RecW.Boxed U A #[.int .i64 κ,.int .i64 (q:Int),.int .i64 m.due,.int .i64 m.retry,.int .i64 m.ref,.int .i64 m.born,.string (S m.topic),.string (S m.tag),.string (S m.body),.slice a m.keys.length c]):=by show RecW.Boxed U A #[.int .i64 κ,.int .i64 (q:Int),.int .i64 m.due,.int .i64 m.retry,.int .i64 m.ref,.int .i64 m.born,.string (S m.topic),.string (S m.tag),.string (S m.body),.slice a m.keys.length c]; rw [hU]; exact J.o
  have br:Zq (U.heap[B]?=some (.cells #[.pointer (some ⟨T.blk,0,none⟩),.pointer (some ⟨cb,0,none⟩),.pointer (some ⟨xb,0,none⟩),d] 147 (0,0))):=by show U.heap[B]?=_; rw [hU]; exact bl.o
  have cj:Zq (RecW.Boxed w4 A #[.int .i64 κ,.int .i64 (q:Int),.int .i64 m.due,.int .i64 m.retry,.int .i64 m.ref,.int .i64 m.born,.string (S m.topic),.string (S m.tag),.string (S m.body),.slice a m.keys.length c]):=λj v e=>by
   have:=J.o j v e;rw [<- this];exact hb.2.cell (show A < w3.heap.size from a6.o) (λh=>by have h5:A < W.heap.size:=HM.o _ h; have:=ap.o; omega)
  clear hU hb bm k0 k1 k2 k3 k4 k5 k6 k7 k8 k9 y0 y1 y2 y3 b1 J bl a1 a6 ac ad ba O;have k9:w4.cell? ⟨A,9,none⟩=some (.slice a m.keys.length c):=cj.o 9 _ rfl;go_wp2_with fail;go_loopw [54] (λi wr=>∃ j:Nat,j<=m.keys.length/\i=.int .i64 (j:Int)/\Zq (I U j wr)/\Zq (Mod M U wr)) (λi _=>m.keys.length+1 - (intOf i).toNat)
  case atStart=>exact ⟨0,by omega,rfl,cg.o,ci.o⟩
  case round =>
   obtain ⟨j,hj,rfl,bs,X⟩:=hrel;have ao:=b8.o
   by_cases hlt:j < m.keys.length
   ·
    have ck:Zq (Mod M W wr):=(Mod.of_below (M:=M) ak.o).trans X.o;obtain ⟨kb,ko,rfl,bw⟩:=b4.o wr ck.o j (by rw [List.length_map]; exact hlt);rw [List.getElem_map] at bw;have bz:=zq (b6.o U j hlt wr.drew ak.o (b5.o _ _ _ bs.o) (X.o.trans (Mod.of_below (M:=M) ((Below.refl _ wr).drew))));generalize m.keys[j]=ky at *
    have a8:¬ M A:=λh=>by have h5:A < W.heap.size:=HM.o _ h; have:=ap.o; omega
    have e5:wr.drew.cell? ⟨A,5,none⟩=some (.int .i64 m.born):=(X.o.cell bo.o a8).trans (bp.o 5 _ rfl);have e6:wr.drew.cell? ⟨A,6,none⟩=some (.string (S m.topic)):=(X.o.cell bo.o a8).trans (bp.o 6 _ rfl);have b2:wr.drew.cell? ⟨B,2,none⟩=some (.pointer (some ⟨xb,0,none⟩)):=aa (w:=wr.drew) ((X.o.block B (Array.getElem?_eq_some_iff.1 br.o).1 b3.o).trans br.o) 2 _ rfl;clear a8;go_wp2_with fail;refine GrowM.j3 (by kernel_rfl) ?_;refine GrowM.j5 10 [none,none,none,none,none,none,none,none,none,none] (λu v=>v=u) (by kernel_rfl) (by kernel_rfl) (λ_=>rfl) (λ_ _ _ h k=>k.trans h) ?_ ?_
    . exact GrowN.jy rfl
    simp only [List.take_succ_cons,List.take_zero,List.drop_succ_cons,List.drop_zero,Nat.reduceSub]
    iterate 10
     refine GrowN.g_det rfl ?_;apply Exists.intro;refine ⟨λw F E=>?_,?_⟩
     . obtain rfl:=F.symm
       clear E;go_simp
       first | exact rfl | exact ⟨rfl,rfl⟩
     go_frame
    refine GrowN.g_nil λwz N E=>?_
    obtain rfl:=N.symm;clear E;refine GrowM.qj (λv w'=>v=.int .i64 0/\I U (j+1) w'/\Mod M U w') (by kernel_rfl) rfl rfl ?_ ?_
    . go_simp
      refine bz.o.mono ?_;rintro e w' ⟨rfl,hb⟩;exact ⟨_,rfl,rfl,hb⟩
    rintro v w5 ⟨rfl,hb⟩;go_frame;refine GrowM.j5 12 [none] (λu v=>v=u) (by kernel_rfl) (by kernel_rfl) (λ_=>rfl) (λ_ _ _ h k=>k.trans h) ?_ ?_
    . exact GrowN.jy rfl
    simp only [List.take_succ_cons,List.take_zero,List.drop_succ_cons,List.drop_zero,Nat.reduceSub];refine GrowN.g_det rfl ?_;apply Exists.intro;refine ⟨λw F E=>?_,?_⟩
    . obtain rfl:=F.symm
      clear E;go_simp
      first | exact rfl | exact ⟨rfl,rfl⟩
    go_frame;refine GrowN.g_nil λwz N E=>?_
    obtain rfl:=N.symm;clear E;refine GrowM.uy rfl ?_;have cm:Zq (I U (j+1) w5):=hb.1;have cn:Zq (Mod M U w5):=hb.2;clear hb e5 e6 b2 bz bw;go_wp2_with fail;go_roundw
    case rel=>exact ⟨j+1,by omega,by go_num,cm,cn⟩
    case measure=>simp [intOf]; omega
   . obtain rfl:j=m.keys.length:=by omega
     go_wp2_with fail;go_ret;exact ⟨rfl,⟨U,ak.o,bs.o⟩,(Mod.of_below (M:=M) ak.o).trans X.o⟩
theorem ank {base B:Nat} {T:TapeD} (id:Nat) (m:Msg) (y:Value) (sz:Int) (x:Value) (d:Int) (W:World) (h:TapeAt base W T) (hT:TabB base W) (hbase:base<=W.heap.size) (hup:T.D.down=false)
 (hB:W.heap[B]?=some (.cells #[.pointer (some ⟨T.O.blk,0,none⟩),y,x,.int .i64 d] 147 (0,0))) (hl:T.O.recs.length<=1073741824) (hn:mi T.O.recs d=((id:Int),true)) (hsy:id < T.R.synced) (hmem:(id,m)∈T.O.recs)
 (hsz:aae T.O.recs (id:Int)=sz) (hszb:0<=sz/\sz<=1024/\(id:Int)<=99999999)
 {M:Nat->Prop} {J:World->Prop} (hM:∀ k,M k->k < W.heap.size/\k≠B/\¬ T.O.foot k)
 (hlk:∀ w a c,Below W.heap.size W w->Strs w a (m.keys.map S)->(∀ X,a=some X->W.heap.size<=X.block)->Calls Tryz.prog 74 #[.pointer (some ⟨B,0,none⟩),.int .i64 (id:Int),.agg #[.int .i64 m.kind,.int .i64 m.queue,.int .i64 m.due,.int .i64 m.retry,.int .i64 m.ref,.int .i64 m.born,.string (S m.topic),.string (S m.tag),.string (S m.body),.slice a m.keys.length c]] w λe w'=>e=.returned (.int .i64 0)/\J w'/\Mod M W w') :
 Calls Tryz.prog 30 #[.pointer (some ⟨B,0,none⟩)] W λe w'=>e=.returned (.tuple #[.bool true,.int .i64 0])/\∃ w3,J w3/\Mod M W w3/\Mod (λk=>k=B) w3 w' /\
  w'.heap[B]?=some (.cells #[.pointer (some ⟨T.O.blk,0,none⟩),y,x,.int .i64 ((id:Int)+sz)] 147 (0,0)):=by
 have c0:=aa hB 0 _ rfl;have c3:=aa hB 3 _ rfl;have al:=(Array.getElem?_eq_some_iff.1 hB).1;have am:(T.O.recs.map (·.1)).Pairwise (· < ·):=by rw [h.recs]; exact (ol h.fits).2
 have Y:=zq (next_any d W.drew (h.own.below ((Below.refl _ W).drew)) am hl);rw [hn] at Y;have an:Zq (∀ w,Below W.heap.size W w->Calls Tryz.prog 73 #[.pointer (some ⟨T.O.blk,0,none⟩)] w λe w'=>e=.returned (.int .i64 (T.R.synced:Int))/\w'=w):=λw hb=>TapeW.synced_any w (h.below hb)
 have ao:Zq (∀ w,Below W.heap.size W w->Calls Tryz.prog 16 #[.pointer (some ⟨T.O.blk,0,none⟩),.int .i64 (id:Int)] w λe w'=>∃ a c,e=.returned (.tuple #[.agg #[.int .i64 m.kind,.int .i64 m.queue,.int .i64 m.due,.int .i64 m.retry,.int .i64 m.ref,.int .i64 m.born,.string (S m.topic),.string (S m.tag),.string (S m.body),.slice a m.keys.length c],.int .i64 0])/\Below W.heap.size w w'/\Strs w' a (m.keys.map S)/\∀ X,a=some X->W.heap.size<=X.block):=λw hb =>
  (yw id m w (h.below hb) hup (hT.below hb) (Nat.le_trans hbase hb.size) hmem).mono λe w' ⟨a,c,h5,h6,h7,h8⟩=>⟨a,c,h5,h7.mono hb.size,h6,λX e=>Nat.le_trans hb.size (h8 X e)⟩
 have ap:=zq hlk
 have ar:Zq (∀ w2,Mod M W w2->Calls Tryz.prog 52 #[.pointer (some ⟨T.O.blk,0,none⟩),.int .i64 (id:Int)] w2 λe w'=>e=.returned (.int .i64 sz)/\w'=w2):=λw2 hm=>by
  have:=size_any (id:Int) w2 (h.own.mod hm (λk hk bb=>(hM k bb).2.2 hk));rw [hsz] at this;exact this
 have HB:=zq hB;have HM:=zq hM;have bm:(id:Int) < (T.R.synced:Int):=by omega
 have bo:(0:Int)<=sz/\sz<=1024/\(id:Int)<=99999999:=hszb;clear h hT hbase hup hB hl hn hsy hmem hsz hM hlk am hszb;go_enter Tryz.func30,Tryz.ntmps30;go_upto_region 3 with fail
 refine GrowM.j3 (by kernel_rfl) ?_;refine GrowM.j5 8 [none,none,none,none,none,none,none,none] (λu v=>v=u) (by kernel_rfl) (by kernel_rfl) (λ_=>rfl) (λ_ _ _ h k=>k.trans h) ?_ ?_
 . exact GrowN.jy rfl
 simp only [List.take_succ_cons,List.take_zero,List.drop_succ_cons,List.drop_zero,Nat.reduceSub]
 iterate 8
  refine GrowN.g_det rfl ?_;apply Exists.intro;refine ⟨λw hw Z=>?_,?_⟩
  . obtain rfl:=hw.symm
    clear Z;go_simp
    first | exact rfl | exact ⟨rfl,rfl⟩
  go_frame
 refine GrowN.g_nil λwz ab Z=>?_
 obtain rfl:=ab.symm;clear Z;refine GrowM.qj (λv w'=>v=.tuple #[.int .i64 (id:Int),.bool true]/\Drawn W.drew w') (by kernel_rfl) rfl rfl ?_ ?_
 ·
  go_simp;refine Y.o.mono ?_;rintro e w' ⟨rfl,hb⟩;exact ⟨_,rfl,rfl,hb⟩
 rintro v w2 ⟨rfl,hb⟩;go_frame;refine GrowM.j5 14 [none,none,none,none,none] (λu v=>v=u) (by kernel_rfl) (by kernel_rfl) (λ_=>rfl) (λ_ _ _ h k=>k.trans h) ?_ ?_
 . exact GrowN.jy rfl
 simp only [List.take_succ_cons,List.take_zero,List.drop_succ_cons,List.drop_zero,Nat.reduceSub]
 iterate 5
  refine GrowN.g_det rfl ?_;apply Exists.intro;refine ⟨λw hw Z=>?_,?_⟩
  . obtain rfl:=hw.symm
    clear Z;go_simp
    first | exact rfl | exact ⟨rfl,rfl⟩
  go_frame
 refine GrowN.g_nil λwz ab Z=>?_
 obtain rfl:=ab.symm;clear Z;refine GrowM.uy rfl ?_;have A:Below W.heap.size W w2:=((Below.refl W.heap.size W).drew).trans (hb.below _);have bd:=zq A;have F:=zq (ao.o w2 A);have I:=zq (an.o w2 A);have d0:w2.cell? ⟨B,0,none⟩=some (.pointer (some ⟨T.O.blk,0,none⟩)):=by rw [A.cell al]; exact c0
 clear hb A Y c0 c3 ao an;generalize ((T.R.synced:Nat):Int)=sy at *
 go_wp2_with fail;refine I.o.mono ?_;rintro e b3 ⟨rfl,rfl⟩;go_wp2_with fail;refine F.o.mono ?_;rintro e w3 ⟨a,c,rfl,av,a1,a6⟩;have bh:=zq a1;have bj:=zq a6;have a7:=zq (bd.o.trans av);clear av a1 a6 F I;go_wp2_with fail;have ac:Below W.heap.size W (w3.alloc (.cells #[.int .i64 m.kind,.int .i64 m.queue,.int .i64 m.due,.int .i64 m.retry,.int .i64 m.ref,.int .i64 m.born,.string (S m.topic),.string (S m.tag),.string (S m.body),.slice a m.keys.length c] 65)):=a7.o.alloc a7.o.size _;have bk:Zq (Strs (w3.alloc (.cells #[.int .i64 m.kind,.int .i64 m.queue,.int .i64 m.due,.int .i64 m.retry,.int .i64 m.ref,.int .i64 m.born,.string (S m.topic),.string (S m.tag),.string (S m.body),.slice a m.keys.length c] 65)) a (m.keys.map S)):=Strs.below bh.o ((Below.refl _ w3).alloc (Nat.le_refl _) _);generalize w3.alloc (.cells #[.int .i64 m.kind,.int .i64 m.queue,.int .i64 m.due,.int .i64 m.retry,.int .i64 m.ref,.int .i64 m.born,.string (S m.topic),.string (S m.tag),.string (S m.body),.slice a m.keys.length c] 65)=w4 at *
 generalize w3.heap.size=g3 at *
 have N:=zq (ap.o w4 a c ac bk.o bj.o);have b4:=zq ac;clear ac ap d0;refine N.o.mono ?_;rintro e w5 ⟨rfl,hp,hm⟩;have U:=zq (ar.o w5 hm)
 have E:w5.heap[B]?=some (.cells #[.pointer (some ⟨T.O.blk,0,none⟩),y,x,.int .i64 d] 147 (0,0)):=by
  rw [hm.block B al (λh=>(HM.o B h).2.1 rfl)]; exact HB.o
 have bl:=zq E;have a8:=zq (show J w5/\Mod M W w5 from ⟨hp,hm⟩);have d0:=aa E 0 _ rfl;have d3:=aa E 3 _ rfl;have f3:=ae E 3;clear hp hm N ar E;go_wp2_with fail;refine U.o.mono ?_;rintro e b5 ⟨rfl,rfl⟩;clear U;go_wp2_with fail;go_ret2;exact ⟨rfl,_,a8.o.1,a8.o.2,(Mod.refl (λk=>k=B) _).setCell (.inl rfl) _,heap_setCell_same _ B 3 _ _ _ bl.o⟩
theorem akh {p:Nat} {its:List TapeMath.Item} (hf:Fits p its):∀ (id i:Nat) (m B:Msg),(id,m)∈jc p its->(i,B)∈jc p its->id < i->id+(bg m).length<=i:=by
 induction its generalizing p with
 | nil=>intro id i m B h; cases h
 | cons x l ih =>
   unfold Fits at hf;have F:=(ol hf.2).1;intro id i m B h A E
   cases x with
   | one y =>
     unfold jc at h A
     rcases List.mem_cons.1 h with e | h
     . have I:id=p:=congrArg Prod.fst e
       have J:m=y:=congrArg Prod.snd e
       rcases List.mem_cons.1 A with e3 | A
       . have M:i=p:=congrArg Prod.fst e3
         omega
       . rw [I,J]; exact F _ A
     . have h1:p+(TapeMath.Item.one y).len<=id:=F _ h
       rcases List.mem_cons.1 A with e3 | A
       . have M:i=p:=congrArg Prod.fst e3
         omega
       . exact ih hf.2 id i m B h A E
   | fill n =>
     unfold jc at h A;exact ih hf.2 id i m B h A E
open CacheW CqW KxW
structure af5 (p:Nat×Msg):Prop where
 ent:aev p
 kind:p.2.kind=1\/p.2.kind=3
 keys:∀ k∈p.2.keys,RecMath.qx k=true/\k.length<=1000
 tag:p.2.tag.length<=1048576
 many:p.2.keys.length<=100
structure DisT (base B:Nat) (W w:World) (C:CqD) (D:DiskD) (X:KxD) (done:List (Nat×Msg)) (mk n:Nat) (C':CqD) (D':DiskD) (X':KxD):Prop where
 inv:DisI base w C' D' X' done mk
 cb:C'.blk=C.blk
 db:TmS D D'
 xb:X'.blk=X.blk
 room:D'.room=D.room - ((20 * n:Nat):Int)
 foot:∀ k,lu C' D' X' k->lu C D X k\/W.heap.size<=k
 mod:Mod (λk=>lu C D X k\/k=B) W w
theorem DisT.trans {base B:Nat} {W w v:World} {C C1 C2:CqD} {D D1 D2:DiskD} {X X1 X2:KxD} {l1 l2:List (Nat×Msg)} {m1 m2 n1 n2:Nat} (h:DisT base B W w C D X l1 m1 n1 C1 D1 X1) (k:DisT base B w v C1 D1 X1 l2 m2 n2 C2 D2 X2):DisT base B W v C D X l2 m2 (n1+n2) C2 D2 X2 where
 inv:=k.inv
 cb:=k.cb.trans h.cb
 db:=k.db.trans h.db
 xb:=k.xb.trans h.xb
 room:=by rw [k.room,h.room]; omega
 foot:=λj E=>(k.foot j E).elim (h.foot j) λA=>.inr (Nat.le_trans h.mod.size A)
 mod:=jf h.mod k.mod λj E=>E.elim (λA=>(h.foot j A).imp_left .inl) λA=>.inl (.inr A)
theorem apw {base:Nat} {w:World} {C:CqD} {D:DiskD} {X:KxD} {done:List (Nat×Msg)} {mk:Nat} (h:DisI base w C D X done mk) {k:Nat} (hk:lu C D X k):base<=k:=by
 rcases hk with (hk | hk | ⟨x,hx,hk⟩) | hk | hk
 . rw [hk]; exact h.cq.low.1
 . rw [hk]; exact h.cq.low.2.1
 ·
  rcases hk with hk | hk | hk
  . rw [hk]; exact h.cq.low.2.2 x hx
  . rw [hk]; exact (h.cq.que x hx).2.1.above
  . exact az (h.cq.que x hx).2.1.row k hk
 . exact h.dsk.base_le hk
 . rw [hk]; exact h.kx.low
theorem apx {M:Nat->Prop} {W w:World} {a:Option Addr} {ss:List ByteArray} (h:Strs W a ss) (hm:Mod M W w) (hM:∀ ad,a=some ad->¬ M ad.block):Strs w a ss :=
 ((Row1.of_strs h).mod hm hM).to_strs
theorem apy {base B:Nat} {T:OwnD} {C:CqD} {D:DiskD} {X:KxD} {done:List (Nat×Msg)} {mk:Nat} (id:Nat) (m:Msg) (d:Int) (a:Option Addr) (c:Nat) (W:World) (hT:OwnAt base W T) (hTB:TabB base W) (hbase:base<=W.heap.size)
 (hB:W.heap[B]?=some (.cells #[.pointer (some ⟨T.blk,0,none⟩),.pointer (some ⟨C.blk,0,none⟩),.pointer (some ⟨X.blk,0,none⟩),.int .i64 d] 147 (0,0)))
 (hsz:aae T.recs (id:Int)=((bg m).length:Int)) (hI:DisI base W C D X done mk) (hp:af5 (id,m)) (hBF:¬ lu C D X B) (hroom:((20 * (1+m.keys.length):Nat):Int)<=D.room) (hdl:done.length<=9999) (hmk:mk<=90000)
 (hs:Strs W a (m.keys.map S)) (hsa:∀ ad,a=some ad->¬ lu C D X ad.block) :
 Calls Tryz.prog 74 #[.pointer (some ⟨B,0,none⟩),.int .i64 (id:Int),.agg (af m a c)] W λe w'=>e=.returned (.int .i64 0)/\(∃ C' D' X' U,Below W.heap.size W U/\DisI base w' C' D' X' (done++[(id,m)]) (mk+m.keys.length)/\C'.blk=C.blk/\TmS D D'/\X'.blk=X.blk/\D'.room=D.room - ((20 * (1+m.keys.length):Nat):Int)/\∀ k,lu C' D' X' k->lu C D X k\/U.heap.size<=k)/\Mod (lu C D X) W w':=by
 obtain ⟨q,hq,ak⟩:=hp.ent.q;have J:m.queue=(q:Int):=hq;have E:=hp.many;have N:m.keys.length<=100:=E;have A:af m a c=#[.int .i64 m.kind,.int .i64 (q:Int),.int .i64 m.due,.int .i64 m.retry,.int .i64 m.ref,.int .i64 m.born,.string (S m.topic),.string (S m.tag),.string (S m.body),.slice a m.keys.length c]:=by rw [<- J]; rfl
 rw [A]
 refine (apv (base:=base) (M:=lu C D X) (I:=λU j w=>∃ C' D' X',DisI base w C' D' X' (done++[(id,m)]) (mk+j)/\C'.blk=C.blk/\TmS D D'/\X'.blk=X.blk/\D'.room=D.room - ((20 * (1+j):Nat):Int)/\∀ k,lu C' D' X' k->lu C D X k\/U.heap.size<=k)
  id m q C.blk X.blk ((bg m).length:Int) (.int .i64 d) a c W hT hB hsz (λk hk=>hI.lt hk) hBF m.kind hp.kind hp.tag (by omega) ((NameW.mq [m.tag]:Nat):Int) rfl (λw F=>apx hs F hsa) ?_ ?_ ?_).mono ?_
 . rintro U j w ⟨C',D',X',h1,O⟩
   exact ⟨C',D',X',h1.below ((Below.refl _ w).drew),O⟩
 ·
  rintro U j hj w R ⟨C',D',X',h1,O,h3,Y,Z,h6⟩ F;have hk:=hp.keys m.keys[j] (List.getElem_mem hj);have an:(done++[(id,m)]).length=done.length+1:=by rw [List.length_append]; rfl
  have:=ar9 m.topic m.keys[j] id m.born w h1 hp.ent.top hk.1 hp.ent.tl hk.2 hp.ent.id hp.ent.born (Nat.le_trans hbase (Nat.le_trans R.size F.size)) (by rw [Z]; omega) (by omega) (by omega);rw [Y] at this;refine this.mono ?_;rintro e w' ⟨rfl,D2,X2,g⟩;refine ⟨rfl,⟨C',D2,X2,g.inv,O,g.db.trans h3,g.xb.trans Y,by rw [g.room,Z]; omega,λk hk=>(g.foot k hk).elim (h6 k) λh7=>.inr (Nat.le_trans F.size h7)⟩,jf F g.mod λk hk=>h6 k hk⟩
 ·
  intro w hb;refine (ar8 (id,m) m.topic (q:Int) ((bg m).length:Int) ((NameW.mq [m.tag]:Nat):Int) m.born w (hI.below hb) hp.ent rfl J rfl rfl rfl (hTB.below hb) (Nat.le_trans hbase hb.size) (by omega) (by omega) (by omega)).mono ?_;rintro e w' ⟨pos,rfl,C2,D2,g⟩;exact ⟨pos,rfl,⟨C2,D2,X,g.inv,g.cb,g.db,rfl,by rw [g.room]; rfl,g.foot⟩,g.mod⟩
 . rintro e w' ⟨he,⟨U,R,C',D',X',h⟩,F⟩
   exact ⟨he,⟨C',D',X',U,R,h⟩,F⟩
theorem apz {base B:Nat} {T:TapeD} {C:CqD} {D:DiskD} {X:KxD} {done:List (Nat×Msg)} {mk:Nat} (id:Nat) (m:Msg) (d:Int) (W:World) (h:TapeAt base W T) (hT:TabB base W) (hbase:base<=W.heap.size) (hup:T.D.down=false)
 (hB:W.heap[B]?=some (.cells #[.pointer (some ⟨T.O.blk,0,none⟩),.pointer (some ⟨C.blk,0,none⟩),.pointer (some ⟨X.blk,0,none⟩),.int .i64 d] 147 (0,0))) (hl:T.O.recs.length<=1073741824) (hn:mi T.O.recs d=((id:Int),true)) (hsy:id < T.R.synced) (hmem:(id,m)∈T.O.recs)
 (hI:DisI base W C D X done mk) (hp:af5 (id,m)) (hBF:¬ lu C D X B) (hTF:∀ k,lu C D X k->¬ T.foot k) (hroom:((20 * (1+m.keys.length):Nat):Int)<=D.room) (hdl:done.length<=9999) (hmk:mk<=90000) :
 Calls Tryz.prog 30 #[.pointer (some ⟨B,0,none⟩)] W λe w'=>e=.returned (.tuple #[.bool true,.int .i64 0])/\(∃ C' D' X',DisT base B W w' C D X (done++[(id,m)]) (mk+m.keys.length) (1+m.keys.length) C' D' X') /\
  w'.heap[B]?=some (.cells #[.pointer (some ⟨T.O.blk,0,none⟩),.pointer (some ⟨C.blk,0,none⟩),.pointer (some ⟨X.blk,0,none⟩),.int .i64 ((id:Int)+((bg m).length:Int))] 147 (0,0)):=by
 have N:=(Array.getElem?_eq_some_iff.1 hB).1;have E:aae T.O.recs (id:Int)=((bg m).length:Int):=aen (abp h) hmem;have F:=hp.ent.len;have hid:=hp.ent.id;have Y:(bg m).length<=1024:=F;have al:id<=99999999:=hid
 refine (ank (M:=lu C D X) (J:=λw'=>∃ C' D' X',DisI base w' C' D' X' (done++[(id,m)]) (mk+m.keys.length)/\C'.blk=C.blk/\TmS D D'/\X'.blk=X.blk/\D'.room=D.room - ((20 * (1+m.keys.length):Nat):Int)/\∀ k,lu C' D' X' k->lu C D X k\/W.heap.size<=k)
  id m _ ((bg m).length:Int) _ d W h hT hbase hup hB hl hn hsy hmem E ⟨by omega,by omega,by omega⟩ (λk hk=>⟨hI.lt hk,λe=>hBF (e ▸ hk),λA=>hTF k hk (.inl A)⟩) ?_).mono ?_
 ·
  intro w a c hb hs Z;refine (apy id m d a c w (h.own.below hb) (hT.below hb) (Nat.le_trans hbase hb.size) ((hb.block B N).trans hB) E (hI.below hb) hp hBF hroom hdl hmk hs (λad e hk=>by have:=hI.lt hk; have:=Z ad e; omega)).mono ?_;rintro e w' ⟨he,⟨C',D',X',U,hU,g1,g2,g3,g4,g5,g6⟩,hm⟩;exact ⟨he,⟨C',D',X',g1,g2,g3,g4,g5,λk hk=>(g6 k hk).imp_right λA=>Nat.le_trans hb.size (Nat.le_trans hU.size A)⟩,(Mod.of_below hb).trans hm⟩
 ·
  rintro e w' ⟨he,w3,⟨C',D',X',g1,g2,g3,g4,g5,g6⟩,hm,I,ak⟩;refine ⟨he,⟨C',D',X',?_,g2,g3,g4,g5,g6,?_⟩,ak⟩
  ·
   exact g1.mod I λk hk e=>by
    subst e
    rcases g6 k hk with A | A
    . exact hBF A
    . omega
  . exact (hm.mono λk _ hk=>Or.inl hk).trans (I.mono λk _ hk=>Or.inr hk)
theorem af6 {f B:Nat} {Q Q':World->Prop} (hQ:∀ w,Q w->Q' w):∀ (n:Nat) (w:World),aaf f B Q n w->aaf f B Q' n w
 | 0,w,h=>by unfold aaf at h ⊢; exact h.mono λe w' ⟨h1,A⟩=>⟨h1,hQ _ A⟩
 | n+1,w,h=>by unfold aaf at h ⊢; exact h.mono λe w' ⟨h1,A⟩=>⟨h1,af6 hQ n w' A⟩
def oq (l:List (Nat×Msg)):Nat:=(l.map λp=>p.2.keys.length).sum
theorem aew (p:Nat×Msg) (l:List (Nat×Msg)):oq (p :: l)=p.2.keys.length+oq l:=by unfold oq; rw [List.map_cons,List.sum_cons]
theorem ac6 (d:Int):∀ (pre l:List (Nat×Msg)),(∀ p∈pre,(p.1:Int) < d)->mi (pre++l) d=mi l d
 | [],_,_=>rfl
 | x :: pre,l,h=>by
   rw [List.cons_append,ahx x _ d (h x (.head _))];exact ac6 d pre l λp hp=>h p (.tail _ hp)
theorem aia {base B:Nat} {T:TapeD} (hup:T.D.down=false) (hl:T.O.recs.length<=9999) (hok:∀ p∈T.O.recs,af5 p/\p.1 < T.R.synced) (hBb:base<=B) (hBT:¬ T.foot B):∀ (todo pre:List (Nat×Msg)) (C:CqD) (D:DiskD) (X:KxD) (mk:Nat) (d:Int) (W:World),T.O.recs=pre++todo->TapeAt base W T->TabB base W->base<=W.heap.size ->
 W.heap[B]?=some (.cells #[.pointer (some ⟨T.O.blk,0,none⟩),.pointer (some ⟨C.blk,0,none⟩),.pointer (some ⟨X.blk,0,none⟩),.int .i64 d] 147 (0,0))->(∀ p∈pre,(p.1:Int) < d)->(∀ p∈todo,d<=(p.1:Int)) ->
 DisI base W C D X pre mk->¬ lu C D X B->(∀ k,lu C D X k->¬ T.foot k)->((20 * (todo.length+oq todo):Nat):Int)<=D.room->mk+oq todo<=90000 ->
 aaf 30 B (λw'=>∃ C' D' X' d',DisT base B W w' C D X T.O.recs (mk+oq todo) (todo.length+oq todo) C' D' X'/\w'.heap[B]?=some (.cells #[.pointer (some ⟨T.O.blk,0,none⟩),.pointer (some ⟨C.blk,0,none⟩),.pointer (some ⟨X.blk,0,none⟩),.int .i64 d'] 147 (0,0))) todo.length W
 | [],pre,C,D,X,mk,d,W,hr,h,hT,hbase,hB,h1,h2,hI,hBF,hTF,hroom,hmk=>by
   show aaf _ _ _ 0 _;unfold aaf;have hs:(T.O.recs.map (·.1)).Pairwise (· < ·):=by rw [h.recs]; exact (ol h.fits).2
   refine (aep W h.own hB hs (by omega) (by rw [hr,ac6 d pre [] h1]; rfl)).mono ?_;rintro e w' ⟨he,hd⟩;have hb:Below W.heap.size W w':=hd.below _;refine ⟨he,C,D,X,d,⟨?_,rfl,TmS.refl D,rfl,by show D.room=D.room - ((20 * (0+0):Nat):Int); omega,λk hk=>.inl hk,Mod.of_below hb⟩,(hb.block B (Array.getElem?_eq_some_iff.1 hB).1).trans hB⟩;rw [hr,List.append_nil];exact hI.below hb
 | (id,m) :: todo,pre,C,D,X,mk,d,W,hr,h,hT,hbase,hB,h1,h2,hI,hBF,hTF,hroom,hmk=>by
   show aaf _ _ _ (todo.length+1) _;unfold aaf;have hs:(T.O.recs.map (·.1)).Pairwise (· < ·):=by rw [h.recs]; exact (ol h.fits).2
   have A:(id,m)∈T.O.recs:=by rw [hr]; exact List.mem_append_right _ (.head _)
   have M:((pre++(id,m) :: todo).map (·.1)).Pairwise (· < ·):=by rw [<- hr]; exact hs
   rw [List.map_append] at M;have I:=(List.pairwise_append.1 M);have am:=List.pairwise_cons.1 (show (id :: todo.map (·.1)).Pairwise (· < ·) from I.2.1)
   have hn:mi T.O.recs d=((id:Int),true):=by
    rw [hr,ac6 d pre _ h1];exact ahy (id,m) todo d (h2 _ (.head _)) I.2.1
   obtain ⟨hp,an⟩:=hok _ A;have N:oq ((id,m) :: todo)=m.keys.length+oq todo:=aew _ _;have F:((id,m) :: todo).length=todo.length+1:=rfl;rw [N] at hroom hmk;rw [F] at hroom;have ao:pre.length<=9999:=by have:=congrArg List.length hr; rw [List.length_append] at this; omega
   refine (apz id m d W h hT hbase hup hB (by omega) hn an A hI hp hBF hTF (by omega) ao (by omega)).mono ?_;rintro e w' ⟨he,⟨C',D',X',g⟩,U⟩;refine ⟨he,?_⟩;have ap:∀ k,T.foot k->k < W.heap.size:=λk hk=>h.lt hk
   have a8:=(Array.getElem?_eq_some_iff.1 hB).1;have h':TapeAt base w' T:=h.mod g.mod λk hk J=>J.elim (λE=>hTF k E hk) λE=>hBT (E ▸ hk)
   have ar:TabB base w':=hT.mod g.mod λk hk=>hk.elim (λE=>apw hI E) λE=>E ▸ hBb
   have Y:¬ lu C' D' X' B:=λJ=>(g.foot B J).elim hBF λE=>by omega
   have Z:∀ k,lu C' D' X' k->¬ T.foot k:=λk hk J=>(g.foot k hk).elim (λE=>hTF k E J) λE=>by have:=ap k J; omega
   rw [<- g.cb,<- g.xb] at U
   have av:∀ p∈todo,id+(bg m).length<=p.1:=λp hp=>by
    have ab:(p.1,p.2)∈T.O.recs:=by rw [hr]; exact List.mem_append_right _ (.tail _ hp)
    have ac:id < p.1:=am.1 p.1 (List.mem_map.2 ⟨p,hp,rfl⟩);rw [h.recs] at A ab;exact akh h.fits id p.1 m p.2 A ab ac
   have a6:=acd m
   have ih:=aia hup hl hok hBb hBT todo (pre++[(id,m)]) C' D' X' (mk+m.keys.length) ((id:Int)+((bg m).length:Int)) w' (by rw [hr,List.append_assoc]; rfl) h' ar (Nat.le_trans hbase g.mod.size) U
    (λp hp=>by
     rcases List.mem_append.1 hp with hp | hp
     . have:=I.2.2 p.1 (List.mem_map.2 ⟨p,hp,rfl⟩) id (.head _)
       omega
     . rw [List.mem_singleton] at hp; subst hp; show (id:Int) < _; omega)
    (λp hp=>by have:=av p hp; omega) g.inv Y Z (by rw [g.room]; omega) (by omega)
   refine af6 ?_ _ _ ih;rintro v ⟨C2,D2,X2,d',k,a1⟩;refine ⟨C2,D2,X2,d',?_,by rw [a1,g.cb,g.xb]⟩;have:=g.trans k;rw [N,F,show mk+(m.keys.length+oq todo)=mk+m.keys.length+oq todo by omega,show todo.length+1+(m.keys.length+oq todo)=1+m.keys.length+(todo.length+oq todo) by omega];exact this
theorem asa {base B:Nat} {T:TapeD} {C:CqD} {D:DiskD} {X:KxD} (d:Int) (W:World) (h:TapeAt base W T) (hT:TabB base W) (hbase:base<=W.heap.size) (hup:T.D.down=false) (hl:T.O.recs.length<=9999) (hok:∀ p∈T.O.recs,af5 p/\p.1 < T.R.synced) (hBb:base<=B) (hBT:¬ T.foot B)
 (hB:W.heap[B]?=some (.cells #[.pointer (some ⟨T.O.blk,0,none⟩),.pointer (some ⟨C.blk,0,none⟩),.pointer (some ⟨X.blk,0,none⟩),.int .i64 d] 147 (0,0))) (hd:∀ p∈T.O.recs,d<=(p.1:Int))
 (hI:DisI base W C D X [] 0) (hBF:¬ lu C D X B) (hTF:∀ k,lu C D X k->¬ T.foot k) (hroom:((20 * (T.O.recs.length+oq T.O.recs):Nat):Int)<=D.room) (hmk:oq T.O.recs<=90000) :
 Calls Tryz.prog 9 #[.pointer (some ⟨B,0,none⟩)] W λe w'=>e=.returned (.tuple #[.int .i64 (T.O.recs.length:Int),.int .i64 0])/\∃ C' D' X' d',DisT base B W w' C D X T.O.recs (oq T.O.recs) (T.O.recs.length+oq T.O.recs) C' D' X' /\
  w'.heap[B]?=some (.cells #[.pointer (some ⟨T.O.blk,0,none⟩),.pointer (some ⟨C.blk,0,none⟩),.pointer (some ⟨X.blk,0,none⟩),.int .i64 d'] 147 (0,0)):=by
 have:=aia hup hl hok hBb hBT T.O.recs [] C D X 0 d W rfl h hT hbase hB (λp hp=>by cases hp) hd hI hBF hTF hroom (by omega);rw [Nat.zero_add] at this;exact ahv T.O.recs.length (by omega) W this
theorem asb {base kb:Nat} {w:World} {C:CqD} {D D2:DiskD} (hC:CqAt base w C) (hqs:C.qs=[]) (hdb:C.db=D.blk) (hD:DiskAt base w D) (hf2:D2.files=[]) (hw2:D2.waits=[]) (hg:Grows D2 D [jg,jd,oo,ul] 120 2) (haw:∀ k,C.foot k->¬ D.foot k) (hk:KxAt base w ⟨kb,0⟩ D) (hkc:¬ C.foot kb):DisI base w C D ⟨kb,0⟩ [] 0:=by
 have A:D.files.map (·.1)=[jg,jd,oo,ul]:=by rw [hg.names,hf2]; rfl
 refine ⟨hC,hD,hk,hdb,hg.quiet,haw,hkc,λp hp=>(by cases hp),λx B=>(by rw [hqs] at B; cases B),(by rw [hqs]; exact List.Pairwise.nil),λp hp=>(by cases hp),λt q I E n F=>?_,?_,λp hp=>?_,rfl,?_⟩
 ·
  refine yx.2 λh=>?_
  rw [A] at h;simp only [List.mem_cons,List.not_mem_nil,or_false] at h
  rcases h with h | h | h | h <;> (injection h with h1 h2; exact absurd h1 (by decide))
 . have:=congrArg List.length A
   rw [List.length_map] at this;rw [this]; decide
 ·
  have h:p.1∈D.files.map (·.1):=List.mem_map.2 ⟨p,hp,rfl⟩;rw [A] at h;simp only [List.mem_cons,List.not_mem_nil,or_false] at h
  rcases h with h | h | h | h <;> rw [h] <;> decide
 . rw [hg.waits,hw2]; decide
structure DisB (base B:Nat) (L:Nat->Prop) (w:World) (S:StoD) (C:CqD) (D:DiskD) (X:KxD) (done:List (Nat×Msg)) (mk:Nat) (d r:Int):Prop where
 inv:DisI base w C D X done mk
 cq:S.cq=.pointer (some ⟨C.blk,0,none⟩)
 kx:S.kx=.pointer (some ⟨X.blk,0,none⟩)
 dp:S.dp=.pointer (some ⟨B,0,none⟩)
 cell:w.heap[B]?=some (.cells #[.pointer (some ⟨S.T.O.blk,0,none⟩),.pointer (some ⟨C.blk,0,none⟩),.pointer (some ⟨X.blk,0,none⟩),.int .i64 d] 147 (0,0))
 apart:∀ k,S.foot k->¬ lu C D X k/\k≠B
 nB:¬ lu C D X B
 low:∀ k,lu C D X k\/k=B->L k
 lowB:base<=B
 room:r<=D.room
theorem DisB.next {base B:Nat} {L M:Nat->Prop} {w w':World} {S S':StoD} {C:CqD} {D:DiskD} {X:KxD} {done:List (Nat×Msg)} {mk:Nat} {d r:Int} (h:DisB base B L w S C D X done mk d r) (hm:Mod M w w') (hM:∀ k,M k->¬ lu C D X k/\k≠B) (e1:S'.cq=S.cq) (e2:S'.kx=S.kx) (e3:S'.dp=S.dp) (e4:S'.T.O.blk=S.T.O.blk) (hf:∀ k,S'.foot k->S.foot k\/w.heap.size<=k):DisB base B L w' S' C D X done mk d r where
 inv:=h.inv.mod hm λk hk A=>(hM k A).1 hk
 cq:=e1.trans h.cq
 kx:=e2.trans h.kx
 dp:=e3.trans h.dp
 cell:=by
  rw [e4];exact (hm.block B (Array.getElem?_eq_some_iff.1 h.cell).1 (λA=>(hM B A).2 rfl)).trans h.cell
 apart:=λk hk=>(hf k hk).elim (h.apart k) λA=>⟨λE=>by have:=h.inv.lt E; omega,λe=>by have:=(Array.getElem?_eq_some_iff.1 h.cell).1; omega⟩
 nB:=h.nB
 low:=h.low
 lowB:=h.lowB
 room:=h.room
theorem DisB.mono {base B:Nat} {L L':Nat->Prop} {w:World} {S:StoD} {C:CqD} {D:DiskD} {X:KxD} {done:List (Nat×Msg)} {mk:Nat} {d r:Int} (h:DisB base B L w S C D X done mk d r) (hL:∀ k,L k->L' k):DisB base B L' w S C D X done mk d r:={ h with low:=λk hk=>hL k (h.low k hk) }
theorem asc {base B:Nat} {L:Nat->Prop} {S:StoD} {C:CqD} {D:DiskD} {X:KxD} {r:Int} (w:World) (hS:StoAt base w S) (h:DisB base B L w S C D X [] 0 0 r) (hT:TabB base w) (hbase:base<=w.heap.size) (hq:Quiet S.T.D) (hl:S.T.O.recs.length<=9999) (hok:∀ p∈S.T.O.recs,af5 p/\p.1 < S.T.R.synced)
 (hroom:((20 * (S.T.O.recs.length+oq S.T.O.recs):Nat):Int)<=r) (hmk:oq S.T.O.recs<=90000) :
 Calls Tryz.prog 9 #[.pointer (some ⟨B,0,none⟩)] w λe w'=>e=.returned (.tuple #[.int .i64 (S.T.O.recs.length:Int),.int .i64 0])/\StoAt base w' S/\(∃ C' D' X' I,DisB base B (λk=>L k\/w.heap.size<=k) w' S C' D' X' S.T.O.recs (oq S.T.O.recs) I (r - ((20 * (S.T.O.recs.length+oq S.T.O.recs):Nat):Int)))/\Mod (λk=>lu C D X k\/k=B) w w':=by
 have E:∀ k,S.T.foot k->S.foot k:=λk hk=>.inr (.inl hk)
 refine (asa 0 w hS.tape hT hbase hq.up hl hok h.lowB (λhk=>(h.apart B (E B hk)).2 rfl) h.cell (λp _=>by omega) h.inv h.nB (λk hk A=>(h.apart k (E k A)).1 hk) (by have:=h.room; omega) hmk).mono ?_;rintro e w' ⟨J,C',D',X',I,g,hc⟩;have M:=(Array.getElem?_eq_some_iff.1 h.cell).1;refine ⟨J,hS.mod g.mod λk hk A=>A.elim (h.apart k hk).1 (h.apart k hk).2,⟨C',D',X',I,⟨g.inv,by rw [g.cb]; exact h.cq,by rw [g.xb]; exact h.kx,h.dp,by rw [g.cb,g.xb]; exact hc,λk hk=>?_,λA=>?_,λk hk=>?_,h.lowB,by rw [g.room]; have:=h.room; omega⟩⟩,g.mod⟩
 . exact ⟨λA=>(g.foot k A).elim (h.apart k hk).1 λF=>by have:=hS.lt hk; omega,(h.apart k hk).2⟩
 . exact (g.foot B A).elim h.nB λF=>by omega
 . exact hk.elim (λA=>(g.foot k A).imp (λF=>h.low k (.inl F)) λF=>F) λA=>.inl (h.low k (.inr A))
def ap0 (D:DiskD):SegD:=⟨0,D.blk,qz,1024,0,0,[],0,.slice none 0 0⟩
theorem aki (D:DiskD) (h:D.files=[]):LaidOn D (ap0 D):=by
 refine ⟨⟨show 16<=1024 by decide,show 1024<=4096 by decide⟩,λ_=>⟨rfl,rfl⟩,λh=>absurd h (Nat.lt_irrefl 0),rfl,by show qz.length<=_; decide,?_,?_,rfl⟩
 . intro i A
   exact absurd A (Nat.not_lt_zero _)
 . intro p _ _
   exact yx.2 (by rw [h]; simp)
theorem zo {D:DiskD} (h:D.files=[]) (n:List UInt8):D.find n=none:=yx.2 (by rw [h]; simp)
theorem anl {D D1:DiskD} (h:D.files=[]) (k:∀ n,(D1.find n).isSome=(D.find n).isSome):D1.files=[]:=by
 cases hf:D1.files with
 | nil=>rfl
 | cons p l =>
   have h1:=k p.1;rw [zo h] at h1
   have A:D1.find p.1=none:=by cases hh:D1.find p.1 with
    | none=>rfl
    | some f=>rw [hh] at h1; cases h1
   exact absurd (List.mem_map.2 ⟨p,by rw [hf]; exact List.mem_cons_self,rfl⟩) (yx.1 A)
theorem aib {base:Nat} {D D2:DiskD} (now:Nat) (W:World) (hD:DiskAt base W D) (hq:Quiet D) (hf:D.files=[]) (hwt:D.waits=[]) (hbase:base<=W.heap.size) (hT:TabB base W) (J:DiskAt base W D2) (hq2:Quiet D2) (hf2:D2.files=[]) (hr2:120<=D2.room) (hw2:D2.waits=[]) (hdd:∀ k,D.foot k->¬ D2.foot k) (hnow:now<=1099511626776) :
 Calls Tryz.prog 23 #[.pointer (some ⟨D.blk,0,none⟩),.pointer (some ⟨D2.blk,0,none⟩),.int .i64 (now:Int)] W λe w'=>∃ S,e=.returned (.tuple #[.pointer (some ⟨S.blk,0,none⟩),.int .i64 0])/\StoAt base w' S/\S.now=(now:Int)/\S.T.its=[]/\S.T.R.b=0/\S.T.R.synced=S.T.R.e/\S.T.D.waits=[]/\Quiet S.T.D/\S.T.D.blk=D.blk/\S.T.D.room=D.room/\S.T.D.files=[]/\(∃ E I v,S.top=.pointer (some ⟨E,0,none⟩)/\S.off=.pointer (some ⟨I,0,none⟩)/\S.dk=.pointer (some ⟨D.blk,0,none⟩)/\Pair w' W.heap.size E I D.blk v [] S.T/\(∀ b,PB E I v b->¬ S.foot b)/\S.P.all=qw S.T.O.recs []/\∃ C D' X B,DisB base B (λk=>D2.foot k\/W.heap.size<=k) w' S C D' X [] 0 0 (D2.room - 120)/\∀ b,PB E I v b->¬ lu C D' X b/\b≠B) /\
  Mod (λk=>D.foot k\/D2.foot k) W w'/\(∀ k,S.foot k->D.foot k\/W.heap.size<=k):=by
 refine (anj (R:=ap0 D) (its:=[]) (Post:=λT C D' kb F N w=>DisI base w C D' ⟨kb,0⟩ [] 0/\D'.room=D2.room - 120/\w.heap[F]?=some (.cells #[.pointer (some ⟨T.O.blk,0,none⟩),.pointer (some ⟨C.blk,0,none⟩),.pointer (some ⟨kb,0,none⟩),.int .i64 0] 147 (0,0))/\N.heap.size<=w.heap.size/\F < N.heap.size/\(∀ k,lu C D' ⟨kb,0⟩ k->k < N.heap.size)/\¬ lu C D' ⟨kb,0⟩ F/\base<=F) now W rfl rfl (aki D hf) hD hq (by rw [hf]; simp) (by rw [hf]; intro p hp; cases hp) hbase hT rfl rfl rfl trivial (by simp) hwt ⟨zo hf _,rfl⟩ (zo hf _) (zo hf _) J hq2 hf2 hr2 hw2 hdd hnow (λp hp=>by cases hp) (by simp [jc])
  (λT C D' kb w F a1 a2 a3 a4 a5 a6 a7 a8 a9 b1 b2 E I b5 U c1 c2 c3 hc=>?_) (λT C D' kb F N w1 w2 M ⟨Y,p2,p3,p4,p5,p6,Z,p8⟩ hm hM=>⟨?_,p2,?_,Nat.le_trans p4 hm.size,p5,p6,Z,p8⟩)).mono λe w' ⟨S,C,D',kb,F,N,x1,x2,x3,x4,⟨k1,k2,k3,k4,k5⟩,x5,x6,x7,x8,x9,y1,y2,yf,⟨E,I,v,z1,z2,z3,z4,z7,z8⟩,⟨Y,p2,p3,p4,p5,p6,Z,p8⟩,y4,y5⟩=>⟨S,x1,x2,x3,x5,x6,x7,x8,x9,y1,y2,anl hf yf,⟨E,I,v,z1,z2,z3,z4,λb hb=>(z8 b hb).1,z7,C,D',⟨kb,0⟩,F,⟨Y,x4,k1,k2,p3,λk hk=>⟨λA=>?_,(k4 k hk).2.2.2.2⟩,Z,λk hk=>?_,p8,by rw [p2]; omega⟩,λb hb=>⟨λA=>?_,λA=>(z8 b hb).2.1 (.inr (.inr (.inr A)))⟩⟩,y4,y5⟩
 ·
  have hr:T.O.recs=[]:=by rw [a1.recs,a2]; rfl
  have al:T.R.b=0:=a3;have hI:=asb a8 a9 b1 b2 hf2 hw2 E I c1 c2;rw [al] at hc;refine (am5 w a1.own hc (by rw [hr]; exact List.Pairwise.nil) (by rw [hr]; simp) (by rw [hr]; rfl)).mono λe w' ⟨h1,J⟩=>⟨0,h1,⟨hI.below (J.below _),E.room,(ag (J.below _) hc),(J.below w.heap.size).size,(Array.getElem?_eq_some_iff.1 hc).1,λk hk=>hI.lt hk,λA=>?_,c3⟩,Mod.of_below (J.below _)⟩
  rcases A with A | A | A
  . exact U.2.1 A
  . exact U.2.2.1 A
  . exact U.2.2.2 A.symm
 ·
  exact Y.mod hm λk hk A=>by
   have g:=hM k A
   rcases hk with hk | hk | hk
   . exact g.2.1 hk
   . exact g.2.2.1 hk
   . exact g.2.2.2.1 hk
 . exact di hm p3 λA=>(hM F A).2.2.2.2 rfl
 ·
  have g:=k4 k hk
  rcases A with A | A | A
  . exact g.2.1 A
  . exact g.2.2.1 A
  . exact g.2.2.2.1 A
 . rcases hk with hk | hk
   . exact k5 k hk
   . exact .inr (by omega)
 ·
  have g:=(z8 b hb).2.1
  rcases A with A | A | A
  . exact g (.inl A)
  . exact g (.inr (.inl A))
  . exact g (.inr (.inr (.inl A)))
end StoW
namespace MapG
open Go.RowKit Go.MapKept
variable {P:Program}
theorem abt {mt kt et ty:TypeId} {K:Value->Prop} (hm:P.underlying mt=some (.map kt et)) (hK:Keyed P kt K) {w:World} {b:Nat} {l l1 l2:List (Value×Value)} (h:PairsAt w b l) (hl:∀ p∈l,K p.1) {k v0:Value} (hk:K k) (he:l=l1++(k,v0) :: l2) :
 ∃ w',(Builtin.delete_ #[mt,kt] ty #[.map (some b),k]).run P w=.ok (.tuple #[]) w'/\PairsAt w' b (l1++l2)/\Mod (λx=>x=b) w w':=by
 have I:=h.nodup;obtain ⟨es,c,hb,J,A⟩:=h
 rcases hK.find k hk es.toList (aca A hl) w with ⟨h1,h2⟩ | ⟨j,e,h1,h2,h3⟩
 ·
  exfalso;have:(k,v0)∈es.toList.map (λe=>(e.key,e.val)):=by rw [A,he]; simp
  obtain ⟨x,M,N⟩:=List.mem_map.1 this;exact h1 x M (Prod.mk.inj N).1
 ·
  have B:(Builtin.delete_ #[mt,kt] ty #[.map (some b),k]).run P w=.ok (.tuple #[]) { w with heap:=w.heap.setIfInBounds b (.map (es.eraseIdxIfInBounds j) c) }:=by
   simp [Builtin.delete_,run_underlying hm,Go.MapKept.run_getObj_map hb,hK.check k hk,h1,Go.MapKept.run_setObj_map _ hb,Result.andThen]
  refine ⟨_,B,⟨_,c,(heap_set hb).1,stamped_erase J _,?_⟩,⟨rfl,rfl,rfl,by simp,λr _ Y=>(heap_set hb).2 r Y⟩⟩
  have E:j < es.size:=by
   have:=(List.getElem?_eq_some_iff.1 h2).1
   simpa using this
  have O:l[j]?=some (k,e.val):=by rw [<- A,List.getElem?_map,h2,Option.map_some,h3]
  have R:l1.length=j:=by
   have M:l[l1.length]?=some (k,v0):=by rw [he]; simp
   have F:(l.map (·.1))[l1.length]?=some k:=by rw [List.getElem?_map,M]; rfl
   have U:(l.map (·.1))[j]?=some k:=by rw [List.getElem?_map,O]; rfl
   have Z:l1.length < (l.map (·.1)).length:=(List.getElem?_eq_some_iff.1 F).1;exact (List.getElem?_inj Z I).1 (F.trans U.symm)
  have:(es.eraseIdxIfInBounds j).toList=es.toList.eraseIdx j:=by
   unfold Array.eraseIdxIfInBounds;rw [dif_pos E,Array.toList_eraseIdx]
  have X:∀ (xs:List MapEntry) (n:Nat),(xs.eraseIdx n).map (λe=>(e.key,e.val))=(xs.map λe=>(e.key,e.val)).eraseIdx n:=λxs=>by
   induction xs with
   | nil=>intro n; rfl
   | cons x xs ih=>intro n; cases n with
     | zero=>rfl
     | succ n=>simp [ih]
  rw [this,X,A,he,<- R,List.eraseIdx_append_of_length_le (Nat.le_refl _)];simp
end MapG
namespace DskW
open Go.RowKit Go.MapKept OctMath MapG
def ng (l:List (List UInt8×FileD)):List (Value×Value):=l.map λp=>(.string (S p.1),.pointer (some ⟨p.2.blk,0,none⟩))
theorem DiskAt.pairs {base:Nat} {w:World} {D:DiskD} (h:DiskAt base w D):PairsAt w D.mB (ng D.files):=h.map
theorem ac7:Keyed Tryz.prog 9 (IsKey .string):=Keyed.of_isKey Tryz.underlying9
theorem aic (l:List (List UInt8×FileD)):∀ p∈ng l,IsKey .string p.1:=λp hp=>by
 obtain ⟨q,_,rfl⟩:=List.mem_map.1 hp;trivial
def without (l:List (List UInt8×FileD)) (n:List UInt8):List (List UInt8×FileD):=l.filter λp=>!decide (p.1=n)
theorem yc {l l1 l2:List (List UInt8×FileD)} {n:List UInt8} {f:FileD} (hn:(l.map (·.1)).Nodup) (h:l=l1++(n,f) :: l2):without l n=l1++l2:=by
 subst h;rw [List.map_append,List.map_cons,List.nodup_append] at hn;obtain ⟨_,A,B⟩:=hn
 have E:without l1 n=l1:=List.filter_eq_self.2 λp hp=>by
  have:=B p.1 (List.mem_map.2 ⟨p,hp,rfl⟩) n (.head _)
  simpa using this
 have a2:without l2 n=l2:=List.filter_eq_self.2 λp hp=>by
  have:=(List.nodup_cons.1 A).1;have F:p.1≠n:=λe=>this (e ▸ List.mem_map.2 ⟨p,hp,rfl⟩)
  simpa using F
 show List.filter _ _=_;rw [List.filter_append,List.filter_cons];rw [show (!decide (((n,f):List UInt8×FileD).1=n))=false by simp];show without l1 n++without l2 n=_;rw [E,a2]
theorem cu {l:List (List UInt8×FileD)} {n:List UInt8} {p:List UInt8×FileD}:p∈without l n↔p∈l/\p.1≠n:=by
 unfold without; rw [List.mem_filter]; simp
theorem adi (l:List (List UInt8×FileD)) (n:List UInt8):(without l n).Sublist l:=List.filter_sublist
theorem abj (l:List (List UInt8×FileD)) (n:List UInt8):gu (without l n)<=gu l:=by
 unfold gu
 induction l with
 | nil=>exact Nat.le_refl _
 | cons p l ih =>
   unfold without at ih ⊢;rw [List.filter_cons]
   split
   iterate 2
    . simp only [List.map_cons,List.sum_cons]; omega
theorem yg {l:List (List UInt8×FileD)} {n:List UInt8} {f:FileD} (hn:(l.map (·.1)).Nodup) (hf:(n,f)∈l):∃ l1 l2,ng l=l1++(.string (S n),.pointer (some ⟨f.blk,0,none⟩)) :: l2/\ng (without l n)=l1++l2:=by
 obtain ⟨a,b,h⟩:=List.append_of_mem hf;refine ⟨ng a,ng b,by rw [h]; simp [ng],by rw [yc hn h]; simp [ng]⟩
theorem DiskAt.less {base:Nat} {w w':World} {D:DiskD} (h:DiskAt base w D) (hw:D.waits=[]) (n:List UInt8) (hp:PairsAt w' D.mB (ng (without D.files n))) (hm:Mod (λk=>k=D.mB) w w'):DiskAt base w' { D with files:=without D.files n }:=by
 have A:=adi D.files n;refine ⟨?_,hp,λp hp=>?_,?_,h.names.sublist (A.map _),h.blocks.sublist (A.map _),⟨h.apart.1,λp hp=>h.apart.2.1 p (cu.1 hp).1,λk hk=>⟨(h.apart.2.2 k hk).1,(h.apart.2.2 k hk).2.1,λp hp=>(h.apart.2.2 k hk).2.2 p (cu.1 hp).1⟩⟩,⟨h.above.1,h.above.2.1,λp hp=>h.above.2.2 p (cu.1 hp).1⟩,h.ints,?_,λx E=>by rw [show D.waits=[] from hw] at E; cases E⟩
 . exact (hm.block _ (h.lt (.inl rfl)) h.apart.1).trans h.head
 . have B:=(cu.1 hp).1
   exact (hm.block _ (h.lt (.inr (.inr (.inl ⟨p,B,rfl⟩)))) (h.apart.2.1 p B).2).trans (h.file p B)
 . exact SegW.ownsRow_mod h.row hm λk hk e=>(h.apart.2.2 k hk).2.1 e
 ·
  have:=abj D.files n;have F:=h.fits;unfold DiskD.size at F ⊢;show ((gu (without D.files n):Nat):Int)<=D.cap;omega
theorem akj (a:Option Addr) (cp:Nat) (fv:Value) (w:World):Calls Tryz.prog 251 #[.slice a 0 cp,fv] w λe w'=>e=.returned (.int .i64 (-1))/\w'=w:=by
 go_enter Tryz.func251,Tryz.ntmps251;go_wp2_with fail;go_loopw [8] (λi wr=>i=.int .i64 0/\wr=w) (λi _=>0)
 case atStart=>exact ⟨rfl,rfl⟩
 case round =>
  obtain ⟨rfl,rfl⟩:=hrel;go_wp2_with fail;go_ret;exact ⟨rfl,rfl⟩
theorem aid (a:Option Addr) (cp:Nat) (fv:Value) (w:World):Calls Tryz.prog 231 #[.slice a 0 cp,fv] w λe w'=>e=.returned (.slice a 0 cp)/\w'=w:=by
 go_enter Tryz.func231,Tryz.ntmps231;go_wp2_with fail;refine (akj a cp fv w).mono ?_;rintro e w2 ⟨rfl,A⟩;obtain rfl:=A.symm;go_wp2_with fail;go_ret;exact ⟨rfl,rfl⟩
theorem atq {base:Nat} {D:DiskD} (a:Option Addr) (cap:Nat) (n:List UInt8) (f:FileD) (w:World) (h:DiskAt base w D) (hw:D.waits=[]) (hf:(n,f)∈D.files) (hr:Row1 w a [.string (S n)]) (haf:∀ ad,a=some ad->¬ D.foot ad.block) :
 Calls Tryz.prog 187 #[.pointer (some ⟨D.blk,0,none⟩),.slice a 1 cap] w λe w'=>e=.returned (.tuple #[])/\DiskAt base w' { D with files:=without D.files n }/\Mod D.foot w w':=by
 obtain ⟨b,off,rfl,B⟩:=hr 0 (by simp);have al:=haf _ rfl;have F:=ku h n;rw [qf h.names hf] at F;unfold uf at F;simp only [Option.map_some] at F;obtain ⟨aw,O,A⟩:=mf h.row;rw [hw] at A;replace A:D.wv=.slice aw 0 O:=A;have c2:w.cell? ⟨D.blk,2,none⟩=some (.map (some D.mB)):=h.cell 2 _ rfl;have c3:w.cell? ⟨D.blk,3,none⟩=some (.slice aw 0 O):=h.cell 3 _ (by show some D.wv=_; rw [A]);have I:w.cell? ⟨b,off,none⟩=some (.string (S n)):=B;have R:Zq (Below w.heap.size w (w.alloc (.cells #[.pointer (some ⟨f.blk,0,none⟩)] 272))):=(Below.refl _ _).alloc (Nat.le_refl _) _;have HD:=zq h;have HW:=zq hw;have HF:=zq hf;have U:=zq A;clear h hw hf hr haf al B A;go_enter Tryz.func187,Tryz.ntmps187;go_wp2_with fail;go_loopw [9] (λi wr=>(i=.int .i64 0/\wr=w)\/(i=.int .i64 1/\Zq (DiskAt base wr { D with files:=without D.files n }/\Mod D.foot w wr))) (λi _=>1 - (intOf i).toNat)
 case atStart=>exact .inl ⟨rfl,rfl⟩
 case round =>
  rcases hrel with ⟨rfl,rfl⟩ | ⟨rfl,HR⟩
  ·
   go_upto_region 4 with fail
   have E:=HD.o.below R.o;have d2:(wr.alloc (.cells #[.pointer (some ⟨f.blk,0,none⟩)] 272)).cell? ⟨D.blk,2,none⟩=some (.map (some D.mB)):=E.cell 2 _ rfl;have d3:(wr.alloc (.cells #[.pointer (some ⟨f.blk,0,none⟩)] 272)).cell? ⟨D.blk,3,none⟩=some (.slice aw 0 O):=E.cell 3 _ (by show some D.wv=_; rw [U.o])
   have am:(wr.alloc (.cells #[.pointer (some ⟨f.blk,0,none⟩)] 272)).frozen? ⟨D.blk,3,none⟩=false:=by
    unfold World.frozen?; rw [show (wr.alloc (.cells #[.pointer (some ⟨f.blk,0,none⟩)] 272)).heap[(⟨D.blk,3,none⟩:Addr).block]?=_ from E.head]; rfl
   have J:=zq E;have ab:Zq (Mod D.foot wr (wr.alloc (.cells #[.pointer (some ⟨f.blk,0,none⟩)] 272))):=Mod.of_below R.o;clear E c2 c3 F I R;generalize wr.alloc (.cells #[.pointer (some ⟨f.blk,0,none⟩)] 272)=w1 at *
   generalize wr.heap.size=bx at *
   go_wp2_with fail;refine (aid aw O _ w1).mono ?_;rintro e w2 ⟨rfl,he⟩;obtain rfl:=he.symm;obtain ⟨M,X⟩:=J.o.set_waits D.wv D.waits ⟨rfl,rfl,rfl,Nat.le_refl _,λ_ _ _=>rfl⟩ J.o.row (λk hk=>.inl hk) J.o.waitf;rw [U.o] at M X
   have N:Zq (DiskAt base (w1.setCell ⟨D.blk,3,none⟩ (.slice aw 0 O)) D):=by
    have e:({ D with wv:=.slice aw 0 O,waits:=D.waits }:DiskD)=D:=by rw [<- U.o]
    rw [e] at M;exact M
   have an:=zq (ab.o.trans X);clear M X J ab;go_upto_region 5 with fail
   clear d2 d3 am;generalize w1.setCell ⟨D.blk,3,none⟩ (.slice aw 0 O)=w2 at *
   have e2:w2.cell? ⟨D.blk,2,none⟩=some (.map (some D.mB)):=N.o.cell 2 _ rfl;obtain ⟨l1,l2,hl,ac⟩:=yg N.o.names HF.o
   have ak:∃ w3,(∀ ty,(Builtin.delete_ #[82,9] ty #[.map (some D.mB),.string (S n)]).run Tryz.prog w2=.ok (.tuple #[]) w3)/\PairsAt w3 D.mB (l1++l2)/\Mod (λx=>x=D.mB) w2 w3:=by
    obtain ⟨w3,h1,h2,h3⟩:=abt (ty:=0) Tryz.underlying82 ac7 N.o.pairs (aic _) (k:=.string (S n)) trivial hl;exact ⟨w3,λty=>h1,h2,h3⟩
   obtain ⟨w3,av,Y,Z⟩:=ak;rw [<- ac] at Y;have ao:=zq (N.o.less HW.o n Y Z);have ap:=zq (an.o.trans (Z.mono (λk _ hk=>.inr (.inl hk))));clear Y Z hl ac;go_wp2_with fail;go_roundw
   case rel=>exact .inr ⟨by go_num,ao.o,ap.o⟩
   case measure=>simp [intOf]
  . go_wp2_with fail
    go_end0;exact ⟨rfl,HR.o.1,HR.o.2⟩
open SegW
theorem aie {D:DiskD} (hq:Quiet D) {n:List UInt8} {f:FileD} (hn:(D.files.map (·.1)).Nodup) (hf:(n,f)∈D.files):D.bars [n]=0:=by
 unfold DiskD.bars;rw [hq.up];simp [qf hn hf]
def DiskD.moved (D:DiskD) (n t:List UInt8) (f:FileD):DiskD:={ D with files:=without (without D.files t) n++[(t,f)] }
theorem zt {l:List (List UInt8×FileD)} {n:List UInt8} (h:∀ p∈l,p.1≠n):without l n=l:=List.filter_eq_self.2 λp hp=>by simpa using h p hp
theorem DiskAt.move {base:Nat} {w w':World} {D:DiskD} (h:DiskAt base w D) (J:D.waits=[]) {n t:List UInt8} {f:FileD} (hf:(n,f)∈D.files) (ht:∀ p∈D.files,p.1≠t) (hne:n≠t)
 (hp:PairsAt w' D.mB (ng (without D.files n++[(t,f)]))) (hm:Mod (λk=>k=D.mB) w w'):DiskAt base w' { D with files:=without D.files n++[(t,f)] }:=by
 have E:=adi D.files n
 have A:∀ p∈without D.files n++[(t,f)],∃ q∈D.files,q.2=p.2:=λp hp=>by
  rcases List.mem_append.1 hp with h1 | h1
  . exact ⟨p,(cu.1 h1).1,rfl⟩
  . rw [List.mem_singleton.1 h1]; exact ⟨_,hf,rfl⟩
 refine ⟨?_,hp,λp hp=>?_,?_,?_,?_,⟨h.apart.1,λp hp=>?_,λk hk=>⟨(h.apart.2.2 k hk).1,(h.apart.2.2 k hk).2.1,λp hp=>?_⟩⟩,⟨h.above.1,h.above.2.1,λp hp=>?_⟩,h.ints,?_,λx N=>by rw [show D.waits=[] from J] at N; cases N⟩
 . exact (hm.block _ (h.lt (.inl rfl)) h.apart.1).trans h.head
 . obtain ⟨q,B,e⟩:=A p hp
   rw [<- e];exact (hm.block _ (h.lt (.inr (.inr (.inl ⟨q,B,rfl⟩)))) (h.apart.2.1 q B).2).trans (h.file q B)
 . exact SegW.ownsRow_mod h.row hm λk hk e=>(h.apart.2.2 k hk).2.1 e
 ·
  show ((without D.files n++[(t,f)]).map (·.1)).Nodup;rw [List.map_append,List.nodup_append];refine ⟨h.names.sublist (E.map _),by simp,λa M b hb=>?_⟩;obtain ⟨p,hp,rfl⟩:=List.mem_map.1 M;rw [List.map_singleton,List.mem_singleton] at hb;rw [hb];exact ht p (cu.1 hp).1
 ·
  show ((without D.files n++[(t,f)]).map (·.2.blk)).Nodup;rw [List.map_append,List.nodup_append];refine ⟨h.blocks.sublist (E.map _),by simp,λa M b hb=>?_⟩;obtain ⟨p,hp,rfl⟩:=List.mem_map.1 M;rw [List.map_singleton,List.mem_singleton] at hb;rw [hb];obtain ⟨h1,F⟩:=cu.1 hp;obtain ⟨l1,l2,I⟩:=List.append_of_mem hf;have hb:=h.blocks;rw [I,List.map_append,List.map_cons,List.nodup_append] at hb;have J:=yc h.names I;rw [J] at hp
  rcases List.mem_append.1 hp with h3 | h3
  . exact hb.2.2 _ (List.mem_map.2 ⟨p,h3,rfl⟩) _ (.head _)
  . exact λe=>(List.nodup_cons.1 hb.2.1).1 (e ▸ List.mem_map.2 ⟨p,h3,rfl⟩)
 . obtain ⟨q,B,e⟩:=A p hp
   rw [<- e]; exact h.apart.2.1 q B
 . obtain ⟨q,B,e⟩:=A p hp
   rw [<- e]; exact (h.apart.2.2 k hk).2.2 q B
 . obtain ⟨q,B,e⟩:=A p hp
   rw [<- e]; exact h.above.2.2 q B
 ·
  obtain ⟨l1,l2,I⟩:=List.append_of_mem hf;have F:=h.fits;unfold DiskD.size at F ⊢;show ((gu (without D.files n++[(t,f)]):Nat):Int)<=D.cap;rw [yc h.names I];rw [I] at F;unfold gu at F ⊢;simp only [List.map_append,List.map_cons,List.sum_append,List.sum_cons,List.map_nil,List.sum_nil] at F ⊢;omega
theorem ap1 {base:Nat} {D:DiskD} (n t:List UInt8) (f:FileD) (w:World) (h:DiskAt base w D) (hq:Quiet D) (hw:D.waits=[]) (hne:n≠t) (hf:(n,f)∈D.files) :
 Calls Tryz.prog 125 #[.pointer (some ⟨D.blk,0,none⟩),.string (S n),.string (S t)] w λe w'=>e=.returned (.int .i64 0)/\DiskAt base w' (D.moved n t f)/\Mod D.foot w w':=by
 have am:Zq (Below w.heap.size w (w.alloc (.cells #[.string (S n)] 9))):=(Below.refl _ w).alloc (Nat.le_refl _) _;have ba:Zq (Row1 (w.alloc (.cells #[.string (S n)] 9)) (some ⟨w.heap.size,0,none⟩) ([n].map λx=>Value.string (S x))):=row_one _ _ _;have an:=zq (h.below am.o);have ak:=zq (bars_any (some ⟨w.heap.size,0,none⟩) 1 [n] (by simp) _ an.o ba.o);rw [aie hq h.names hf] at ak;rw [show ([n]:List (List UInt8)).length=1 from rfl] at ak;have ao:=zq (ab5 _ an.o);rw [hq.burn,hq.done] at ao;have b1:Zq (D.moved n t f={ D with files:=without (without D.files t) n++[(t,f)] }):=rfl;have bb:(S n).toList≠(S t).toList:=by rw [S_toList,S_toList]; exact hne
 have b2:((S n).toList == (S t).toList)=false:=beq_eq_false_iff_ne.2 bb;have HQ:=zq hq;have HW:=zq hw;have B:=zq hne;have HF:=zq hf;have b3:=zq h.names;clear h hq hw hne hf bb ba;go_enter Tryz.func125,Tryz.ntmps125;go_wp2_with fail;refine ak.o.mono ?_;rintro e w1 ⟨rfl,he⟩;obtain rfl:=he;go_wp2_with fail;refine ao.o.mono ?_;rintro e w2 ⟨rfl,al,bc⟩;have ap:=zq al;have bd:Zq (Mod D.foot w w2):=(Mod.of_below am.o).trans (bc.mono λk _ hk=>.inl hk);have c1:w2.cell? ⟨D.blk,2,none⟩=some (.map (some D.mB)):=al.cell 2 _ rfl;have M:=ku al t;clear al bc ao ak an am
 cases hft:D.find t with
 | none =>
   rw [hft] at M;unfold uf at M;simp only [Option.map_none] at M;have e0:without D.files t=D.files:=zt (yt hft)
   have U:Zq (DiskAt base w2 { D with files:=without D.files t }):=by
    show DiskAt _ _ _;rw [e0]; exact ap.o
   have ar:=zq bd.o;clear hft e0;go_wp2_with fail;have A:=U.o.below ((Below.refl _ w2).drew);have d2:w2.cell? ⟨D.blk,2,none⟩=some (.map (some D.mB)):=U.o.cell 2 _ rfl;have N:=ku A n;rw [qf A.names (cu.2 ⟨HF.o,B.o⟩:(n,f)∈without D.files t)] at N;unfold uf at N;simp only [Option.map_some] at N
   obtain ⟨X,F,Y,E⟩:=om Tryz.underlying82 ac7 A.pairs (aic _) (k:=.string (S t)) trivial (λp hp e=>by
    obtain ⟨q,hq,rfl⟩:=List.mem_map.1 hp;exact (cu.1 hq).2 (S_inj (by cases e; rfl))) (.pointer (some ⟨f.blk,0,none⟩))
   replace F:(Instr.mapUpdate 82 (.map (some D.mB)) (.string (S t)) (.pointer (some ⟨f.blk,0,none⟩))).run Tryz.prog w2.drew=.ok () X:=F
   have d5:X.cell? ⟨D.blk,2,none⟩=some (.map (some D.mB)):=by
    rw [E.cell (p:=⟨D.blk,2,none⟩) (A.lt (.inl rfl)) A.apart.1];exact A.cell 2 _ rfl
   have e5:ng (without D.files t)++[(.string (S t),.pointer (some ⟨f.blk,0,none⟩))]=ng (without D.files t++[(t,f)]):=by simp [ng]
   have I:PairsAt X D.mB (ng (without D.files t++[(t,f)])):=by rw [<- e5]; exact Y
   obtain ⟨l1,l2,hl,Z⟩:=yg (l:=without D.files t++[(t,f)]) (n:=n) (f:=f) (by
    rw [List.map_append,List.nodup_append];refine ⟨A.names,by simp,λa ha b hb=>?_⟩;obtain ⟨p,hp,rfl⟩:=List.mem_map.1 ha;rw [List.map_singleton,List.mem_singleton] at hb;rw [hb];exact (cu.1 hp).2) (List.mem_append_left _ (cu.2 ⟨HF.o,B.o⟩))
   have ab:∃ J,(∀ ty,(Builtin.delete_ #[82,9] ty #[.map (some D.mB),.string (S n)]).run Tryz.prog X=.ok (.tuple #[]) J)/\PairsAt J D.mB (l1++l2)/\Mod (λx=>x=D.mB) X J:=by
    obtain ⟨J,h1,h2,h3⟩:=abt (ty:=0) Tryz.underlying82 ac7 I (aic _) (k:=.string (S n)) trivial hl;exact ⟨J,λty=>h1,h2,h3⟩
   obtain ⟨J,av,O,R⟩:=ab
   have e6:without (without D.files t++[(t,f)]) n=without (without D.files t) n++[(t,f)]:=by
    unfold without;rw [List.filter_append];congr 1;simp [Ne.symm B.o]
   rw [<- Z,e6] at O
   have a1:Zq (DiskAt base J (D.moved n t f)):=by
    have:=A.move HW.o (cu.2 ⟨HF.o,B.o⟩) (λp hp=>(cu.1 hp).2) B.o O (E.trans R);exact this
   have a6:Zq (Mod D.foot w J):=(ar.o.drew.trans (E.mono λk _ hk=>.inr (.inl hk))).trans (R.mono λk _ hk=>.inr (.inl hk));clear A Y I E O R hl Z e5 e6;go_wp2_with fail;go_region;go_wp2_with fail;go_ret;exact ⟨rfl,a1.o,a6.o⟩
 | some g =>
   have HG:=zq (oz hft);rw [hft] at M;unfold uf at M;simp only [Option.map_some] at M;have a7:Zq (Below w2.heap.size w2 (w2.alloc (.cells #[.string (S t)] 9))):=(Below.refl _ w2).alloc (Nat.le_refl _) _
   have bl:=zq (atq (some ⟨w2.heap.size,0,none⟩) 1 t g _ (ap.o.below a7.o) HW.o HG.o (row_one _ _ _) (λad e bz=>by
    cases e
    have:=ap.o.lt bz;exact absurd this (Nat.lt_irrefl _)))
   clear hft;go_wp2_with fail;refine bl.o.mono ?_;rintro e w3 ⟨rfl,bm,bo⟩;have U:Zq (DiskAt base w3 { D with files:=without D.files t }):=bm;have ar:Zq (Mod D.foot w w3):=(bd.o.trans (Mod.of_below a7.o)).trans bo;clear bm bo bl a7 M c1;have A:=U.o.below ((Below.refl _ w3).drew);have d2:w3.cell? ⟨D.blk,2,none⟩=some (.map (some D.mB)):=U.o.cell 2 _ rfl;have N:=ku A n;rw [qf A.names (cu.2 ⟨HF.o,B.o⟩:(n,f)∈without D.files t)] at N;unfold uf at N;simp only [Option.map_some] at N
   obtain ⟨X,F,Y,E⟩:=om Tryz.underlying82 ac7 A.pairs (aic _) (k:=.string (S t)) trivial (λp hp e=>by
    obtain ⟨q,hq,rfl⟩:=List.mem_map.1 hp;exact (cu.1 hq).2 (S_inj (by cases e; rfl))) (.pointer (some ⟨f.blk,0,none⟩))
   replace F:(Instr.mapUpdate 82 (.map (some D.mB)) (.string (S t)) (.pointer (some ⟨f.blk,0,none⟩))).run Tryz.prog w3.drew=.ok () X:=F
   have d5:X.cell? ⟨D.blk,2,none⟩=some (.map (some D.mB)):=by
    rw [E.cell (p:=⟨D.blk,2,none⟩) (A.lt (.inl rfl)) A.apart.1];exact A.cell 2 _ rfl
   have e5:ng (without D.files t)++[(.string (S t),.pointer (some ⟨f.blk,0,none⟩))]=ng (without D.files t++[(t,f)]):=by simp [ng]
   have I:PairsAt X D.mB (ng (without D.files t++[(t,f)])):=by rw [<- e5]; exact Y
   obtain ⟨l1,l2,hl,Z⟩:=yg (l:=without D.files t++[(t,f)]) (n:=n) (f:=f) (by
    rw [List.map_append,List.nodup_append];refine ⟨A.names,by simp,λa ha b hb=>?_⟩;obtain ⟨p,hp,rfl⟩:=List.mem_map.1 ha;rw [List.map_singleton,List.mem_singleton] at hb;rw [hb];exact (cu.1 hp).2) (List.mem_append_left _ (cu.2 ⟨HF.o,B.o⟩))
   have ab:∃ J,(∀ ty,(Builtin.delete_ #[82,9] ty #[.map (some D.mB),.string (S n)]).run Tryz.prog X=.ok (.tuple #[]) J)/\PairsAt J D.mB (l1++l2)/\Mod (λx=>x=D.mB) X J:=by
    obtain ⟨J,h1,h2,h3⟩:=abt (ty:=0) Tryz.underlying82 ac7 I (aic _) (k:=.string (S n)) trivial hl;exact ⟨J,λty=>h1,h2,h3⟩
   obtain ⟨J,av,O,R⟩:=ab
   have e6:without (without D.files t++[(t,f)]) n=without (without D.files t) n++[(t,f)]:=by
    unfold without;rw [List.filter_append];congr 1;simp [Ne.symm B.o]
   rw [<- Z,e6] at O
   have a1:Zq (DiskAt base J (D.moved n t f)):=by
    have:=A.move HW.o (cu.2 ⟨HF.o,B.o⟩) (λp hp=>(cu.1 hp).2) B.o O (E.trans R);exact this
   have a6:Zq (Mod D.foot w J):=(ar.o.drew.trans (E.mono λk _ hk=>.inr (.inl hk))).trans (R.mono λk _ hk=>.inr (.inl hk));clear A Y I E O R hl Z e5 e6;go_wp2_with fail;go_region;go_wp2_with fail;go_ret;exact ⟨rfl,a1.o,a6.o⟩
end DskW
namespace TopW
open Go.RowKit Go.MapKept OctMath DskW SegW
theorem akk {l:List (List UInt8×FileD)} {n t:List UInt8} {b:Nat} {i u:List UInt8} (h:∀ p∈l,p.1≠n):fe (l++[(n,⟨b,i,u⟩)]) n t=l++[(n,⟨b,i,t⟩)]:=by
 unfold fe;rw [List.map_append];congr 1
 . have:∀ p∈l,(λp:List UInt8×FileD=>if p.1=n then (p.1,{ p.2 with now:=t }) else p) p=p:=λp hp=>if_neg (h p hp)
   exact (List.map_congr_left this).trans (List.map_id _)
 . simp
theorem anm {D:DiskD} {l:List (List UInt8×FileD)} {n i u:List UInt8} {b:Nat} {wv:Value} {ws:List WriteD} (hf:D.files=l++[(n,⟨b,i,u⟩)]) (hw:D.waits=ws) (hb:∀ x∈ws,x.blk=b) (h:∀ p∈l,p.1≠n) :
 D.lasts [n] wv={ D with files:=l++[(n,⟨b,u,u⟩)],wv:=wv,waits:=[] }:=by
 unfold DiskD.lasts
 have B:D.files.map (λp=>if p.1∈[n] then (p.1,{ p.2 with img:=p.2.now }) else p)=l++[(n,⟨b,u,u⟩)]:=by
  rw [hf,List.map_append];congr 1
  . have:∀ p∈l,(λp:List UInt8×FileD=>if p.1∈[n] then (p.1,{ p.2 with img:=p.2.now }) else p) p=p:=λp hp=>if_neg (by simpa using h p hp)
    exact (List.map_congr_left this).trans (List.map_id _)
  . simp
 have E:D.waits.filter (λx=>!D.files.any (λp=>decide (p.1∈[n]) && decide (x.blk=p.2.blk)))=[]:=by
  rw [List.filter_eq_nil_iff];intro x A;rw [hw] at A;have:=hb x A;rw [hf];simp [this]
 rw [B,E]
theorem atr {base:Nat} {D:DiskD} (n t:List UInt8) (w:World) (h:DiskAt base w D) (hq:Quiet D) (hw:D.waits=[]) (hn:D.find n=none) (ht:t≠[]) (htl:t.length<=1048576) (hr:(t.length:Int)<=D.room) (hbase:base<=w.heap.size) :
 Calls Tryz.prog 122 #[.pointer (some ⟨D.blk,0,none⟩),.string (S n),.string (S t)] w λe w'=>e=.returned (.int .i64 0)/\∃ b wv,DiskAt base w' { D with files:=D.files++[(n,⟨b,t,t⟩)],wv:=wv }/\Mod D.foot w w'/\w.heap.size<=b/\∀ k,wv.ownBlock=some k->D.wv.ownBlock=some k\/w.heap.size<=k:=by
 have M:=zq (zl n w h hbase);rw [hq.createE hn] at M;have Z:=zq hq;have HW:=zq hw;have HN:=zq hn;have ab:Zq (∀ p∈D.files,p.1≠n):=yt hn;have HT:=zq ht;have HR:=zq hr;have HB:=zq hbase;clear h hq hw hn ht hr hbase;go_enter Tryz.func122,Tryz.ntmps122;go_wp2_with fail;refine M.o.mono ?_;rintro e w1 ⟨b,hb,rfl,F,N⟩;rw [Z.o.create HN.o] at F;have ac:(n,(⟨b,[],[]⟩:FileD))∈D.files++[(n,⟨b,[],[]⟩)]:=by simp
 have O:=Quiet.write (D:={ D with files:=D.files++[(n,⟨b,[],[]⟩)] }) ⟨Z.o.left,Z.o.up⟩ F.names (n:=n) (f:=⟨b,[],[]⟩) (qf F.names ac) (o:=0) rfl HT.o (by
  show (t.length:Int)<=D.cap - ((gu (D.files++[(n,⟨b,[],[]⟩)]):Nat):Int);have h1:=HR.o;have h2:gu (D.files++[(n,(⟨b,[],[]⟩:FileD))])=gu D.files:=by unfold gu; simp
  rw [h2]; exact h1)
 have R:=zq (aa4 n 0 (by omega) t (by omega) (by show D.waits.length<=_; rw [HW.o]; decide) w1 F (Nat.le_trans HB.o N.size));rw [(O D.wv).1] at R
 have ak:Zq (∀ wv,DiskD.write { D with files:=D.files++[(n,⟨b,[],[]⟩)] } n 0 t wv={ D with files:=D.files++[(n,⟨b,[],t⟩)],wv:=wv,waits:=[⟨b,0,t⟩] }):=λwv=>by
  rw [(O wv).2];show ({ D with files:=fe (D.files++[(n,⟨b,[],[]⟩)]) n ([]++t),wv:=wv,waits:=D.waits++[⟨b,0,t⟩] }:DiskD)=_;rw [HW.o,List.nil_append,List.nil_append,akk ab.o]
 have al:=zq N;have U:=zq hb;clear F N ac O M hb;go_wp2_with fail;refine R.o.mono ?_;rintro e w2 ⟨wv,rfl,A,am,X⟩;rw [ak.o] at A X
 have a6:Zq (Mod (λk=>D.foot k\/w.heap.size<=k) w w2):=(al.o.mono λk _ h=>.inl h).trans (am.mono λk _ h=>by
  rcases h with h | h | ⟨p,hp,h⟩ | h
  . exact .inl (.inl h)
  . exact .inl (.inr (.inl h))
  ·
   rcases List.mem_append.1 hp with h3 | h3
   . exact .inl (.inr (.inr (.inl ⟨p,h3,h⟩)))
   . rw [List.mem_singleton.1 h3] at h
     have h:k=b:=h;exact .inr (by have:=U.o; omega)
  . exact .inl (.inr (.inr (.inr h))))
 have I:∀ k,wv.ownBlock=some k->D.wv.ownBlock=some k\/w.heap.size<=k:=λk hk=>by
  rcases X k (.inr (.inr (.inr hk))) with h | h
  ·
   rcases h with h | h | ⟨p,hp,h⟩ | h
   . exact absurd h (A.apart.2.2 k hk).1
   . exact absurd h (A.apart.2.2 k hk).2.1
   . rcases List.mem_append.1 hp with h3 | h3
     . exact absurd h ((A.apart.2.2 k hk).2.2 p (List.mem_append_left _ h3))
     . rw [List.mem_singleton.1 h3] at h
       exact absurd h ((A.apart.2.2 k hk).2.2 (n,⟨b,[],t⟩) (by simp))
   . exact .inl h
  . exact .inr (by have:=al.o.size; omega)
 have J:=zq I;have an:Zq (Below w2.heap.size w2 (w2.alloc (.cells #[.string (S n)] 9))):=(Below.refl _ w2).alloc (Nat.le_refl _) _;have ao:=A.below an.o
 have ap:=zq (sync_any (some ⟨w2.heap.size,0,none⟩) 1 [n] (by simp) _ ao (row_one _ _ _) (λad e a7=>by
  cases e
  exact absurd (A.lt a7) (Nat.lt_irrefl _)) (by show (1:Nat)<=1048576; omega))
 have Y:Quiet ({ D with files:=D.files++[(n,⟨b,[],t⟩)],wv:=wv,waits:=[⟨b,0,t⟩] }:DiskD):=⟨Z.o.left,Z.o.up⟩;have B:DiskD.bars { D with files:=D.files++[(n,⟨b,[],t⟩)],wv:=wv,waits:=[⟨b,0,t⟩] } [n]=0:=aie Y A.names (f:=⟨b,[],t⟩) (by simp)
 have ar:DiskD.syncE { D with files:=D.files++[(n,⟨b,[],t⟩)],wv:=wv,waits:=[⟨b,0,t⟩] } [n]=0:=by
  unfold DiskD.syncE;rw [if_pos B];exact Y.done
 rw [ar,show ([n]:List (List UInt8)).length=1 from rfl] at ap
 have a8:Zq (∀ E,DiskD.sync { D with files:=D.files++[(n,⟨b,[],t⟩)],wv:=wv,waits:=[⟨b,0,t⟩] } [n] E={ D with files:=D.files++[(n,⟨b,t,t⟩)],wv:=E }):=λE=>by
  unfold DiskD.sync;rw [if_pos B,if_neg (by show ¬ D.left=0; rw [Z.o.left]; decide),Y.burn,anm (l:=D.files) (b:=b) (i:=[]) (u:=t) (ws:=[⟨b,0,t⟩]) rfl rfl (λx hx=>by rw [List.mem_singleton.1 hx]) ab.o];show ({ D with files:=D.files++[(n,⟨b,t,t⟩)],wv:=E,waits:=[] }:DiskD)={ D with files:=D.files++[(n,⟨b,t,t⟩)],wv:=E };rw [<- HW.o]
 clear A am X I ao B ar R ak;go_wp2_with fail;refine ap.o.mono ?_;rintro e w3 ⟨E,rfl,ba,av,bb⟩;rw [a8.o] at av;go_wp2_with fail;go_ret
 have bc:Mod (λk=>D.foot k\/w.heap.size<=k) w w3:=(a6.o.trans (Mod.of_below an.o)).trans (bb.mono λk _ h=>by
  rcases h with h | h | ⟨p,hp,h⟩ | h
  . exact .inl (.inl h)
  . exact .inl (.inr (.inl h))
  ·
   rcases List.mem_append.1 hp with h3 | h3
   . exact .inl (.inr (.inr (.inl ⟨p,h3,h⟩)))
   . rw [List.mem_singleton.1 h3] at h
     have h:k=b:=h;exact .inr (by have:=U.o; omega)
  . exact (J.o k h).imp (λh=>.inr (.inr (.inr h))) λh=>h)
 exact ⟨rfl,b,E,av,bc.mono λk hk h=>h.elim (λh=>h) λh=>by omega,U.o,λk hk=>J.o k (by rw [<- ba]; exact hk)⟩
open CacheW
theorem aif (a:Option Addr) (cp:Nat) (v:Value) (w:World):Calls Tryz.prog 180 #[.slice a 0 cp,v] w λe w'=>e=.returned (.int .i64 (-1))/\w'=w:=by
 go_enter Tryz.func180,Tryz.ntmps180;go_wp2_with fail;go_loopw [8] (λi wr=>i=.int .i64 0/\wr=w) (λi _=>0)
 case atStart=>exact ⟨rfl,rfl⟩
 case round =>
  obtain ⟨rfl,rfl⟩:=hrel;go_wp2_with fail;go_ret;exact ⟨rfl,rfl⟩
theorem afe (a:Option Addr) (cp:Nat) (v:Value) (w:World):Calls Tryz.prog 119 #[.slice a 0 cp,v] w λe w'=>e=.returned (.bool false)/\w'=w:=by
 go_enter Tryz.func119,Tryz.ntmps119;go_wp2_with fail;refine (aif a cp v w).mono ?_;rintro e w2 ⟨rfl,A⟩;obtain rfl:=A.symm;go_wp2_with fail;go_ret;exact ⟨rfl,rfl⟩
def yh (n:List UInt8):List UInt8:=n++[46,110,101,119]
def DiskD.saved (D:DiskD) (n:List UInt8) (b:Nat) (t:List UInt8) (wv:Value):DiskD:={ D with files:=without D.files n++[(n,⟨b,t,t⟩)],wv:=wv }
theorem adj (l m:List (List UInt8×FileD)) (n:List UInt8):without (l++m) n=without l n++without m n:=List.filter_append ..
theorem new_ne (n:List UInt8):yh n≠n:=λe=>by
 have:=congrArg List.length e;simp [yh] at this
theorem ase {t:List UInt8}:(⟨(CrcMath.aj (S t).data.toList).toArray⟩:ByteArray)=S (CrcMath.aj t):=by
 rw [lg]; rfl
theorem att {base:Nat} {D:DiskD} (n t:List UInt8) (w:World) (h:DiskAt base w D) (hq:Quiet D) (hw:D.waits=[]) (hno:∀ x∈D.files.map (·.1),Lib.hasPrefix x (yh n)=false) (hfl:D.files.length<=1048576) (hnl:∀ p∈D.files,p.1.length<=maxLen) (hn16:n.length<=1000) (htl:t.length<=100000) (hr:((CrcMath.aj t).length:Int)<=D.room) (hbase:base<=w.heap.size) :
 Calls Tryz.prog 60 #[.pointer (some ⟨D.blk,0,none⟩),.string (S n),.string (S t)] w λe w'=>e=.returned (.int .i64 0)/\∃ b wv,DiskAt base w' (DiskD.saved D n b (CrcMath.aj t) wv)/\Mod D.foot w w'/\w.heap.size<=b/\∀ k,wv.ownBlock=some k->D.wv.ownBlock=some k\/w.heap.size<=k:=by
 have U:=zq (agx (yh n) w h hfl hnl hno)
 have A:D.find (yh n)=none:=CacheW.yx.2 λhm=>by
  have h1:=hno _ hm;have h2:Lib.hasPrefix (yh n) (yh n)=true:=by unfold Lib.hasPrefix; simp
  rw [h2] at h1; cases h1
 have HD:=zq h;have HQ:=zq hq;have HW:=zq hw;have X:=zq A;have HR:=zq hr;have HB:=zq hbase;have Y:=zq (new_ne n)
 have av:Zq (S n++⟨#[46,110,101,119]⟩=S (yh n)):=by
  show S n++S [46,110,101,119]=_;rw [gm]; rfl
 have bm:=ai n;clear h hq hw A hr hbase hno hnl;go_enter Tryz.func60,Tryz.ntmps60;go_wp2_with fail;rw [av.o];refine U.o.mono ?_;rintro e w1 ⟨⟨a,c,rfl⟩,Z⟩;have M:=zq Z;clear Z U;go_wp2_with fail;refine (afe a c _ w1).mono ?_;rintro e w2 ⟨rfl,he⟩;obtain rfl:=he.symm;go_wp2_with fail;refine (CrcW.new_any w1).mono ?_;rintro e w3 ⟨B,rfl,I⟩;have O:Zq (Below w.heap.size w w3):=M.o.trans (I.below.mono M.o.size);have R:=zq (CrcW.ahq B (S t) (by rw [ai]; omega) w3 I.size I.tabs);rw [ase] at R;clear I M;go_wp2_with fail;refine R.o.mono ?_;rintro e w4 ⟨rfl,ab⟩;have E:Zq (Below w.heap.size w w4):=O.o.trans (ab.mono O.o.size)
 have ac:CrcMath.aj t≠[]:=λe=>by
  have:=CrcMath.jr t;rw [e] at this;simp at this;omega
 have ad:=zq (atr (yh n) (CrcMath.aj t) w4 (HD.o.below E.o) HQ.o HW.o X.o ac (by rw [CrcMath.jr]; omega) HR.o (Nat.le_trans HB.o E.o.size));clear ab R O ac;go_wp2_with fail;refine ad.o.mono ?_;rintro e w5 ⟨rfl,b,wv,ak,al,am,J⟩;have F:=ap1 (yh n) n ⟨b,CrcMath.aj t,CrcMath.aj t⟩ w5 ak ⟨HQ.o.left,HQ.o.up⟩ HW.o Y.o (by simp);have a1:Zq (Mod D.foot w w5):=(Mod.of_below E.o).trans al;have an:Zq (w.heap.size<=b):=Nat.le_trans E.o.size am;have ao:Zq (∀ k,wv.ownBlock=some k->D.wv.ownBlock=some k\/w.heap.size<=k):=λk hk=>(J k hk).imp (λh=>h) λh=>Nat.le_trans E.o.size h
 have ap:Zq (DiskD.moved { D with files:=D.files++[(yh n,⟨b,CrcMath.aj t,CrcMath.aj t⟩)],wv:=wv } (yh n) n ⟨b,CrcMath.aj t,CrcMath.aj t⟩=DiskD.saved D n b (CrcMath.aj t) wv):=by
  show ({ D with files:=without (without (D.files++[(yh n,_)]) n) (yh n)++[(n,_)],wv:=wv }:DiskD)=_;have e1:without [(yh n,(⟨b,CrcMath.aj t,CrcMath.aj t⟩:FileD))] n=[(yh n,⟨b,CrcMath.aj t,CrcMath.aj t⟩)]:=zt λp hp=>by rw [List.mem_singleton.1 hp]; exact Y.o
  have e2:without (without D.files n) (yh n)=without D.files n:=zt λp hp=>yt X.o p (cu.1 hp).1
  have e3:without [(yh n,(⟨b,CrcMath.aj t,CrcMath.aj t⟩:FileD))] (yh n)=[]:=by simp [without]
  rw [adj,e1,adj,e2,e3,List.append_nil];rfl
 rw [ap.o] at F;have a6:=zq F
 have a7:Zq (∀ k,DiskD.foot { D with files:=D.files++[(yh n,⟨b,CrcMath.aj t,CrcMath.aj t⟩)],wv:=wv } k->D.foot k\/w.heap.size<=k):=λk hk=>by
  rcases hk with h | h | ⟨p,hp,h⟩ | h
  . exact .inl (.inl h)
  . exact .inl (.inr (.inl h))
  ·
   rcases List.mem_append.1 hp with h3 | h3
   . exact .inl (.inr (.inr (.inl ⟨p,h3,h⟩)))
   . rw [List.mem_singleton.1 h3] at h
     have h:k=b:=h;exact .inr (by have:=an.o; omega)
  . exact (ao.o k h).imp (λh=>.inr (.inr (.inr h))) λh=>h
 clear ak al am J F ad ap;go_wp2_with fail;refine a6.o.mono ?_;rintro e w6 ⟨rfl,a8,ba⟩;go_wp2_with fail;go_ret;exact ⟨rfl,b,wv,a8,((a1.o.mono (N:=λk=>D.foot k\/w.heap.size<=k) λk _ h=>.inl h).trans (ba.mono λk _ h=>a7.o k h)).mono λk hk h=>h.elim (λh=>h) λh=>by omega,an.o,ao.o⟩
end TopW
namespace StoW
open Go.RowKit Go.MapKept OctMath RecMath RecW TapeMath DskW SegW MapG TapeW PendW CacheW CqW TopW
theorem abu {D:DiskD} {n t:List UInt8} {b:Nat} {wv:Value} (m:List UInt8) (h:m≠n):(DiskD.saved D n b t wv).find m=D.find m:=by
 unfold DiskD.saved DiskD.find DskW.without;dsimp only;rw [List.find?_append]
 have h1:([(n,(⟨b,t,t⟩:FileD))].find? λp=>p.1 == m)=none:=List.find?_eq_none.2 λp hp=>by
  rw [List.mem_singleton.1 hp]
  simpa using λe=>h e.symm
 have A:((D.files.filter λp=>!decide (p.1=n)).find? λp=>p.1 == m)=D.files.find? λp=>p.1 == m:=by
  induction D.files with
  | nil=>rfl
  | cons p l ih =>
    by_cases hp:p.1=n
    . rw [List.filter_cons_of_neg (by simp [hp]),ih,List.find?_cons_of_neg (by simpa using λe=>h (e.symm.trans hp))]
    . rw [List.filter_cons_of_pos (by simp [hp])]
      by_cases hm:p.1=m
      . rw [List.find?_cons_of_pos (by simpa using hm),List.find?_cons_of_pos (by simpa using hm)]
      . rw [List.find?_cons_of_neg (by simpa using hm),List.find?_cons_of_neg (by simpa using hm),ih]
 rw [A,h1,Option.or_none]
theorem aig {D:DiskD} {n t:List UInt8} {b:Nat} {wv:Value} (m:List UInt8) (h:m≠n):(DiskD.saved D n b t wv).bytes m=D.bytes m:=by
 unfold DiskD.bytes; rw [abu m h]
theorem abv {D:DiskD} {n t:List UInt8} {b B:Nat} {wv:Value} (hb:B<=b) (hv:∀ k,wv.ownBlock=some k->D.wv.ownBlock=some k\/B<=k):∀ k,(DiskD.saved D n b t wv).foot k->D.foot k\/B<=k:=λk hk=>by
 rcases hk with h | h | ⟨p,hp,h⟩ | h
 . exact .inl (.inl h)
 . exact .inl (.inr (.inl h))
 ·
  rcases List.mem_append.1 hp with h3 | h3
  . exact .inl (.inr (.inr (.inl ⟨p,(cu.1 h3).1,h⟩)))
  . rw [List.mem_singleton.1 h3] at h
    have h:k=b:=h;exact .inr (by omega)
 . exact (hv k h).imp (λh=>.inr (.inr (.inr h))) λh=>h
theorem akl {D:DiskD} {n t:List UInt8} {b:Nat} {wv:Value}:D.room - (t.length:Int)<=(DiskD.saved D n b t wv).room:=by
 unfold DiskD.room DiskD.size DiskD.saved;dsimp only;rw [SegW.zm];have h1:=abj D.files n;have A:gu [(n,(⟨b,t,t⟩:FileD))]=t.length:=by simp [gu]
 omega
theorem _root_.Go.Proofs.YtkjocpjikcepkaaGreatDoor.TapeW.TapeAt.saved {base:Nat} {w w':World} {T:TapeD} {n t:List UInt8} {b:Nat} {wv:Value} (h:TapeAt base w T) (hn:∀ p,p<=99999999->n≠ah qz p) (hwt:T.D.waits=[])
 {M:Nat->Prop} (hd:DiskAt base w' (DiskD.saved T.D n b t wv)) (hm:Mod M w w') (hM:∀ k,M k->T.D.foot k\/¬ T.foot k) (hb:w.heap.size<=b) (hv:∀ k,wv.ownBlock=some k->T.D.wv.ownBlock=some k\/w.heap.size<=k):TapeAt base w' { T with D:=DiskD.saved T.D n b t wv }:=by
 have J:=abv (D:=T.D) (n:=n) (t:=t) hb hv;refine { h with own:=h.own.mod hm (λk hk B=>(hM k B).elim (h.away k hk).1 λA=>A (.inl hk)),away:=λk hk=>⟨λB=>?_,(h.away k hk).2⟩,whole:=?_,wait:=Waiting.none hwt }
 . rcases J k B with A | A
   . exact (h.away k hk).1 A
   . have:=h.own.lt hk; omega
 ·
  have E:=h.whole;refine ⟨E.seg.mod hm (λk hk B=>(hM k B).elim (λA=>E.ap k A hk) λA=>A (.inr (.inr hk))),hd,E.db,λk hk B=>?_,λi F=>?_,λp hp F=>?_⟩
  . rcases J k hk with A | A
    . exact E.ap k A B
    . have:=E.seg.lt B; omega
  ·
   have F:i < T.R.n:=F;have I:ah T.R.head (T.R.b+i * T.R.size)≠n:=λe=>hn (T.R.b+i * T.R.size) (by have:=E.seg.long (by omega); have:i * T.R.size<=(T.R.n - 1) * T.R.size:=Nat.mul_le_mul_right _ (by omega); omega) (by rw [<- h.head]; exact e.symm)
   show (DiskD.saved T.D n b t wv).bytes _=_/\((DiskD.saved T.D n b t wv).find _).isSome=true;rw [aig _ I,abu _ I];exact E.ok i F
  . show (DiskD.saved T.D n b t wv).find _=none
    rw [abu _ (λe=>hn p hp (by rw [<- h.head]; exact e.symm))];exact E.only p hp F
structure TabD where
 blk:Nat
 dk:Nat
 v:Value
 l:List (List UInt8×Nat)
def TabD.foot (X:TabD) (k:Nat):Prop:=k=X.blk\/X.v.ownBlock=some k
structure TabAt (base:Nat) (w:World) (X:TabD):Prop where
 cells:w.heap[X.blk]?=some (.cells #[.pointer (some ⟨X.dk,0,none⟩),X.v] 134 (0,0))
 row:w.ownsRow base 132 2 X.v X.l.length (je X.l)
 low:base<=X.blk
theorem TabAt.lt {base:Nat} {w:World} {X:TabD} (h:TabAt base w X) {k:Nat} (hk:X.foot k):k < w.heap.size:=by
 rcases hk with hk | hk
 . rw [hk]; exact (Array.getElem?_eq_some_iff.1 h.cells).1
 . rcases h.row.2 with ⟨e,_⟩ | ⟨g,cap,cur,e,_,hg,_⟩
   . rw [e] at hk; cases hk
   . rw [e] at hk; cases hk; exact (Array.getElem?_eq_some_iff.1 hg).1
theorem TabAt.mod {base:Nat} {w w':World} {X:TabD} {M:Nat->Prop} (h:TabAt base w X) (hm:Mod M w w') (hM:∀ k,X.foot k->¬ M k):TabAt base w' X :=
 ⟨(hm.block _ (h.lt (.inl rfl)) (hM _ (.inl rfl))).trans h.cells,SegW.ownsRow_mod h.row hm (λk hk=>hM k (.inr hk)),h.low⟩
theorem TabAt.below {base:Nat} {w w':World} {X:TabD} (h:TabAt base w X) (hb:Below w.heap.size w w'):TabAt base w' X :=
 h.mod (M:=λ_=>False) (Mod.of_below hb) (λ_ _ h=>h)
structure StoTab (base:Nat) (w:World) (S:StoD) (X:TabD):Prop where
 sto:StoAt base w S
 tab:TabAt base w X
 top:S.top=.pointer (some ⟨X.blk,0,none⟩)
 dk:X.dk=S.T.D.blk
 away:∀ k,S.foot k->¬ X.foot k
theorem StoTab.mod {base:Nat} {w w':World} {S:StoD} {X:TabD} {M:Nat->Prop} (h:StoTab base w S X) (hm:Mod M w w') (h1:∀ k,S.foot k->¬ M k) (h2:∀ k,X.foot k->¬ M k):StoTab base w' S X :=
 { h with sto:=h.sto.mod hm h1,tab:=h.tab.mod hm h2 }
theorem StoTab.below {base:Nat} {w w':World} {S:StoD} {X:TabD} (h:StoTab base w S X) (hb:Below w.heap.size w w'):StoTab base w' S X :=
 h.mod (M:=λ_=>False) (Mod.of_below hb) (λ_ _ h=>h) (λ_ _ h=>h)
def StoD.disk (S:StoD) (D:DiskD):StoD:={ S with T:={ S.T with D:=D } }
theorem StoTab.add {base m:Nat} {w w':World} {S:StoD} {X:TabD} {v:Value} {l:List (List UInt8×Nat)} {n t:List UInt8} {b:Nat} {wv:Value} (h:StoTab base w S X) (hn:∀ p,p<=99999999->n≠ah qz p) (hwt:S.T.D.waits=[]) (hd:DiskAt base w' (DiskD.saved S.T.D n b t wv)) (ht:TabAt base w' ⟨X.blk,S.T.D.blk,v,l⟩)
 (hm:Mod (λk=>S.T.D.foot k\/k=X.blk) w w') (hz:w.heap.size<=m) (hb:m<=b) (hv:∀ k,wv.ownBlock=some k->S.T.D.wv.ownBlock=some k\/m<=k) (hv2:∀ k,v.ownBlock=some k->w.heap.size<=k/\k < m) :
 StoTab base w' (S.disk (DiskD.saved S.T.D n b t wv)) ⟨X.blk,S.T.D.blk,v,l⟩/\∀ k,(S.disk (DiskD.saved S.T.D n b t wv)).foot k->S.foot k\/w.heap.size<=k:=by
 have J:¬ S.foot X.blk:=λB=>h.away _ B (.inl rfl)
 have N:=abv (D:=S.T.D) (n:=n) (t:=t) hb hv;have E:∀ k,S.T.D.foot k->S.T.foot k:=λk hk=>.inr (.inl hk)
 have F:∀ k,TapeD.foot { S.T with D:=DiskD.saved S.T.D n b t wv } k->S.T.foot k\/m<=k:=λk hk=>by
  rcases hk with h1 | h1 | h1
  . exact .inl (.inl h1)
  . exact (N k h1).imp (E k) λh=>h
  . exact .inl (.inr (.inr h1))
 have O:=h.sto.tape.saved hn hwt hd hm (λk hk=>hk.imp (λh=>h) λe B=>J (by subst e; exact .inr (.inl B))) (Nat.le_trans hz hb) (λk hk=>(hv k hk).imp (λh=>h) λh=>Nat.le_trans hz h);have R:=h.sto.pend.mod hm (λk hk B=>B.elim (λA=>(h.sto.away.1 k (E k A)).2 hk) λe=>J (by subst e; exact .inr (.inr hk)));have M:¬ (S.T.D.foot S.blk\/S.blk=X.blk):=λB=>B.elim (λA=>(h.sto.away.1 _ (E _ A)).1 rfl) λe=>J (by rw [<- e]; exact .inl rfl)
 have I:∀ k,(S.disk (DiskD.saved S.T.D n b t wv)).foot k->S.foot k\/m<=k:=λk hk=>by
  rcases hk with h1 | h1 | h1
  . exact .inl (.inl h1)
  . exact (F k h1).imp (λh=>.inr (.inl h)) λh=>h
  . exact .inl (.inr (.inr h1))
 refine ⟨⟨⟨(hm.block _ (h.sto.lt (.inl rfl)) M).trans h.sto.cells,O,R,h.sto.low,λk hk=>?_,h.sto.away.2⟩,ht,h.top,rfl,λk hk B=>?_⟩,λk hk=>(I k hk).imp (λh=>h) λh=>Nat.le_trans hz h⟩
 ·
  rcases F k hk with h1 | h1
  . exact h.sto.away.1 k h1
  . have A:=h.sto.lt (.inl rfl)
    exact ⟨by show k≠S.blk; omega,λU=>by have:=h.sto.pend.lt U; omega⟩
 ·
  rcases I k hk with h1 | h1
  . rcases B with A | A
    . exact J (by rw [<- (A:k=X.blk)]; exact h1)
    . have:=(hv2 k A).1; have:=h.sto.lt h1; omega
  . rcases B with A | A
    . have:=h.tab.lt (.inl rfl); have A:k=X.blk:=A; omega
    . have:=(hv2 k A).2; omega
end StoW
section
open Go.RowKit
section
variable {P:Program} {w:World}
theorem ado (t ty e:TypeId) (i:TypeInfo) (ht:P.underlying t=some (.slice e)) (hi:P.info? e=some i) (b a:Option Addr) (c:Nat) :
 (Builtin.append_ #[t,t] ty #[.slice b 0 0,.slice a 0 c]).run P w=.ok (.slice b 0 0) w:=by
 cases a <;> cases b <;> simp [Builtin.append_,run_underlying ht,sizeOf,typeInfo,hi,Builtin.lenOf,Builtin.firstCells,storeCells,loadCells,loadCellsFrom]
end
end
end Go.Proofs.YtkjocpjikcepkaaGreatDoor
