/- pend: Note. And what follows. -/
import Derived.Test.YtckjigopecocaaaGreatDoorR06
set_option linter.unusedVariables false
set_option linter.unusedSimpArgs false
set_option maxHeartbeats 25600000
set_option maxRecDepth 100000
namespace Go.Proofs.YtckjigopecocaaaGreatDoor
namespace PendW
open Go.RowKit Go.MapKept OctMath RecMath RecW MapG
theorem aqu (a b:Int) (w:World):Sem.run Tryz.prog (binOp .eql 102 (aay (a,b)) (aay (0,0))) w=.ok (.bool (decide ((a,b)=((0,0):Int×Int)))) w   := by
 unfold aay;have A:Tryz.prog.stoodInHeld 102=false:=by kernel_rfl
 have I:∀ a b:Value,(part 3 #[a,b] 0).run Tryz.prog w=.ok a w:=λa b=>by kernel_rfl
 have J:∀ a b:Value,(part 3 #[a,b] 1).run Tryz.prog w=.ok b w:=λa b=>by kernel_rfl
 have F:∀ x y:Int,(Op.equalIn 9999 3 (.int .i64 x) (.int .i64 y)).run Tryz.prog w=.ok (x == y) w:=λx y=>run_equalIn_int _ 9998 _ _ _ _ _ Tryz.underlying3
 have M:(Op.equalIn 10000 102 (.agg #[.int .i64 a,.int .i64 b]) (.agg #[.int .i64 0,.int .i64 0])).run Tryz.prog w=.ok (a == 0 && b == 0) w:=by
  show (Op.equalIn (9999+1) _ _ _).run _ _=_;unfold Op.equalIn;have B:∀ w,Sem.run Tryz.prog program w=.ok Tryz.prog w:=λ_=>rfl
  have E:(isAgg 3).run Tryz.prog w=.ok false w:=by kernel_rfl
  simp [go_sem,run_underlying Tryz.underlying102,Result.andThen,B,A,E,F]
  by_cases h1:a=0 <;> by_cases h2:b=0 <;> simp [h1,h2,F]
 have hb:binOp .eql 102 (.agg #[.int .i64 a,.int .i64 b]) (.agg #[.int .i64 0,.int .i64 0])=(do pure (.bool (<- Op.equal 102 (.agg #[.int .i64 a,.int .i64 b]) (.agg #[.int .i64 0,.int .i64 0])))):=rfl;rw [hb];unfold Op.equal Op.maxDepth;rw [Sem.run_bind,M];simp [Result.andThen]
 by_cases h1:a=0 <;> by_cases h2:b=0 <;> simp [h1,h2]
def ExtP (w w':World):Prop:=∃ n,w'=w.drewN n
theorem ExtP.refl (w:World):ExtP w w:=⟨0,rfl⟩
theorem ExtP.trans {u v w:World} (h:ExtP u v) (k:ExtP v w):ExtP u w:=by obtain ⟨m,rfl⟩:=h; obtain ⟨n,rfl⟩:=k; exact ⟨m+n,World.drewN_drewN ..⟩
theorem aoj {base:Nat} {P:PendD} (id:Int) (m:Msg) (a:Option Addr) (c:Nat) (W:World) (h:PendAt base W P) :
 Calls Tryz.prog 51 #[.pointer (some ⟨P.blk,0,none⟩),.int .i64 id,.agg (af m a c)] W λe w'=>∃ v,e=.returned v/\PendAt base w' { P with all:=su P.all id m }/\Mod (λk=>k=P.mB) W w':=by
 have J:Zq (Below W.heap.size W (W.alloc (.cells (af m a c) 71))):=(Below.refl _ W).alloc (Nat.le_refl _) _;have HX:Zq (RecW.Boxed (W.alloc (.cells (af m a c) 71)) W.heap.size (af m a c)):=RecW.Boxed.new W _ _;have B:=zq (h.below J.o);have N:Zq (su P.all id m=if id < 0 then P.all else if m.kind=3 then afn P.all m.ref 2 else if m.kind=4 then afn P.all m.ref 3 else if m.kind=2/\aak P.all id=(0,0) then al5 P.all id (1,m.due) else P.all):=rfl;have ad:(af m a c).size=10:=rfl;have ak:Zq (P.mB < W.heap.size):=h.map.lt;clear h;go_enter Tryz.func51,Tryz.ntmps51;go_upto_region 1 with fail
 generalize W.alloc (.cells (af m a c) 71)=w1 at *
 clear ad;obtain ⟨A,hA⟩:∃ A,W.heap.size=A:=⟨_,rfl⟩;rw [hA] at HX J ak;have E:Zq (Mod (λk=>k=P.mB) W w1):=Mod.of_below (hA ▸ J.o);have k0:w1.cell? ⟨A,0,none⟩=some (.int .i64 m.kind):=HX.o 0 _ rfl;have k2:w1.cell? ⟨A,2,none⟩=some (.int .i64 m.due):=HX.o 2 _ rfl;have k4:w1.cell? ⟨A,4,none⟩=some (.int .i64 m.ref):=HX.o 4 _ rfl;have c0:=B.o.cell
 by_cases hn:id < 0
 . go_wp2_with fail
   go_ret;exact ⟨_,rfl,by rw [N.o,if_pos hn]; exact B.o,E.o⟩
 by_cases h3:m.kind=3
 ·
  have O:=zq (ahc m.ref 2 w1 B.o);rw [h3] at k0;go_wp2_with fail;refine O.o.mono ?_;rintro e w2 ⟨v,rfl,hp,R⟩;have F:=zq hp;have I:=zq R;clear hp R O;go_wp2_with fail;go_ret;exact ⟨_,rfl,by rw [N.o,if_neg (Int.not_lt.2 hn),if_pos h3]; exact F.o,E.o.trans I.o⟩
 by_cases h4:m.kind=4
 ·
  have O:=zq (ahc m.ref 3 w1 B.o);rw [h4] at k0;go_wp2_with fail;refine O.o.mono ?_;rintro e w2 ⟨v,rfl,hp,R⟩;have F:=zq hp;have I:=zq R;clear hp R O;go_wp2_with fail;go_ret;exact ⟨_,rfl,by rw [N.o,if_neg (Int.not_lt.2 hn),if_neg h3,if_pos h4]; exact F.o,E.o.trans I.o⟩
 by_cases h2:m.kind=2
 ·
  have hl:=agc B.o id;have an:=aqu;unfold aay at hl an;rw [h2] at k0
  by_cases hg:aak P.all id=(0,0)
  ·
   have HG:=zq hg;rw [hg] at hl;simp only at hl;clear hg;go_wp2_with fail;refine Grow.jc 8 [none,none,none,none,none,none,none,none] ExtP (by kernel_rfl) (by kernel_rfl) (by kernel_rfl) ExtP.refl (λ_ _ _=>ExtP.trans) ?_ ?_
   . intro K hK Y hY v w w' hR h
     simp only [List.mem_cons,List.not_mem_nil,or_false] at hK
     rcases hK with rfl | rfl | rfl | rfl | rfl | rfl | rfl | rfl <;> simp only [reduceCtorEq,Option.some.injEq,Sum.inr.injEq] at hY
   simp only [List.take_succ_cons,List.take_zero,List.drop_succ_cons,List.drop_zero]
   iterate 8 (
    refine Grow.g_det rfl ?_;apply Exists.intro;refine ⟨λw hw hF=>?_,?_⟩
    . clear hF
      obtain ⟨nn,rfl⟩:=hw;go_simp;exact ⟨rfl,ExtP.refl _⟩
    go_frame)
   refine Grow.g_nil λw3 ap hF=>?_
   clear hF;obtain ⟨nn,rfl⟩:=ap;have M:Below w1.heap.size w1 (w1.drew.drewN nn):=(((Drawn.refl w1).drew).drewN nn).below _;have U:=B.o.below M;have ar:=zq (E.o.trans (Mod.of_below M));obtain ⟨w2,av,X,Z⟩:=akn U id (1,m.due);have F:=zq X;have I:=zq Z;unfold aay at av;clear X Z M U;generalize w1.drew.drewN nn=wz at *
   go_wp2_with fail;go_ret;exact ⟨⟨_,rfl⟩,by rw [N.o,if_neg (Int.not_lt.2 hn),if_neg h3,if_neg h4,if_pos ⟨h2,HG.o⟩]; exact F.o,ar.o.trans I.o⟩
  ·
   have bc:¬ ((aak P.all id).1=0/\(aak P.all id).2=0):=λh=>hg (Prod.ext h.1 h.2)
   have a1:=zq hg;clear hg;generalize aak P.all id=g at *
   go_wp2_with fail;go_ret;exact ⟨⟨_,rfl⟩,by rw [N.o,if_neg (Int.not_lt.2 hn),if_neg h3,if_neg h4,if_neg (λh=>a1.o h.2)]; exact B.o,E.o⟩
 . go_wp2_with fail
   go_ret;exact ⟨⟨_,rfl⟩,by rw [N.o,if_neg (Int.not_lt.2 hn),if_neg h3,if_neg h4,if_neg (λh=>h2 h.1)]; exact B.o,E.o⟩
end PendW
namespace StoW
open Go.RowKit Go.MapKept OctMath RecMath RecW TapeMath DskW SegW MapG TapeW PendW
theorem al7 (l:List (List UInt8×FileD)) (f:List UInt8×FileD->List UInt8×FileD) (h:∀ p∈l,(f p).2.now=p.2.now):gp (l.map f)=gp l:=by
 unfold gp;rw [List.map_map];congr 1;exact List.map_congr_left λp hp=>by simp [h p hp]
theorem syncD_room (R:SegD) (D:DiskD) (wv:Value):(R.syncD D wv).room=D.room:=by
 unfold SegD.syncD
 split
 . rfl
 ·
  unfold DiskD.room DiskD.size DiskD.lasts;show D.cap - ((gp (D.files.map _):Nat):Int)=_;rw [al7];intro p _;dsimp only
  split <;> rfl
theorem acy (R:SegD) (D:DiskD) (wv:Value):(R.syncD D wv).files=D.files\/∃ f:List UInt8×FileD->List UInt8×FileD,(∀ p,(f p).1=p.1)/\(R.syncD D wv).files=D.files.map f:=by
 unfold SegD.syncD
 split
 . exact .inl rfl
 . refine .inr ⟨_,λp=>?_,rfl⟩
   dsimp only
   split <;> rfl
theorem al8 (R:SegD) (D:DiskD) (wv:Value):(R.syncD D wv).files.length=D.files.length:=by
 rcases acy R D wv with e | ⟨f,_,e⟩
 . rw [e]
 . rw [e,List.length_map]
theorem al9 {R:SegD} {D:DiskD} {wv:Value} {p:List UInt8×FileD} (h:p∈(R.syncD D wv).files):∃ q∈D.files,q.1=p.1:=by
 rcases acy R D wv with e | ⟨f,hf,e⟩
 . rw [e] at h; exact ⟨p,h,rfl⟩
 . rw [e] at h
   obtain ⟨q,A,rfl⟩:=List.mem_map.1 h;exact ⟨q,A,(hf q).symm⟩
theorem ajh {R:SegD} {D:DiskD} {wv:Value} {n:List UInt8} (h:D.find n=none):(R.syncD D wv).find n=none:=by
 obtain ⟨g,e,_⟩:=SegW.qm R D wv n;rw [e,h];rfl
structure StoD where
 blk:Nat
 T:TapeD
 P:PendD
 cq:Value
 kx:Value
 top:Value
 off:Value
 tl:Value
 dp:Value
 eq:Value
 dq:Value
 dk:Value
 now:Int
def StoD.cells (S:StoD):Array Value:=#[.pointer (some ⟨S.T.O.blk,0,none⟩),S.cq,S.kx,S.top,S.off,S.tl,.pointer (some ⟨S.P.blk,0,none⟩),S.dp,S.eq,S.dq,S.dk,.int .i64 S.now]
def StoD.foot (S:StoD) (k:Nat):Prop:=k=S.blk\/S.T.foot k\/S.P.foot k
structure StoAt (base:Nat) (w:World) (S:StoD):Prop where
 cells:w.heap[S.blk]?=some (.cells S.cells 48 (0,0))
 tape:TapeAt base w S.T
 pend:PendAt base w S.P
 low:base<=S.blk
 away:(∀ k,S.T.foot k->k≠S.blk/\¬ S.P.foot k)/\∀ k,S.P.foot k->k≠S.blk
theorem StoAt.lt {base:Nat} {w:World} {S:StoD} (h:StoAt base w S) {k:Nat} (hk:S.foot k):k < w.heap.size:=by
 rcases hk with hk | hk | hk
 . rw [hk]; exact (Array.getElem?_eq_some_iff.1 h.cells).1
 . exact h.tape.lt hk
 . exact h.pend.lt hk
theorem StoAt.mod {base:Nat} {w w':World} {S:StoD} {M:Nat->Prop} (h:StoAt base w S) (hm:Mod M w w') (hM:∀ k,S.foot k->¬ M k):StoAt base w' S :=
 ⟨(hm.block _ (h.lt (.inl rfl)) (hM _ (.inl rfl))).trans h.cells,h.tape.mod hm (λk hk=>hM k (.inr (.inl hk))),h.pend.mod hm (λk hk=>hM k (.inr (.inr hk))),h.low,h.away⟩
theorem StoAt.below {base:Nat} {w w':World} {S:StoD} (h:StoAt base w S) (hb:Below w.heap.size w w'):StoAt base w' S :=
 h.mod (M:=λ_=>False) (Mod.of_below hb) (λ_ _ h=>h)
theorem StoAt.cell {base:Nat} {w:World} {S:StoD} (h:StoAt base w S) (k:Nat) (v:Value) (hv:S.cells[k]?=some v):w.cell? ⟨S.blk,k,Option.none⟩=some v:=by
 unfold World.cell?; rw [show w.heap[(⟨S.blk,k,Option.none⟩:Addr).block]?=_ from h.cells]; simpa using hv
theorem ako {base:Nat} {S:StoD} (w:World) (h:StoAt base w S) :
 Calls Tryz.prog 21 #[.pointer (some ⟨S.blk,0,none⟩)] w λe w'=>e=.returned (.int .i64 S.now)/\w'=w:=by
 have A:=h.cell 11 _ rfl;clear h;go_enter Tryz.func21,Tryz.ntmps21;go_wp2_with fail;go_ret;exact ⟨rfl,rfl⟩
theorem atv {base:Nat} {S0:StoD} (r:Int) (hr:r≠0) (m:Msg) (sy:Bool) (a:Option Addr) (c:Nat) (W:World) (h:StoAt base W S0)
 (HAP:Zq (∀ w,Below W.heap.size W w->Calls Tryz.prog 50 #[.pointer (some ⟨S0.T.O.blk,0,none⟩),.agg (af m a c)] w λe w'=>e=.returned (.tuple #[.int .i64 0,.int .i64 r])/\Below w.heap.size w w')) :
 Calls Tryz.prog 19 #[.pointer (some ⟨S0.blk,0,none⟩),.agg (af m a c),.bool sy] W λe w'=>e=.returned (.tuple #[.int .i64 0,.int .i64 r])/\Below W.heap.size W w':=by
 have B:Zq (Below W.heap.size W (W.alloc (.cells (af m a c) 71))):=(Below.refl _ W).alloc (Nat.le_refl _) _;have I:Zq (RecW.Boxed (W.alloc (.cells (af m a c) 71)) W.heap.size (af m a c)):=RecW.Boxed.new W _ _;have M:=zq (h.below B.o);have N:(af m a c).size=10:=rfl;have Z:(r != 0)=true:=bne_iff_ne.2 hr;clear h hr;go_enter Tryz.func19,Tryz.ntmps19;go_upto_region 3 with fail
 generalize W.alloc (.cells (af m a c) 71)=w1 at *
 clear N;obtain ⟨A,R⟩:∃ A,W.heap.size=A:=⟨_,rfl⟩;rw [R] at I ⊢;have ab:=zq R;have c0:w1.cell? ⟨S0.blk,0,none⟩=some (.pointer (some ⟨S0.T.O.blk,0,none⟩)):=M.o.cell 0 _ rfl;have J:=zq (HAP.o w1.drew (B.o.trans ((Below.refl _ w1).drew.mono B.o.size)));have U:Zq (af m a c=#[.int .i64 m.kind,.int .i64 m.queue,.int .i64 m.due,.int .i64 m.retry,.int .i64 m.ref,.int .i64 m.born,.string (S m.topic),.string (S m.tag),.string (S m.body),.slice a m.keys.length c]):=rfl;rw [U.o] at J;obtain ⟨k0,k1,k2,k3,k4,k5,k6,k7,k8,k9⟩:=RecW.oz I.o;clear R;refine GrowM.jl (by kernel_rfl) ?_;refine GrowM.jr 5 [none,none,none,none,none] (λu v=>v=u) (by kernel_rfl) (by kernel_rfl) (λ_=>rfl) (λ_ _ _ h k=>k.trans h) ?_ ?_
 . exact GrowN.jg rfl
 simp only [List.take_succ_cons,List.take_zero,List.drop_succ_cons,List.drop_zero,Nat.reduceSub]
 iterate 5
  refine GrowN.g_det rfl ?_;apply Exists.intro;refine ⟨λw X E=>?_,?_⟩
  . obtain rfl:=X.symm
    clear E;go_simp
    first | exact rfl | exact ⟨rfl,rfl⟩
  go_frame
 refine GrowN.g_nil λwz F E=>?_
 obtain rfl:=F.symm;clear E;refine GrowM.pu (λv w'=>v=.tuple #[.int .i64 0,.int .i64 r]/\Below w1.drew.heap.size w1.drew w') (by kernel_rfl) rfl rfl ?_ ?_
 ·
  go_simp;refine J.o.mono ?_;rintro e w' ⟨rfl,hb⟩;exact ⟨_,rfl,rfl,hb⟩
 rintro v w2 ⟨rfl,hb⟩;go_frame;have Y:=zq hb;clear hb;refine GrowM.jr 11 [none,none,none,none,none] (λu v=>v=u) (by kernel_rfl) (by kernel_rfl) (λ_=>rfl) (λ_ _ _ h k=>k.trans h) ?_ ?_
 . exact GrowN.jg rfl
 simp only [List.take_succ_cons,List.take_zero,List.drop_succ_cons,List.drop_zero,Nat.reduceSub]
 iterate 5
  refine GrowN.g_det rfl ?_;apply Exists.intro;refine ⟨λw X E=>?_,?_⟩
  . obtain rfl:=X.symm
    clear E;go_simp
    first | exact rfl | exact ⟨rfl,rfl⟩
  go_frame
 refine GrowN.g_nil λwz F E=>?_
 obtain rfl:=F.symm;clear E;refine GrowM.uh rfl ?_;go_wp2_with fail;go_ret2;exact ⟨rfl,(B.o.trans ((Below.refl _ w1).drew.mono B.o.size)).trans (Y.o.mono (Nat.le_trans B.o.size (Nat.le_of_eq rfl)))⟩
structure Put (B:Nat) (S0 S1:StoD) (m:Msg) (sy:Bool):Prop where
 same:S1={ S0 with T:=S1.T,P:=S1.P }
 oblk:S1.T.O.blk=S0.T.O.blk
 pblk:S1.P.blk=S0.P.blk
 dblk:S1.T.D.blk=S0.T.D.blk
 b:S1.T.R.b=S0.T.R.b
 its:S1.T.its=S0.T.its++oh S0.T.R.e m
 quiet:Quiet S1.T.D
 room:S1.T.D.room=S0.T.D.room - ((gq (oh S0.T.R.e m)).length:Int)
 waits:if sy then S1.T.D.waits=[]/\S1.T.R.synced=S1.T.R.e else S1.T.D.waits≠[]/\S1.T.R.synced=S0.T.R.synced
 wl:S1.T.D.waits.length<=S0.T.D.waits.length+2
 foot:∀ k,S1.foot k->S0.foot k\/B<=k
 fl:S1.T.D.files.length<=S0.T.D.files.length+2
 nm:∀ p∈S1.T.D.files,p.1.length<=qf.length+8\/∃ q∈S0.T.D.files,q.1=p.1
 find:∀ n,(∀ p,p<=99999999->n≠ah qf p)->S0.T.D.find n=none->S1.T.D.find n=none
 pall:S1.P.all=su S0.P.all ((S0.T.R.e+(bv S0.T.R.e m).length:Nat):Int) m
 cap:S1.T.D.cap=S0.T.D.cap
 keep:∀ n f,(∀ p,p<=99999999->n≠ah qf p)->S0.T.D.find n=some f->∃ f',S1.T.D.find n=some f'/\f'.now=f.now
theorem put_ok {base:Nat} {S0:StoD} (m:Msg) (sy:Bool) (hm:uq m) (hr:bq m=true) (h0:m.kind≠0) (a:Option Addr) (c:Nat) (W:World) (h:StoAt base W S0) (hS:Strs W a (m.keys.map S)) (hq:Quiet S0.T.D) (hT:TabB base W) (hbase:base<=W.heap.size)
 (hroom:(((bv S0.T.R.e m).length+(bi m).length:Nat):Int)<=S0.T.D.room) (hwl:S0.T.D.waits.length<=1000000) (hfar:S0.T.R.e<=80000000) (hrl:S0.T.O.recs.length<=1000000) :
 Calls Tryz.prog 19 #[.pointer (some ⟨S0.blk,0,none⟩),.agg (af m a c),.bool sy] W λe w'=>e=.returned (.tuple #[.int .i64 ((S0.T.R.e+(bv S0.T.R.e m).length:Nat):Int),.int .i64 0]) /\
  ∃ S1,StoAt base w' S1/\Put W.heap.size S0 S1 m sy/\Mod S0.foot W w':=by
 have I:Zq (Below W.heap.size W (W.alloc (.cells (af m a c) 71))):=(Below.refl _ W).alloc (Nat.le_refl _) _;have ad:Zq (RecW.Boxed (W.alloc (.cells (af m a c) 71)) W.heap.size (af m a c)):=RecW.Boxed.new W _ _;have ak:Zq ((W.alloc (.cells (af m a c) 71)).heap.size=W.heap.size+1):=by exact Array.size_push _
 have B:=zq (h.below I.o);have b9:=zq (Strs.below hS I.o);have ca:(af m a c).size=10:=rfl;have bd:=zq (hT.below I.o);have bh:=zq hbase;have HQ:=zq hq;have bj:=zq (λ(w:World) (hb:Below w.heap.size (W.alloc (.cells (af m a c) 71)) w) (cb:TapeAt base w S0.T) (cc:Strs w a (m.keys.map S)) (cd:TabB base w) (ce:base<=w.heap.size)=>append_ok m hm hr h0 a c w cb cc hq cd ce hroom hwl (by omega) hrl);have av:=zq (λ(id:Int) (P:PendD) (w:World) (hp:PendAt base w P)=>aoj id m a c w hp);have U:=zq (λ(k:Nat) (hk:S0.foot k)=>h.lt hk);have cf:=zq hwl;have cq:=zq hfar;have bk:(0:Int)<=((S0.T.R.e+(bv S0.T.R.e m).length:Nat):Int):=by omega
 obtain ⟨id,hid⟩:∃ id:Int,id=((S0.T.R.e+(bv S0.T.R.e m).length:Nat):Int):=⟨_,rfl⟩;have an:=zq hid;rw [<- hid] at bj ⊢;clear h hS hq hT hbase hroom hwl hfar hrl hm hr h0 bk hid;go_enter Tryz.func19,Tryz.ntmps19;go_upto_region 3 with fail
 generalize W.alloc (.cells (af m a c) 71)=w1 at *
 clear ca;obtain ⟨A,hA⟩:∃ A,W.heap.size=A:=⟨_,rfl⟩;rw [hA] at ad ak U ⊢;have Z:=zq hA;have c0:w1.cell? ⟨S0.blk,0,none⟩=some (.pointer (some ⟨S0.T.O.blk,0,none⟩)):=B.o.cell 0 _ rfl;have a6:=zq (bj.o w1.drew ((Below.refl _ w1).drew) (B.o.tape.below ((Below.refl _ w1).drew)) (Strs.below b9.o ((Below.refl _ w1).drew)) (bd.o.below ((Below.refl _ w1).drew)) (Nat.le_trans bh.o I.o.size));have ci:Zq (af m a c=#[.int .i64 m.kind,.int .i64 m.queue,.int .i64 m.due,.int .i64 m.retry,.int .i64 m.ref,.int .i64 m.born,.string (S m.topic),.string (S m.tag),.string (S m.body),.slice a m.keys.length c]):=rfl;rw [ci.o] at a6 av;obtain ⟨k0,k1,k2,k3,k4,k5,k6,k7,k8,k9⟩:=RecW.oz ad.o;clear hA;refine GrowM.jl (by kernel_rfl) ?_;refine GrowM.jr 5 [none,none,none,none,none] (λu v=>v=u) (by kernel_rfl) (by kernel_rfl) (λ_=>rfl) (λ_ _ _ h k=>k.trans h) ?_ ?_
 . exact GrowN.jg rfl
 simp only [List.take_succ_cons,List.take_zero,List.drop_succ_cons,List.drop_zero,Nat.reduceSub]
 iterate 5
  refine GrowN.g_det rfl ?_;apply Exists.intro;refine ⟨λw hw hF=>?_,?_⟩
  . obtain rfl:=hw.symm
    clear hF;go_simp
    first | exact rfl | exact ⟨rfl,rfl⟩
  go_frame
 refine GrowN.g_nil λwz ac hF=>?_
 obtain rfl:=ac.symm;clear hF;refine GrowM.pu (λv w'=>v=.tuple #[.int .i64 id,.int .i64 0]/\∃ T',TapeAt base w' T'/\TapeW.Next S0.T T' (oh S0.T.R.e m)/\Mod S0.T.foot w1.drew w'/\∀ k,T'.foot k->S0.T.foot k\/w1.drew.heap.size<=k) (by kernel_rfl) rfl rfl ?_ ?_
 ·
  go_simp;refine a6.o.mono ?_;rintro e w' ⟨rfl,hb⟩;exact ⟨_,rfl,rfl,hb⟩
 rintro v w2 ⟨rfl,hb⟩;go_frame;have HP:=zq hb;clear hb a6;refine GrowM.jr 11 [none,none,none,none,none] (λu v=>v=u) (by kernel_rfl) (by kernel_rfl) (λ_=>rfl) (λ_ _ _ h k=>k.trans h) ?_ ?_
 . exact GrowN.jg rfl
 simp only [List.take_succ_cons,List.take_zero,List.drop_succ_cons,List.drop_zero,Nat.reduceSub]
 iterate 5
  refine GrowN.g_det rfl ?_;apply Exists.intro;refine ⟨λw hw hF=>?_,?_⟩
  . obtain rfl:=hw.symm
    clear hF;go_simp
    first | exact rfl | exact ⟨rfl,rfl⟩
  go_frame
 refine GrowN.g_nil λwz ac hF=>?_
 obtain rfl:=ac.symm;clear hF;refine GrowM.uh rfl ?_;obtain ⟨T',bo,hN,ao,bp⟩:=HP.o;have X:Mod S0.T.foot w1 w2:=(Mod.of_below (M:=S0.T.foot) ((Below.refl _ w1).drew)).trans ao;have br:=zq X;have cj:=zq bo;have E:=zq hN;have bs:=zq bp;have ck:Zq (PendAt base w2 S0.P):=B.o.pend.mod X (λk hk F=>(B.o.away.1 k F).2 hk)
 have bw:Zq (RecW.Boxed w2 A (af m a c)):=λk v e=>by
  have:=ad.o k v e;rw [<- this];exact X.cell (by have:=ak.o; show A < _; omega) (λF=>by have:=U.o A (.inr (.inl F)); omega)
 have d6:w2.cell? ⟨S0.blk,6,none⟩=some (.pointer (some ⟨S0.P.blk,0,none⟩)):=by
  rw [X.cell (B.o.lt (.inl rfl)) (λF=>(B.o.away.1 _ F).1 rfl)]; exact B.o.cell 6 _ rfl
 have d0:w2.cell? ⟨S0.blk,0,none⟩=some (.pointer (some ⟨S0.T.O.blk,0,none⟩)):=by
  rw [X.cell (B.o.lt (.inl rfl)) (λF=>(B.o.away.1 _ F).1 rfl)]; exact B.o.cell 0 _ rfl
 clear ao X bo hN bp HP c0 k0 k1 k2 k3 k4 k5 k6 k7 k8 k9 ad;obtain ⟨l0,l1,l2,l3,l4,l5,l6,l7,l8,l9⟩:=RecW.oz bw.o;have bz:=zq (av.o id S0.P w2.drew (ck.o.below ((Below.refl _ w2).drew)));go_upto_region 6 with fail
 refine GrowM.jl (by kernel_rfl) ?_;refine GrowM.jr 6 [none,none,none,none,none,none] (λu v=>v=u) (by kernel_rfl) (by kernel_rfl) (λ_=>rfl) (λ_ _ _ h k=>k.trans h) ?_ ?_
 . exact GrowN.jg rfl
 simp only [List.take_succ_cons,List.take_zero,List.drop_succ_cons,List.drop_zero,Nat.reduceSub]
 iterate 6
  refine GrowN.g_det rfl ?_;apply Exists.intro;refine ⟨λw hw hF=>?_,?_⟩
  . obtain rfl:=hw.symm
    clear hF;go_simp
    first | exact rfl | exact ⟨rfl,rfl⟩
  go_frame
 refine GrowN.g_nil λwz ac hF=>?_
 obtain rfl:=ac.symm;clear hF;refine GrowM.pu (λv w'=>PendAt base w' { S0.P with all:=su S0.P.all id m }/\Mod (λk=>k=S0.P.mB) w2.drew w') (by kernel_rfl) rfl rfl ?_ ?_
 ·
  go_simp;refine bz.o.mono ?_;rintro e w' ⟨v,rfl,hb⟩
  first | exact ⟨⟨_,rfl⟩,hb⟩ | exact ⟨_,hb⟩
 rintro v w3 hb;go_frame;refine GrowM.uh rfl ?_;have a7:=zq hb;clear hb bz av l0 l1 l2 l3 l4 l5 l6 l7 l8 l9 bw;have a8:Mod (λk=>k=S0.P.mB) w2 w3:=(Mod.of_below (M:=λk=>k=S0.P.mB) ((Below.refl _ w2).drew)).trans a7.o.2;have b0:=zq a8
 have e0:w3.cell? ⟨S0.blk,0,none⟩=some (.pointer (some ⟨S0.T.O.blk,0,none⟩)):=by
  rw [a8.cell (Nat.lt_of_lt_of_le (B.o.lt (.inl rfl)) br.o.size) (λF=>B.o.away.2 _ (.inr F) rfl)]; exact d0
 clear a8 d0 d6;have ap:Mod (λk=>S0.T.foot k\/S0.P.foot k) w1 w3:=(br.o.mono (λk _ hk=>.inl hk)).trans (b0.o.mono (λk _ hk=>.inr (.inr hk)));have b1:=zq ap;have J:=zq ((Mod.of_below (M:=λk=>S0.T.foot k\/S0.P.foot k) I.o).trans ap)
 have al:Zq (TapeAt base w3 T'):=cj.o.mod b0.o (λk hk F=>by
  subst F
  rcases bs.o _ hk with Y | Y
  . exact (B.o.away.1 _ Y).2 (.inr rfl)
  . have:=U.o S0.P.mB (.inr (.inr (.inr rfl)))
    have h4:w1.heap.size<=S0.P.mB:=Y;have:=ak.o;omega)
 have KEY:Zq (∀ T2:TapeD,∀ w,TapeAt base w T2->PendAt base w { S0.P with all:=su S0.P.all id m }->Mod (λk=>S0.T.foot k\/S0.P.foot k) W w->T2.O.blk=S0.T.O.blk->(∀ k,T2.foot k->S0.T.foot k\/A<=k) ->
  StoAt base w { S0 with T:=T2,P:={ S0.P with all:=su S0.P.all id m } }/\∀ k,StoD.foot { S0 with T:=T2,P:={ S0.P with all:=su S0.P.all id m } } k->S0.foot k\/A<=k):=λT2 w a1 a2 a3 a4 a5=>by
  have du:=U.o S0.blk (.inl rfl);refine ⟨⟨?_,a1,a2,B.o.low,λk hk=>?_,B.o.away.2⟩,λk hk=>?_⟩
  ·
   have:=(Mod.of_below (M:=λk=>S0.T.foot k\/S0.P.foot k) I.o)
   have h1:w.heap[S0.blk]?=some (.cells S0.cells 48 (0,0)):=by
    rw [a3.block S0.blk (by have:=Z.o; omega) (λF=>F.elim (λY=>(B.o.away.1 _ Y).1 rfl) (λY=>B.o.away.2 _ Y rfl)),<- I.o.block S0.blk (by have:=Z.o; omega)];exact B.o.cells
   rw [show w.heap[S0.blk]?=_ from h1];unfold StoD.cells;rw [a4]
  . rcases a5 k hk with F | F
    . exact B.o.away.1 k F
    . exact ⟨(show k≠S0.blk by omega),λY=>by have:=U.o k (.inr (.inr Y)); omega⟩
  . rcases hk with hk | hk | hk
    . exact .inl (.inl hk)
    . exact (a5 k hk).imp (λh=>.inr (.inl h)) λh=>h
    . exact .inl (.inr (.inr hk))
 have am:Zq (∀ k,T'.foot k->S0.T.foot k\/A<=k):=λk hk=>(bs.o k hk).imp (λh=>h) λF=>by
  have h4:w1.heap.size<=k:=F;have:=ak.o;omega
 have ba:=zq (TapeW.sync_any w3 al.o E.o.quiet (bd.o.mod b1.o (λk hk=>hk.elim (λh=>B.o.tape.base_le h) λh=>h.elim (λe=>e ▸ B.o.pend.low.1) λe=>e ▸ B.o.pend.low.2)) (Nat.le_trans bh.o J.o.size) (by have:=E.o.wl; have:=cf.o; omega) (by
  rcases Nat.eq_zero_or_pos T'.R.n with h0 | hp
  . omega
  . have:=(al.o.whole.seg.long hp).2.2
    rw [al.o.size] at this;omega))
 rw [E.o.blk] at ba
 cases sy
 ·
  go_wp2_with fail;go_ret2;obtain ⟨k1,k2⟩:=KEY.o T' w3 al.o a7.o.1 J.o E.o.blk am.o;exact ⟨rfl,_,k1,⟨rfl,E.o.blk,rfl,E.o.dblk,E.o.b,E.o.its,E.o.quiet,E.o.room,⟨E.o.waits,E.o.syn⟩,E.o.wl,λk hk=>(k2 k hk).imp (λh=>h) λh=>by rw [Z.o]; exact h,by have h1:=E.o.few.1; have F:=E.o.wl; show T'.D.files.length<=_; omega,E.o.few.2.1,λn hn h0=>(E.o.other n hn).trans h0,by show su S0.P.all id m=_; rw [an.o],E.o.few.2.2,λn f hn hf=>⟨f,(E.o.other n hn).trans hf,rfl⟩⟩,J.o.mono (λk _ hk=>hk.elim (λh=>.inr (.inl h)) λh=>.inr (.inr h))⟩
 ·
  go_wp2_with fail;refine ba.o.mono ?_;rintro e w4 ⟨rfl,wv,b2,b3,b4,b5,b6⟩;have cn:=zq b2;have b7:=zq b3;have b8:=zq b4;have co:=zq b5;have cp:=zq b6;clear b2 b3 b4 b5 b6 ba;go_wp2_with fail;go_ret2;have ar:Mod (λk=>S0.T.foot k\/S0.P.foot k) W w4:=((J.o.mono (N:=λk=>(S0.T.foot k\/S0.P.foot k)\/A<=k) (λk _ h=>.inl h)).trans (b7.o.mono (λk _ h=>(am.o k h).imp (λh=>.inl h) λh=>h))).mono (λk hk h=>h.elim (λh=>h) λh=>by have:=Z.o; omega)
  obtain ⟨k1,k2⟩:=KEY.o _ w4 cn.o (a7.o.1.mod b7.o (λk hk F=>(am.o k F).elim (λY=>(B.o.away.1 k Y).2 hk) λY=>by have:=U.o k (.inr (.inr hk)); omega)) ar E.o.blk (λk hk=>am.o k (by
   rcases hk with h | h | h
   . exact .inl h
   . exact .inr (.inl ((cp.o k).1 h))
   . exact .inr (.inr h)))
  exact ⟨rfl,_,k1,⟨rfl,E.o.blk,rfl,(show (T'.R.syncD T'.D wv).blk=_ from (show (T'.R.syncD T'.D wv).blk=T'.D.blk by unfold SegD.syncD; split <;> rfl).trans E.o.dblk),E.o.b,E.o.its,co.o,(syncD_room _ _ _).trans E.o.room,⟨b8.o,rfl⟩,by show (T'.R.syncD T'.D wv).waits.length<=_; rw [b8.o]; simp,λk hk=>(k2 k hk).imp (λh=>h) λh=>by rw [Z.o]; exact h,by show (T'.R.syncD T'.D wv).files.length<=_; rw [al8]; have h1:=E.o.few.1; have F:=E.o.wl; omega,λp hp=>by obtain ⟨q,hq,e⟩:=al9 hp; exact e ▸ E.o.few.2.1 q hq,λn hn h0=>ajh ((E.o.other n hn).trans h0),by show su S0.P.all id m=_; rw [an.o],(show (T'.R.syncD T'.D wv).cap=T'.D.cap by unfold SegD.syncD; split <;> rfl).trans E.o.few.2.2,λn f hn hf=>by obtain ⟨g,h1,F⟩:=qm T'.R T'.D wv n; exact ⟨g f,by show (T'.R.syncD T'.D wv).find n=_; rw [h1,E.o.other n hn,hf]; rfl,(F f).2⟩⟩,ar.mono (λk _ hk=>hk.elim (λh=>.inr (.inl h)) λh=>.inr (.inr h))⟩
structure aqv (W w:World) (B:Nat) (cs:Array Value) (t:TypeId):Prop where
 cells:w.heap[B]?=some (.cells cs t (0,0))
 below:Below W.heap.size W w
 new:W.heap.size<=B
theorem aba (W w:World) (cs:Array Value) (t:TypeId) (h:Below W.heap.size W w):aqv W (w.alloc (.cells cs t)) w.heap.size cs t :=
 ⟨heap_alloc_new w _,h.alloc h.size _,h.size⟩
theorem ahd {base:Nat} {T:TapeD} (q x:Nat) (W:World) (h:TapeAt base W T) :
 Calls Tryz.prog 90 #[.pointer (some ⟨T.O.blk,0,none⟩),.pointer (some ⟨q,0,none⟩),.pointer (some ⟨x,0,none⟩)] W λe w'=>∃ B,e=.returned (.tuple #[.pointer (some ⟨B,0,none⟩),.int .i64 0]) /\
  aqv W w' B #[.pointer (some ⟨T.O.blk,0,none⟩),.pointer (some ⟨q,0,none⟩),.pointer (some ⟨x,0,none⟩),.int .i64 (T.R.b:Int)] 129:=by
 have A:=zq (begin_any W h);clear h;go_enter Tryz.func90,Tryz.ntmps90;go_wp2_with fail;refine A.o.mono ?_;rintro e w2 ⟨rfl,rfl⟩;go_wp2_with fail;go_ret2;exact ⟨_,rfl,aba _ _ _ _ (Below.refl _ _)⟩
theorem aji {base:Nat} {T:TapeD} (q x:Nat) (W:World) (h:TapeAt base W T) :
 Calls Tryz.prog 91 #[.pointer (some ⟨T.O.blk,0,none⟩),.pointer (some ⟨q,0,none⟩),.pointer (some ⟨x,0,none⟩)] W λe w'=>∃ B,e=.returned (.tuple #[.pointer (some ⟨B,0,none⟩),.int .i64 0]) /\
  aqv W w' B #[.pointer (some ⟨T.O.blk,0,none⟩),.pointer (some ⟨q,0,none⟩),.pointer (some ⟨x,0,none⟩),.int .i64 (T.R.b:Int),.slice none 0 0] 250:=by
 have A:=zq (begin_any W h);clear h;go_enter Tryz.func91,Tryz.ntmps91;go_wp2_with fail;refine A.o.mono ?_;rintro e w2 ⟨rfl,rfl⟩;go_wp2_with fail;go_ret2;exact ⟨_,rfl,aba _ _ _ _ (Below.refl _ _)⟩
theorem ajj (t q x:Nat) (W:World) :
 Calls Tryz.prog 92 #[.pointer (some ⟨t,0,none⟩),.pointer (some ⟨q,0,none⟩),.pointer (some ⟨x,0,none⟩)] W λe w'=>∃ B,e=.returned (.tuple #[.pointer (some ⟨B,0,none⟩),.int .i64 0]) /\
  aqv W w' B #[.pointer (some ⟨t,0,none⟩),.pointer (some ⟨q,0,none⟩),.pointer (some ⟨x,0,none⟩),.slice none 0 0] 252:=by
 go_enter Tryz.func92,Tryz.ntmps92;go_wp2_with fail;go_ret2;exact ⟨_,rfl,aba _ _ _ _ (Below.refl _ _)⟩
theorem aok {B:Nat} {c0 c1 c2 c3:Value} (W:World) (h:W.heap[B]?=some (.cells #[c0,c1,c2,c3,.slice none 0 0] 250 (0,0))) :
 Calls Tryz.prog 95 #[.pointer (some ⟨B,0,none⟩)] W λe w'=>e=.returned (.slice none 0 0)/\w'.heap[B]?=some (.cells #[c0,c1,c2,c3,.slice none 0 0] 250 (0,0))/\Mod (λk=>k=B) W w':=by
 have c4:W.cell? ⟨B,4,none⟩=some (.slice none 0 0):=by unfold World.cell?; rw [show W.heap[(⟨B,4,none⟩:Addr).block]?=_ from h]; rfl
 have f4:W.frozen? ⟨B,4,none⟩=false:=by unfold World.frozen?; rw [show W.heap[(⟨B,4,none⟩:Addr).block]?=_ from h]; rfl
 have H:=zq h;clear h;go_enter Tryz.func95,Tryz.ntmps95;go_wp2_with fail;go_ret;exact ⟨rfl,heap_setCell_same _ B 4 _ _ _ H.o,(Mod.refl (λk=>k=B) W).setCell (.inl rfl) _⟩
theorem aol {B:Nat} {c0 c1 c2:Value} (W:World) (h:W.heap[B]?=some (.cells #[c0,c1,c2,.slice none 0 0] 252 (0,0))) :
 Calls Tryz.prog 94 #[.pointer (some ⟨B,0,none⟩),.slice none 0 0] W λe w'=>∃ v,e=.returned v/\w'.heap[B]?=some (.cells #[c0,c1,c2,.slice none 0 0] 252 (0,0))/\Mod (λk=>k=B) W w':=by
 have c3:W.cell? ⟨B,3,none⟩=some (.slice none 0 0):=by unfold World.cell?; rw [show W.heap[(⟨B,3,none⟩:Addr).block]?=_ from h]; rfl
 have A:W.frozen? ⟨B,3,none⟩=false:=by unfold World.frozen?; rw [show W.heap[(⟨B,3,none⟩:Addr).block]?=_ from h]; rfl
 have H:=zq h;clear h;go_enter Tryz.func94,Tryz.ntmps94;go_wp2_with fail;go_end0;exact ⟨_,rfl,heap_setCell_same _ B 3 _ _ _ H.o,(Mod.refl (λk=>k=B) W).setCell (.inl rfl) _⟩
def zt (f:Nat) (B:Nat) (Q:World->Prop):Nat->World->Prop
 | 0,w=>Calls Tryz.prog f #[.pointer (some ⟨B,0,none⟩)] w λe w'=>e=.returned (.tuple #[.bool false,.int .i64 0])/\Q w'
 | n+1,w=>Calls Tryz.prog f #[.pointer (some ⟨B,0,none⟩)] w λe w'=>e=.returned (.tuple #[.bool true,.int .i64 0])/\zt f B Q n w'
theorem ahe {B:Nat} {Q:World->Prop} (n:Nat) (hn:n<=1073741824) (w:World) (h:zt 22 B Q n w) :
 Calls Tryz.prog 8 #[.pointer (some ⟨B,0,none⟩)] w λe w'=>e=.returned (.tuple #[.int .i64 (n:Int),.int .i64 0])/\Q w':=by
 have M:=zq h;clear h;go_enter Tryz.func8,Tryz.ntmps8;go_wp2_with fail;go_loopw [4] (λi wr=>∃ k:Nat,k<=n/\i=.int .i64 (k:Int)/\Zq (zt 22 B Q (n - k) wr)) (λi _=>n+1 - (intOf i).toNat)
 case atStart=>exact ⟨0,Nat.zero_le _,rfl,M⟩
 case round =>
  obtain ⟨k,hk,rfl,I⟩:=hrel;clear M
  by_cases hkn:k=n
  ·
   subst hkn;have A:=I.o;rw [Nat.sub_self] at A;have E:Zq _:=zq A;clear A I;unfold zt at E;go_wp2_with fail;refine E.o.mono ?_;rintro e w2 ⟨rfl,F⟩;have J:=zq F;clear F E;go_wp2_with fail;go_ret2;exact ⟨rfl,J.o⟩
  ·
   obtain ⟨j,N⟩:∃ j,n - k=j+1:=⟨n - k - 1,by omega⟩;have A:=I.o;rw [N] at A;have E:Zq _:=zq A;clear A I;unfold zt at E;go_wp2_with fail;refine E.o.mono ?_;rintro e w2 ⟨rfl,F⟩;have J:=zq F;clear F E;go_wp2_with fail;go_roundw
   case rel=>exact ⟨k+1,by omega,by go_num,by rw [show n - (k+1)=j by omega]; exact J.o⟩
   case measure=>simp [intOf]; omega
theorem aom {B:Nat} {Q:World->Prop} (n:Nat) (hn:n<=1073741824) (w:World) (h:zt 164 B Q n w) :
 Calls Tryz.prog 93 #[.pointer (some ⟨B,0,none⟩)] w λe w'=>e=.returned (.tuple #[.int .i64 (n:Int),.int .i64 0])/\Q w':=by
 have M:=zq h;clear h;go_enter Tryz.func93,Tryz.ntmps93;go_wp2_with fail;go_loopw [4] (λi wr=>∃ k:Nat,k<=n/\i=.int .i64 (k:Int)/\Zq (zt 164 B Q (n - k) wr)) (λi _=>n+1 - (intOf i).toNat)
 case atStart=>exact ⟨0,Nat.zero_le _,rfl,M⟩
 case round =>
  obtain ⟨k,hk,rfl,I⟩:=hrel;clear M
  by_cases hkn:k=n
  ·
   subst hkn;have A:=I.o;rw [Nat.sub_self] at A;have E:Zq _:=zq A;clear A I;unfold zt at E;go_wp2_with fail;refine E.o.mono ?_;rintro e w2 ⟨rfl,F⟩;have J:=zq F;clear F E;go_wp2_with fail;go_ret2;exact ⟨rfl,J.o⟩
  ·
   obtain ⟨j,N⟩:∃ j,n - k=j+1:=⟨n - k - 1,by omega⟩;have A:=I.o;rw [N] at A;have E:Zq _:=zq A;clear A I;unfold zt at E;go_wp2_with fail;refine E.o.mono ?_;rintro e w2 ⟨rfl,F⟩;have J:=zq F;clear F E;go_wp2_with fail;go_roundw
   case rel=>exact ⟨k+1,by omega,by go_num,by rw [show n - (k+1)=j by omega]; exact J.o⟩
   case measure=>simp [intOf]; omega
theorem aa {w:World} {B:Nat} {cs:Array Value} {t:TypeId} (h:w.heap[B]?=some (.cells cs t (0,0))) (k:Nat) (v:Value) (hv:cs[k]?=some v):w.cell? ⟨B,k,Option.none⟩=some v:=by
 unfold World.cell?; rw [show w.heap[(⟨B,k,Option.none⟩:Addr).block]?=_ from h]; simpa using hv
theorem ae {w:World} {B:Nat} {cs:Array Value} {t:TypeId} (h:w.heap[B]?=some (.cells cs t (0,0))) (k:Nat):w.frozen? ⟨B,k,Option.none⟩=false:=by
 unfold World.frozen?; rw [show w.heap[(⟨B,k,Option.none⟩:Addr).block]?=_ from h]; rfl
theorem ajk {w w':World} (h:Drawn w w') {B:Nat} {o:Obj} (hb:w.heap[B]?=some o):w'.heap[B]?=some o:=by rw [h.heap]; exact hb
theorem ad9 {base B:Nat} {T:OwnD} {q x:Value} {d:Int} (W:World) (h:OwnAt base W T) (hB:W.heap[B]?=some (.cells #[.pointer (some ⟨T.blk,0,none⟩),q,x,.int .i64 d] 129 (0,0))) (hs:(T.recs.map (·.1)).Pairwise (· < ·)) (hl:T.recs.length<=1073741824) (hn:(ma T.recs d).2=false) :
 Calls Tryz.prog 22 #[.pointer (some ⟨B,0,none⟩)] W λe w'=>e=.returned (.tuple #[.bool false,.int .i64 0])/\Drawn W w':=by
 have c0:=aa hB 0 _ rfl;have c3:=aa hB 3 _ rfl;have A:=zq (next_any d W.drew (h.below ((Below.refl _ W).drew)) hs hl);rw [hn] at A;clear h hs hl hn hB;generalize (ma T.recs d).1=p at *
 go_enter Tryz.func22,Tryz.ntmps22;go_upto_region 3 with fail
 refine GrowM.jl (by kernel_rfl) ?_;refine GrowM.jr 8 [none,none,none,none,none,none,none,none] (λu v=>v=u) (by kernel_rfl) (by kernel_rfl) (λ_=>rfl) (λ_ _ _ h k=>k.trans h) ?_ ?_
 . exact GrowN.jg rfl
 simp only [List.take_succ_cons,List.take_zero,List.drop_succ_cons,List.drop_zero,Nat.reduceSub]
 iterate 8
  refine GrowN.g_det rfl ?_;apply Exists.intro;refine ⟨λw I E=>?_,?_⟩
  . obtain rfl:=I.symm
    clear E;go_simp
    first | exact rfl | exact ⟨rfl,rfl⟩
  go_frame
 refine GrowN.g_nil λJ F E=>?_
 obtain rfl:=F.symm;clear E;refine GrowM.pu (λv w'=>v=.tuple #[.int .i64 p,.bool false]/\Drawn W.drew w') (by kernel_rfl) rfl rfl ?_ ?_
 ·
  go_simp;refine A.o.mono ?_;rintro e w' ⟨rfl,hb⟩;exact ⟨_,rfl,rfl,hb⟩
 rintro v w2 ⟨rfl,hb⟩;go_frame;refine GrowM.jr 14 [none,none,none,none,none] (λu v=>v=u) (by kernel_rfl) (by kernel_rfl) (λ_=>rfl) (λ_ _ _ h k=>k.trans h) ?_ ?_
 . exact GrowN.jg rfl
 simp only [List.take_succ_cons,List.take_zero,List.drop_succ_cons,List.drop_zero,Nat.reduceSub]
 iterate 5
  refine GrowN.g_det rfl ?_;apply Exists.intro;refine ⟨λw I E=>?_,?_⟩
  . obtain rfl:=I.symm
    clear E;go_simp
    first | exact rfl | exact ⟨rfl,rfl⟩
  go_frame
 refine GrowN.g_nil λJ F E=>?_
 obtain rfl:=F.symm;clear E;refine GrowM.uh rfl ?_;have M:=zq hb;clear hb A;go_wp2_with fail;go_ret2;exact ⟨rfl,Drawn.trans (Drawn.refl W).drew M.o⟩
def asj (w1:World) (v:Value) (w:World):Prop:=∃ g,v=.pointer (some ⟨g,0,none⟩)/\w.heap[g]?=some (.cells #[.int .i64 0,.int .i64 0,.int .i64 0,.int .i64 0] 95 (0,0))/\w1.heap.size<=g
theorem ahf {u v:World} (h:RecW.ExtR u v) {g:Nat} {o:Obj} (hg:u.heap[g]?=some o):v.heap[g]?=some o:=by
 rw [Below.block h g (Array.getElem?_eq_some_iff.1 hg).1]; exact hg
theorem ama (p:Int):ma [] p=(0,false):=rfl
theorem ahg (x:Nat×Msg) (l:List (Nat×Msg)) (p:Int) (h:(x.1:Int) < p):ma (x :: l) p=ma l p:=by
 unfold ma TapeW.placeL idI;rw [List.map_cons,List.countP_cons_of_pos (by simpa using h),List.drop_succ_cons]
theorem ahh (x:Nat×Msg) (l:List (Nat×Msg)) (p:Int) (h:p<=(x.1:Int)) (hs:((x :: l).map (·.1)).Pairwise (· < ·)):ma (x :: l) p=((x.1:Int),true):=by
 have:TapeW.placeL (x :: l) p=0:=by
  unfold TapeW.placeL idI;rw [List.countP_eq_zero];intro i B;obtain ⟨y,A,rfl⟩:=List.mem_map.1 B
  have:x.1<=y.1:=by
   rcases List.mem_cons.1 A with rfl | A
   . exact Nat.le_refl _
   . rw [List.map_cons,List.pairwise_cons] at hs
     exact Nat.le_of_lt (hs.1 y.1 (List.mem_map.2 ⟨y,A,rfl⟩))
  simp; omega
 unfold ma;rw [this]; rfl
theorem aea (p:Int):∀ l:List (Nat×Msg),(l.map (·.1)).Pairwise (· < ·)->(ma l p).2=true->∃ id m,(id,m)∈l/\ma l p=((id:Int),true)/\p<=(id:Int)
 | [],_,h=>by rw [ama] at h; cases h
 | x :: l,hs,h=>by
   by_cases hx:(x.1:Int) < p
   . rw [ahg x l p hx] at h ⊢
     rw [List.map_cons,List.pairwise_cons] at hs;obtain ⟨id,m,h1,A,B⟩:=aea p l hs.2 h;exact ⟨id,m,List.mem_cons_of_mem _ h1,A,B⟩
   . exact ⟨x.1,x.2,List.mem_cons_self ..,ahh x l p (by omega) hs,by omega⟩
theorem ajl {base B:Nat} {T:TapeD} (q x:Value) (cs4:Value) (d e0:Int) (W:World) (h0r:T.O.recs=[]) (h:TapeAt base W T) (hT:TabB base W) (hbase:base<=W.heap.size) (hup:T.D.down=false)
 (hB:W.heap[B]?=some (.cells #[.pointer (some ⟨T.O.blk,0,none⟩),q,x,.int .i64 e0,cs4] 250 (0,0))) (hl:T.O.recs.length<=1073741824) (hk:∀ p∈T.O.recs,p.2.kind≠2) (hd:0<=d/\d<=200000000) :
 Calls Tryz.prog 226 #[.pointer (some ⟨B,0,none⟩),.int .i64 d] W λe w'=>e=.returned (.tuple #[.int .i64 0,.agg #[.int .i64 0,.int .i64 0,.int .i64 0,.int .i64 0,.int .i64 0,.int .i64 0,.string ⟨#[]⟩,.string ⟨#[]⟩,.string ⟨#[]⟩,.slice none 0 0],.bool false])/\Below W.heap.size W w':=by
 have ak:=zq h0r;clear h0r;have U:=(Array.getElem?_eq_some_iff.1 hB).1;have J:(T.O.recs.map (·.1)).Pairwise (· < ·):=by rw [h.recs]; exact (ng h.fits).2
 have al:=zq (λp=>aea p T.O.recs J);have am:Zq (∀ p w,Below W.heap.size W w->Calls Tryz.prog 54 #[.pointer (some ⟨T.O.blk,0,none⟩),.int .i64 p] w λe w'=>e=.returned (.tuple #[.int .i64 (ma T.O.recs p).1,.bool (ma T.O.recs p).2])/\Drawn w w'):=λp w hb=>next_any p w (h.own.below hb) J hl
 have ba:Zq (∀ w,Below W.heap.size W w->Calls Tryz.prog 55 #[.pointer (some ⟨T.O.blk,0,none⟩)] w λe w'=>e=.returned (.int .i64 (T.R.synced:Int))/\w'=w):=λw hb=>TapeW.synced_any w (h.below hb)
 have bb:Zq (∀ id m w,(id,m)∈T.O.recs->Below W.heap.size W w->Calls Tryz.prog 33 #[.pointer (some ⟨T.O.blk,0,none⟩),.int .i64 (id:Int)] w λe w'=>∃ a c,e=.returned (.tuple #[.agg (af m a c),.int .i64 0])/\Below w.heap.size w w'):=λid m w M hb =>
  (aci id m w (h.below hb) hup (hT.below hb) (Nat.le_trans hbase hb.size) M).mono λe w' ⟨a,c,h5,h6,h7,h8⟩=>⟨a,c,h5,h7⟩
 have bh:Zq (∀ id m w,(id,m)∈T.O.recs->Below W.heap.size W w->Calls Tryz.prog 57 #[.pointer (some ⟨T.O.blk,0,none⟩),.int .i64 (id:Int)] w λe w'=>e=.returned (.int .i64 ((bi m).length:Int))/\w'=w):=λid m w M hb=>by
  have:=size_any (id:Int) w (h.own.below hb);rw [ad7 (aa9 h) M] at this;exact this
 have bj:Zq (∀ id m,(id,m)∈T.O.recs->1<=(bi m).length/\(bi m).length<=1024/\id<=100004095):=λid m M=>by
  obtain ⟨a1,a2,a3,a4,a5,a6⟩:=aaj h M;have:=abx m;have:=h.whole.seg.e_le;omega
 have HB:Zq (∀ w,Below W.heap.size W w->w.cell? ⟨B,0,none⟩=some (.pointer (some ⟨T.O.blk,0,none⟩))):=λw hb=>aa ((hb.block B U).trans hB) 0 _ rfl
 have HK:=zq hk;have X:Zq (Below W.heap.size W (W.alloc (.cells #[.int .i64 0,.int .i64 0,.int .i64 0,.int .i64 0,.int .i64 0,.int .i64 0,.string ⟨#[]⟩,.string ⟨#[]⟩,.string ⟨#[]⟩,.slice none 0 0] 71))):=(Below.refl _ W).alloc (Nat.le_refl _) _;have Y:Zq ((W.alloc (.cells #[.int .i64 0,.int .i64 0,.int .i64 0,.int .i64 0,.int .i64 0,.int .i64 0,.string ⟨#[]⟩,.string ⟨#[]⟩,.string ⟨#[]⟩,.slice none 0 0] 71)).heap[W.heap.size]?=some (.cells #[.int .i64 0,.int .i64 0,.int .i64 0,.int .i64 0,.int .i64 0,.int .i64 0,.string ⟨#[]⟩,.string ⟨#[]⟩,.string ⟨#[]⟩,.slice none 0 0] 71 (0,0))):=heap_alloc_new W _;have Z:Zq ((W.alloc (.cells #[.int .i64 0,.int .i64 0,.int .i64 0,.int .i64 0,.int .i64 0,.int .i64 0,.string ⟨#[]⟩,.string ⟨#[]⟩,.string ⟨#[]⟩,.slice none 0 0] 71)).heap.size=W.heap.size+1):=by exact Array.size_push _
 generalize T.O.recs=recs at *
 generalize T.R.synced=sy at *
 generalize T.O.blk=tb at *
 clear h hT hbase hup hB hl hk J U;go_enter Tryz.func226,Tryz.ntmps226;go_wp2_with fail;generalize W.alloc (.cells #[.int .i64 0,.int .i64 0,.int .i64 0,.int .i64 0,.int .i64 0,.int .i64 0,.string ⟨#[]⟩,.string ⟨#[]⟩,.string ⟨#[]⟩,.slice none 0 0] 71)=w1 at *
 obtain ⟨A,hA⟩:∃ A,W.heap.size=A:=⟨_,rfl⟩;have ab:=zq hA;rw [hA] at Y Z;clear hA;rw [ab.o];go_loopw [1] (λi wr=>∃ p:Int,0<=p/\p<=200000000/\i=.int .i64 p/\Zq (Below w1.heap.size w1 wr)) (λi _=>sy - (intOf i).toNat)
 case atStart=>exact ⟨d,hd.1,hd.2,rfl,Below.refl _ _⟩
 case round =>
  obtain ⟨p,bl,bm,rfl,HR⟩:=hrel;have hb:Below W.heap.size W wr:=X.o.trans (HR.o.mono X.o.size);have c0:=HB.o wr hb;have HN:=zq (am.o p wr hb);have ao:=zq hb;have I:=zq (al.o p);clear hb
  cases hok:(ma recs p).2 with
  | false =>
    rw [hok] at HN;have ap:Zq (wr.heap[A]?=some (.cells #[.int .i64 0,.int .i64 0,.int .i64 0,.int .i64 0,.int .i64 0,.int .i64 0,.string ⟨#[]⟩,.string ⟨#[]⟩,.string ⟨#[]⟩,.slice none 0 0] 71 (0,0))):=(HR.o.block A (by have:=Z.o; omega)).trans Y.o;clear I hok;generalize (ma recs p).1=np at *
    go_wp2_with fail;refine HN.o.mono ?_;rintro e w2 ⟨rfl,N⟩;have ac:Zq (Below W.heap.size W w2):=ao.o.trans (N.below _);have E:w2.heap[A]?=some (.cells #[.int .i64 0,.int .i64 0,.int .i64 0,.int .i64 0,.int .i64 0,.int .i64 0,.string ⟨#[]⟩,.string ⟨#[]⟩,.string ⟨#[]⟩,.slice none 0 0] 71 (0,0)):=ajk N ap.o;have bo:=zq E;have HH:=zq (kw rfl E (.int .i64 0) (.int .i64 0) (.int .i64 0) (.int .i64 0) (.int .i64 0) (.int .i64 0) (.string ⟨#[]⟩) (.string ⟨#[]⟩) (.string ⟨#[]⟩) (.slice none 0 0));have ar:=zq (mf w2 A (.int .i64 0) (.int .i64 0) (.int .i64 0) (.int .i64 0) (.int .i64 0) (.int .i64 0) (.string ⟨#[]⟩) (.string ⟨#[]⟩) (.string ⟨#[]⟩) (.slice none 0 0));clear N HN c0;have y0:=aa E 0 _ rfl;have z0:=ae E 0;have y1:=aa E 1 _ rfl;have z1:=ae E 1;have y2:=aa E 2 _ rfl;have z2:=ae E 2;have y3:=aa E 3 _ rfl;have z3:=ae E 3;have y4:=aa E 4 _ rfl;have z4:=ae E 4;have y5:=aa E 5 _ rfl;have z5:=ae E 5;have y6:=aa E 6 _ rfl;have z6:=ae E 6;have y7:=aa E 7 _ rfl;have z7:=ae E 7;have y8:=aa E 8 _ rfl;have z8:=ae E 8;have y9:=aa E 9 _ rfl;have z9:=ae E 9;clear E;go_wp2_with fail;clear y0 y1 y2 y3 y4 y5 y6 y7 y8 y9 z0 z1 z2 z3 z4 z5 z6 z7 z8 z9;change bodyPost _ _ _ _ _ (o9 w2 A (.int .i64 0) (.int .i64 0) (.int .i64 0) (.int .i64 0) (.int .i64 0) (.int .i64 0) (.string ⟨#[]⟩) (.string ⟨#[]⟩) (.string ⟨#[]⟩) (.slice none 0 0));generalize o9 w2 A (.int .i64 0) (.int .i64 0) (.int .i64 0) (.int .i64 0) (.int .i64 0) (.int .i64 0) (.string ⟨#[]⟩) (.string ⟨#[]⟩) (.string ⟨#[]⟩) (.slice none 0 0)=w9 at *
    have F:=HH.o;have c0:=aa F 0 _ rfl;have c1:=aa F 1 _ rfl;have c2:=aa F 2 _ rfl;have c3:=aa F 3 _ rfl;have c4:=aa F 4 _ rfl;have c5:=aa F 5 _ rfl;have c6:=aa F 6 _ rfl;have c7:=aa F 7 _ rfl;have c8:=aa F 8 _ rfl;have c9:=aa F 9 _ rfl;have av:Below W.heap.size W w9:=ac.o.trans (ar.o.to_below _ ac.o.size (λk e=>by rw [e,ab.o]; exact Nat.le_refl _));refine bodyPost_ret (v:=.tuple #[.int .i64 0,.agg #[.int .i64 0,.int .i64 0,.int .i64 0,.int .i64 0,.int .i64 0,.int .i64 0,.string ⟨#[]⟩,.string ⟨#[]⟩,.string ⟨#[]⟩,.slice none 0 0],.bool false]) ?_ rfl ⟨rfl,av⟩;clear F;simp [results,Tryz.results226,go_sem,c0,c1,c2,c3,c4,c5,c6,c7,c8,c9]
  | true =>
    obtain ⟨id,m,M,a7,ca⟩:=I.o hok;rw [a7] at HN;exact absurd M (by rw [ak.o]; exact List.not_mem_nil)
theorem ajm {base B:Nat} {T:TapeD} (q x:Value) (cs4:Value) (d:Int) (W:World) (h0r:T.O.recs=[]) (h:TapeAt base W T) (hT:TabB base W) (hbase:base<=W.heap.size) (hup:T.D.down=false)
 (hB:W.heap[B]?=some (.cells #[.pointer (some ⟨T.O.blk,0,none⟩),q,x,.int .i64 d,cs4] 250 (0,0))) (hl:T.O.recs.length<=1073741824) (hk:∀ p∈T.O.recs,p.2.kind≠2) (hd:0<=d/\d<=200000000) :
 Calls Tryz.prog 164 #[.pointer (some ⟨B,0,none⟩)] W λe w'=>e=.returned (.tuple #[.bool false,.int .i64 0])/\Below W.heap.size W w':=by
 have A:=zq (ajl q x cs4 d d W h0r h hT hbase hup hB hl hk hd);have c3:=aa hB 3 _ rfl;clear h0r h hT hbase hup hB hl hk;go_enter Tryz.func164,Tryz.ntmps164;go_wp2_with fail;refine A.o.mono ?_;rintro e w2 ⟨rfl,hb⟩;have E:Zq (Below W.heap.size W (w2.alloc (.cells #[.int .i64 0,.int .i64 0,.int .i64 0,.int .i64 0,.int .i64 0,.int .i64 0,.string ⟨#[]⟩,.string ⟨#[]⟩,.string ⟨#[]⟩,.slice none 0 0] 71))):=hb.alloc hb.size _;clear hb A c3;go_wp2_with fail;go_ret2;exact ⟨rfl,E.o⟩
theorem amb {base B:Nat} {T:TapeD} (q x:Value) (cs4:Value) (d:Int) (W:World) (h0r:T.O.recs=[]) (h:TapeAt base W T) (hT:TabB base W) (hbase:base<=W.heap.size) (hup:T.D.down=false)
 (hB:W.heap[B]?=some (.cells #[.pointer (some ⟨T.O.blk,0,none⟩),q,x,.int .i64 d,cs4] 250 (0,0))) (hl:T.O.recs.length<=1073741824) (hk:∀ p∈T.O.recs,p.2.kind≠2) (hd:0<=d/\d<=200000000) :
 Calls Tryz.prog 93 #[.pointer (some ⟨B,0,none⟩)] W λe w'=>e=.returned (.tuple #[.int .i64 0,.int .i64 0])/\Below W.heap.size W w' :=
 aom (Q:=λw=>Below W.heap.size W w) 0 (by omega) W (ajm q x cs4 d W h0r h hT hbase hup hB hl hk hd)
theorem amc {base B:Nat} {T:OwnD} {q x:Value} {d:Int} (W:World) (h:OwnAt base W T) (hB:W.heap[B]?=some (.cells #[.pointer (some ⟨T.blk,0,none⟩),q,x,.int .i64 d] 129 (0,0))) (hs:(T.recs.map (·.1)).Pairwise (· < ·)) (hl:T.recs.length<=1073741824) (hn:(ma T.recs d).2=false) :
 Calls Tryz.prog 8 #[.pointer (some ⟨B,0,none⟩)] W λe w'=>e=.returned (.tuple #[.int .i64 0,.int .i64 0])/\Drawn W w' :=
 ahe (Q:=λw=>Drawn W w) 0 (by omega) W (ad9 W h hB hs hl hn)
end StoW
namespace TopW
open Go.RowKit OctMath DskW
theorem acl {base:Nat} {D:DiskD} (nm:List UInt8) (w:World) (h:DiskAt base w D) (hup:D.down=false) (hn:D.find nm=none) :
 Calls Tryz.prog 152 #[.pointer (some ⟨D.blk,0,none⟩),.string (S nm)] w λe w'=>e=.returned (.tuple #[.string (S []),.bool false,.int .i64 0])/\Below w.heap.size w w':=by
 have B:=zq (akc nm w h);have hb:D.bars [nm]=9:=by rw [ul,hup,hn]; rfl
 have F:D.allT nm=[]:=by unfold DiskD.allT; rw [hb]; rfl
 rw [hb,F] at B;have I:S []=⟨#[]⟩:=rfl;clear h hup hn hb F;go_enter Tryz.func152,Tryz.ntmps152;go_wp2_with fail;refine B.o.mono ?_;rintro e w1 ⟨rfl,A⟩;have E:=zq A;clear A B;go_wp2_with fail;go_ret3;exact ⟨rfl,E.o⟩
def jk:List UInt8:=[116,111,112,105,99,115]
def adb:List UInt8:=[103,114,111,117,112,115]
def ahi:List UInt8:=[98,97,115,101]
theorem ahj {base:Nat} {D:DiskD} (w:World) (h:DiskAt base w D) (hup:D.down=false) (hn:D.find jk=none) :
 Calls Tryz.prog 80 #[.pointer (some ⟨D.blk,0,none⟩)] w λe w'=>∃ b,e=.returned (.tuple #[.pointer (some ⟨b,0,none⟩),.int .i64 0])/\Below w.heap.size w w'/\w.heap.size<=b/\w'.heap[b]?=some (.cells #[.pointer (some ⟨D.blk,0,none⟩),.slice none 0 0] 115 (0,0)):=by
 have E:=zq (acl jk w h hup hn);clear h hup hn;go_enter Tryz.func80,Tryz.ntmps80;go_wp2_with fail;refine E.o.mono ?_;rintro e w1 ⟨rfl,B⟩;have A:=zq B;clear B E;go_wp2_with fail;go_ret2;exact ⟨w1.heap.size,rfl,A.o.alloc A.o.size _,A.o.size,heap_alloc_new w1 _⟩
theorem ahk {base:Nat} {D:DiskD} (w:World) (h:DiskAt base w D) (hup:D.down=false) (hn:D.find adb=none) :
 Calls Tryz.prog 81 #[.pointer (some ⟨D.blk,0,none⟩)] w λe w'=>∃ b,e=.returned (.tuple #[.pointer (some ⟨b,0,none⟩),.int .i64 0])/\Below w.heap.size w w'/\w.heap.size<=b/\w'.heap[b]?=some (.cells #[.pointer (some ⟨D.blk,0,none⟩),.slice none 0 0] 88 (0,0)):=by
 have E:=zq (acl adb w h hup hn);clear h hup hn;go_enter Tryz.func81,Tryz.ntmps81;go_wp2_with fail;refine E.o.mono ?_;rintro e w1 ⟨rfl,B⟩;have A:=zq B;clear B E;go_wp2_with fail;go_ret2;exact ⟨w1.heap.size,rfl,A.o.alloc A.o.size _,A.o.size,heap_alloc_new w1 _⟩
theorem acz {base:Nat} {D:DiskD} (w:World) (h:DiskAt base w D) (hup:D.down=false) (hn:D.find ahi=none) :
 Calls Tryz.prog 82 #[.pointer (some ⟨D.blk,0,none⟩)] w λe w'=>e=.returned (.tuple #[.agg #[.int .i64 0,.slice none 0 0],.bool false,.int .i64 0])/\Below w.heap.size w w':=by
 have E:=zq (λ(w2:World) (hb:Below w.heap.size w w2)=>acl ahi w2 (h.below hb) hup hn);clear h hup hn;go_enter Tryz.func82,Tryz.ntmps82;go_wp2_with fail;refine (E.o _ ((Below.refl _ _).alloc (Nat.le_refl _) _)).mono ?_;rintro e w1 ⟨rfl,A⟩
 have g:w1.heap[w.heap.size]?=some (.cells #[.int .i64 0,.slice none 0 0] 169 (0,0)):=by
  have h1:=A.block w.heap.size (by rw [World.size_alloc]; omega);rw [h1]; exact heap_alloc_new w _
 have B:=zq (((Below.refl w.heap.size w).alloc (Nat.le_refl _) (.cells #[.int .i64 0,.slice none 0 0] 169)).trans (A.mono (by rw [World.size_alloc]; omega)));have a0:w1.cell? ⟨w.heap.size,0,none⟩=some (.int .i64 0):=by rw [Lib.cell_of_heap g]; rfl
 have F:w1.cell? ⟨w.heap.size,1,none⟩=some (.slice none 0 0):=by rw [Lib.cell_of_heap g]; rfl
 have b0:w1.frozen? ⟨w.heap.size,0,none⟩=false:=Lib.frozen_of_heap g 0;have I:w1.frozen? ⟨w.heap.size,1,none⟩=false:=Lib.frozen_of_heap g 1;clear A E;go_wp2_with fail;refine bodyPost_ret (v:=.tuple #[.agg #[.int .i64 0,.slice none 0 0],.bool false,.int .i64 0]) ?_ rfl ⟨rfl,?_⟩
 . simp [results,Tryz.results82,go_sem,a0,F]
 . exact (B.o.setCell (p:=⟨w.heap.size,0,none⟩) (Nat.le_refl _) _).setCell (p:=⟨w.heap.size,1,none⟩) (Nat.le_refl _) _
end TopW
namespace CacheW
open Go.RowKit OctMath DskW SegW
structure Grows (D D':DiskD) (ns:List (List UInt8)) (sz wt:Nat):Prop where
 quiet:Quiet D'
 blk:D'.blk=D.blk
 cap:D'.cap=D.cap
 names:D'.files.map (·.1)=D.files.map (·.1)++ns
 size:D'.size=D.size+sz
 waits:D'.waits.length=D.waits.length+wt
theorem Grows.trans {D D1 D2:DiskD} {a b:List (List UInt8)} {s t m n:Nat} (h:Grows D D1 a s m) (k:Grows D1 D2 b t n):Grows D D2 (a++b) (s+t) (m+n) :=
 ⟨k.quiet,k.blk.trans h.blk,k.cap.trans h.cap,by rw [k.names,h.names,List.append_assoc],by rw [k.size,h.size,Nat.add_assoc],by rw [k.waits,h.waits,Nat.add_assoc]⟩
theorem Grows.refl {D:DiskD} (h:Quiet D):Grows D D [] 0 0:=⟨h,rfl,rfl,by rw [List.append_nil],rfl,rfl⟩
theorem Grows.room {D D':DiskD} {a:List (List UInt8)} {s n:Nat} (h:Grows D D' a s n):D'.room=D.room - (s:Int):=by
 unfold DiskD.room; rw [h.cap,h.size]; omega
theorem yc {D:DiskD} {n:List UInt8}:D.find n=none↔n∉D.files.map (·.1):=by
 rw [<- aad]
 cases D.find n <;> simp
theorem aby {base:Nat} {D:DiskD} (n:List UInt8) (w:World) (h:DiskAt base w D) (hq:Quiet D) (hn:n∉D.files.map (·.1)) (hbase:base<=w.heap.size) :
 Calls Tryz.prog 159 #[.pointer (some ⟨D.blk,0,none⟩),.string (S n)] w λe w'=>e=.returned (.int .i64 0)/\∃ D',DiskAt base w' D'/\Grows D D' [n] 0 0/\Mod D.foot w w'/\(∀ k,D'.foot k->D.foot k\/w.heap.size<=k)/\(∃ f,D'.find n=some f/\f.now=[])/\∀ m,m≠n->D'.find m=D.find m:=by
 have A:=yc.2 hn;refine (yw n w h hbase).mono ?_;rintro e w' ⟨b,hb,rfl,hd,B⟩;refine ⟨by rw [hq.createE A],D.create n b,hd,?_,B,λk hk=>?_,?_,λm B=>?_⟩
 ·
  rw [hq.create A];refine ⟨⟨hq.left,hq.up⟩,rfl,rfl,by rw [List.map_append]; rfl,?_,rfl⟩;show gp (D.files++[(n,(⟨b,[],[]⟩:FileD))])=gp D.files+0;rw [yx]; rfl
 . rcases vz hk with h1 | h1
   . exact .inl h1
   . right; omega
 . exact ⟨⟨b,[],[]⟩,by rw [aac hq A,if_pos rfl],rfl⟩
 . rw [aac hq A,if_neg B]
theorem agd {base:Nat} {D:DiskD} (n:List UInt8) (f:FileD) (t:List UInt8) (w:World) (h:DiskAt base w D) (hq:Quiet D) (hf:D.find n=some f) (o:Nat) (ho:o=f.now.length) (ht:t≠[]) (htl:t.length<=1048576) (hr:(t.length:Int)<=D.room) (hwl:D.waits.length<=1048576) (hbase:base<=w.heap.size) :
 Calls Tryz.prog 160 #[.pointer (some ⟨D.blk,0,none⟩),.string (S n),.int .i64 (o:Int),.string (S t)] w λe w'=>e=.returned (.int .i64 0)/\∃ D',DiskAt base w' D'/\Grows D D' [] t.length 1/\Mod D.foot w w'/\(∀ k,D'.foot k->D.foot k\/w.heap.size<=k)/\(∃ f',D'.find n=some f'/\f'.now=f.now++t)/\∀ m,m≠n->D'.find m=D.find m:=by
 have A:=h.small n
 have J:f.now.length<=16777216:=by
  unfold DiskD.bytes at A; rw [hf] at A; exact A
 refine (aaq n (o:Int) (by omega) t (by omega) hwl w h hbase).mono ?_;rintro e w' ⟨wv,rfl,hd,M,hk⟩;obtain ⟨h1,E⟩:=hq.write h.names hf (o:=(o:Int)) (by rw [ho]) ht hr wv;have B:=nz hf;refine ⟨by rw [h1],D.write n (o:Int) t wv,hd,?_,M,hk,?_,λm F=>?_⟩
 ·
  rw [E];refine ⟨⟨hq.left,hq.up⟩,rfl,rfl,by rw [List.append_nil]; exact aa7 _ _ _,?_,by simp⟩;have:=aap D.files n (f.now++t) f h.names B;rw [List.length_append] at this;show gp (fe D.files n (f.now++t))=gp D.files+t.length;omega
 ·
  rw [E];have:=ru D.files n (f.now++t) n;rw [if_pos rfl] at this;refine ⟨{ f with now:=f.now++t },?_,rfl⟩;have I:(D.files.find? λp=>p.1 == n).map (·.2)=some f:=hf;show (((fe D.files n (f.now++t)).find? λp=>p.1 == n).map (·.2))=_;rw [this,I]; rfl
 ·
  rw [E];have:=ru D.files n (f.now++t) m;rw [if_neg F] at this;exact this
theorem aon {D:DiskD} {hd:List UInt8} (h:∀ x∈D.files.map (·.1),Lib.hasPrefix x hd=false):D.list hd=[]:=by
 cases hl:D.list hd with
 | nil=>rfl
 | cons x l =>
   have A:x∈D.list hd:=by rw [hl]; exact .head _
   have:=abr.1 A;rw [h x this.2] at this;exact absurd this.1 (by decide)
theorem age {base:Nat} {D:DiskD} (hd:List UInt8) (w:World) (h:DiskAt base w D) (hfl:D.files.length<=1048576) (hnl:∀ p∈D.files,p.1.length<=maxLen) (hno:∀ x∈D.files.map (·.1),Lib.hasPrefix x hd=false) :
 Calls Tryz.prog 100 #[.pointer (some ⟨D.blk,0,none⟩),.string (S hd)] w λe w'=>(∃ a c,e=.returned (.slice a 0 c))/\Below w.heap.size w w':=by
 refine (list_any hd w h hfl hnl).mono ?_;rintro e w' ⟨v,rfl,A,hb⟩;rw [aon hno] at A;obtain ⟨a,c,rfl,-⟩:=Row1.of_own A;exact ⟨⟨a,c,rfl⟩,hb⟩
open MapG
structure QueD where
 topic:List UInt8
 q:Int
 blk:Nat
 R:SegD
 b0:Nat
 least:Nat
structure CqD where
 blk:Nat
 db:Nat
 mB:Nat
 qs:List QueD
def QueD.key (x:QueD):Value:=.agg #[.string (S x.topic),.int .i64 x.q]
def QueD.cells (x:QueD):Array Value:=#[.pointer (some ⟨x.R.blk,0,none⟩),.int .i64 (x.b0:Int),.int .i64 (x.least:Int)]
structure CqAt (base:Nat) (w:World) (C:CqD):Prop where
 cells:w.heap[C.blk]?=some (.cells #[.pointer (some ⟨C.db,0,none⟩),.map (some C.mB)] 141 (0,0))
 map:PairsAt w C.mB (C.qs.map λx=>(x.key,.pointer (some ⟨x.blk,0,none⟩)))
 que:∀ x∈C.qs,w.heap[x.blk]?=some (.cells x.cells 146 (0,0))/\SegAt base w x.R/\x.R.db=C.db
 low:base<=C.blk/\base<=C.mB/\∀ x∈C.qs,base<=x.blk
 away:∀ x∈C.qs,x.blk≠C.mB/\x.blk≠C.blk/\∀ k,x.R.foot k->k≠C.mB/\k≠C.blk/\k≠x.blk
 sep:C.qs.Pairwise λx y=>∀ k,(k=x.blk\/x.R.foot k)->¬ (k=y.blk\/y.R.foot k)
def CqD.foot (C:CqD) (k:Nat):Prop:=k=C.blk\/k=C.mB\/∃ x∈C.qs,k=x.blk\/x.R.foot k
theorem CqAt.lt {base:Nat} {w:World} {C:CqD} (h:CqAt base w C) {k:Nat} (hk:C.foot k):k < w.heap.size:=by
 rcases hk with hk | hk | ⟨x,hx,hk | hk⟩
 . rw [hk]; exact (Array.getElem?_eq_some_iff.1 h.cells).1
 . rw [hk]; exact h.map.lt
 . rw [hk]; exact (Array.getElem?_eq_some_iff.1 (h.que x hx).1).1
 . exact (h.que x hx).2.1.lt hk
theorem CqAt.mod {base:Nat} {w w':World} {C:CqD} {M:Nat->Prop} (h:CqAt base w C) (hm:Mod M w w') (hM:∀ k,C.foot k->¬ M k):CqAt base w' C :=
 ⟨(hm.block _ (h.lt (.inl rfl)) (hM _ (.inl rfl))).trans h.cells,h.map.mod hm (hM _ (.inr (.inl rfl))),
  λx A=>⟨(hm.block _ (h.lt (.inr (.inr ⟨x,A,.inl rfl⟩))) (hM _ (.inr (.inr ⟨x,A,.inl rfl⟩)))).trans (h.que x A).1,(h.que x A).2.1.mod hm (λk hk=>hM k (.inr (.inr ⟨x,A,.inr hk⟩))),(h.que x A).2.2⟩,h.low,h.away,h.sep⟩
theorem CqAt.below {base:Nat} {w w':World} {C:CqD} (h:CqAt base w C) (hb:Below w.heap.size w w'):CqAt base w' C :=
 h.mod (M:=λ_=>False) (Mod.of_below hb) (λ_ _ h=>h)
theorem aqw {base:Nat} {D:DiskD} (w:World) (h:DiskAt base w D) (hfl:D.files.length<=1048576) (hnl:∀ p∈D.files,p.1.length<=maxLen) (hno:∀ x∈D.files.map (·.1),Lib.hasPrefix x [113,45]=false) (hbase:base<=w.heap.size) :
 Calls Tryz.prog 85 #[.pointer (some ⟨D.blk,0,none⟩)] w λe w'=>∃ C,e=.returned (.tuple #[.pointer (some ⟨C.blk,0,none⟩),.int .i64 0])/\CqAt base w' C/\C.qs=[]/\C.db=D.blk/\Below w.heap.size w w'/\∀ k,C.foot k->w.heap.size<=k:=by
 have F:=zq (age [113,45] w h hfl hnl hno);have E:=zq hbase;clear h hfl hnl hno hbase;have I:∀ w:World,(Instr.makeMap 139 none).run Tryz.prog w=.ok (.map (some w.heap.size)) (w.alloc (.map #[] 0)):=λ_=>rfl
 go_enter Tryz.func85,Tryz.ntmps85;go_wp2_with fail;refine F.o.mono ?_;rintro e w1 ⟨⟨a,c,rfl⟩,hb⟩;have J:=zq hb;clear hb F;go_wp2_with fail;go_ret2;have B:=J.o;have M:=B.size;have N:=E.o;refine ⟨⟨w1.heap.size+1,D.blk,w1.heap.size,[]⟩,by first | rfl | (rw [World.size_alloc]),⟨?_,?_,λx A=>absurd A List.not_mem_nil,⟨by show base<=w1.heap.size+1; omega,by show base<=w1.heap.size; omega,λx A=>absurd A List.not_mem_nil⟩,(λx A=>absurd A List.not_mem_nil),List.Pairwise.nil⟩,rfl,rfl,?_,λk hk=>?_⟩
 . have:=heap_alloc_new (w1.alloc (.map #[] 0)) (.cells #[.pointer (some ⟨D.blk,0,none⟩),.map (some w1.heap.size)] 141)
   rw [World.size_alloc] at this; exact this
 . exact (PairsAt.new w1).below ((Below.refl _ _).alloc (Nat.le_refl _) _)
 . exact (B.alloc M _).alloc (by rw [World.size_alloc]; omega) _
 ·
  rcases hk with hk | hk | ⟨x,A,_⟩
  . have:k=w1.heap.size+1:=hk
    omega
  . have:k=w1.heap.size:=hk
    omega
  . exact absurd A List.not_mem_nil
def iy:List UInt8:=[120,45,108,105,110,107,115]
def ib:List UInt8:=[120,45,115,108,111,116,115]
def ni:List UInt8:=[119,45,115,108,111,116,115]
def ry:List UInt8:=[119,45,109,97,114,107,115]
def uw (n:Nat):List UInt8:=List.replicate n 0
theorem ahl (n:Nat) (hn:n<=1048576) (w:World):(Instr.makeSlice 241 (.int .i64 (n:Int)) (.int .i64 (n:Int))).run Tryz.prog w=.ok (.slice (some ⟨w.heap.size,0,none⟩) n n) (w.alloc (.cells (zeros n) 5)) /\
 (convert 241 9 (.slice (some ⟨w.heap.size,0,none⟩) n n)).run Tryz.prog (w.alloc (.cells (zeros n) 5))=.ok (.string (S (uw n))) (w.alloc (.cells (zeros n) 5)):=by
 obtain ⟨i0,F,A,B,E⟩:=info_parts (show (Tryz.prog.info? 5).map (λi=>(i.zero,i.size,i.bytes))=some (some (.int .u8 0),1,1) by kernel_rfl);refine ⟨zx (P:=Tryz.prog) w 241 5 i0 Tryz.underlying241 F A B E n hn,?_⟩;exact yl (P:=Tryz.prog) (ae1 w 5 n) 241 5 9 Tryz.underlying241 Tryz.underlying5 Tryz.underlying9 n n (by simp)
theorem adc {ns:List (List UInt8)} {hd n:List UInt8} (h:∀ x∈ns,Lib.hasPrefix x hd=false) (hn:Lib.hasPrefix n hd=true):n∉ns:=λA=>by
 rw [h n A] at hn; cases hn
theorem ajn {base:Nat} {D:DiskD} (p:Nat) (hp:p<=1099511627776) (w:World) (h:DiskAt base w D) (hq:Quiet D) (hfl:D.files.length<=1000) (hnl:∀ p∈D.files,p.1.length<=maxLen) (hno:∀ x∈D.files.map (·.1),Lib.hasPrefix x [119,45]=false) (hr:96<=D.room) (hwl:D.waits.length<=1000) (hbase:base<=w.heap.size) :
 Calls Tryz.prog 161 #[.pointer (some ⟨D.blk,0,none⟩),.int .i64 (p:Int)] w λe w'=>∃ b,e=.returned (.tuple #[.pointer (some ⟨b,0,none⟩),.int .i64 0])/\w'.heap[b]?=some (.cells #[.pointer (some ⟨D.blk,0,none⟩),.int .i64 (p:Int)] 319 (0,0))/\w.heap.size<=b /\
  ∃ D',DiskAt base w' D'/\Grows D D' [ni] 96 1/\Mod D.foot w w'/\(∀ k,D'.foot k->(D.foot k\/w.heap.size<=k)/\k≠b)/\(∀ m,m≠ni->D'.find m=D.find m)/\∃ f,D'.find ni=some f/\f.now.length=96:=by
 have HL:=zq (age [119,45] w h (by omega) hnl hno);have HC:=zq (λ(w2:World) (hb:Below w.heap.size w w2)=>aby ni w2 (h.below hb) hq (adc hno rfl) (Nat.le_trans hbase hb.size));have HZ:=zq (λ(w:World)=>ahl 96 (by omega) w);have HR:=zq hr;have ar:=zq hwl;have av:=zq hbase;have a6:Zq (∀ w:World,(Instr.makeSlice 241 (.int .i64 96) (.int .i64 96)).run Tryz.prog w=.ok (.slice (some ⟨w.heap.size,0,none⟩) 96 96) (w.alloc (.cells (zeros 96) 5))):=λw=>(HZ.o w).1
 have a7:Zq (∀ w:World,(convert 241 9 (.slice (some ⟨w.heap.size,0,none⟩) 96 96)).run Tryz.prog (w.alloc (.cells (zeros 96) 5))=.ok (.string (S (uw 96))) (w.alloc (.cells (zeros 96) 5))):=λw=>(HZ.o w).2
 clear h hq hfl hnl hno hr hwl hbase HZ;go_enter Tryz.func161,Tryz.ntmps161;go_wp2_with fail;refine HL.o.mono ?_;rintro e w1 ⟨⟨a,c,rfl⟩,hb⟩;have B:=zq hb;clear hb HL;go_wp2_with fail;refine (HC.o w1 B.o).mono ?_;rintro e w2 ⟨rfl,D1,J,A,M,O,⟨f,N,E⟩,R⟩;have bz:=zq J;have a8:=zq A;have U:=zq M;have X:=zq O;have b0:=zq N;have b1:=zq E;have ba:=zq R;have bb:=a6.o w2;have bc:=a7.o w2;have HW:=zq (λ(w3:World) (hb:Below w2.heap.size w2 w3)=>agd ni f (uw 96) w3 (J.below hb) A.quiet N 0 (by rw [E]; rfl) (by unfold uw; simp) (by unfold uw; simp) (by rw [A.room]; unfold uw; have:=HR.o; simp; omega) (by rw [A.waits]; have:=ar.o; omega) (by have h1:=av.o; have h2:=B.o.size; have h3:=M.size; have h4:=hb.size; omega));rw [A.blk] at HW;have F:=E;clear J A M O N E R HC;go_wp2_with fail;refine (HW.o _ ((Below.refl _ _).alloc (Nat.le_refl _) _)).mono ?_;rintro e w3 ⟨rfl,D2,Y,Z,ab,ac,I,ad⟩
 have bh:Zq (∃ f':FileD,D2.find ni=some f'/\f'.now.length=96):=by
  obtain ⟨f',a1,a2⟩:=I;exact ⟨f',a1,by rw [a2,F]; unfold uw; simp⟩
 clear I F;have ak:=zq Y;have bj:=zq Z;have al:=zq ab;have bk:=zq ac;have bl:=zq ad;clear Y Z ab ac ad HW bb bc;go_wp2_with fail;go_ret2;have b3:=B.o.size;have b4:=U.o.size;have bm:=al.o.size;rw [World.size_alloc] at bm;have am:∀ o,Below w3.heap.size w3 (w3.alloc o):=λo=>(Below.refl _ _).alloc (Nat.le_refl _) _
 have bo:∀ k,D2.foot k->D.foot k\/w.heap.size<=k:=λk hk=>by
  rcases bk.o k hk with h | h
  . rcases X.o k h with h | h
    . exact .inl h
    . right; omega
  . rw [World.size_alloc] at h; right; omega
 have hm:Mod D.foot w w3:=by
  have h1:Mod D.foot w w2:=(Mod.of_below B.o).trans U.o;have h2:Mod D1.foot w2 w3:=(Mod.of_below ((Below.refl _ _).alloc (Nat.le_refl _) _)).trans al.o;exact iw h1 h2 (λk hk=>(X.o k hk).imp_right λh=>by omega)
 refine ⟨w3.heap.size,rfl,heap_alloc_new w3 _,by omega,D2,ak.o.below (am _),?_,hm.trans (Mod.of_below (am _)),λk hk=>⟨bo k hk,λe=>by have:=ak.o.lt hk; omega⟩,λm an=>(bl.o m an).trans (ba.o m an),bh.o⟩;have:=a8.o.trans bj.o
 simpa [uw] using this
theorem amd {base:Nat} {D:DiskD} (p:Nat) (hp:p<=1099511627776) (w:World) (h:DiskAt base w D) (hq:Quiet D) (hfl:D.files.length<=1000) (hnl:∀ p∈D.files,p.1.length<=maxLen) (hno:∀ x∈D.files.map (·.1),Lib.hasPrefix x [119,45]=false) (hr:96<=D.room) (B:D.waits.length<=1000) (hbase:base<=w.heap.size) :
 Calls Tryz.prog 87 #[.pointer (some ⟨D.blk,0,none⟩),.int .i64 (p:Int)] w λe w'=>∃ b wb,e=.returned (.tuple #[.pointer (some ⟨b,0,none⟩),.int .i64 0])/\w'.heap[b]?=some (.cells #[.pointer (some ⟨wb,0,none⟩),.int .i64 0] 246 (0,0)) /\
  w'.heap[wb]?=some (.cells #[.pointer (some ⟨D.blk,0,none⟩),.int .i64 (p:Int)] 319 (0,0))/\w.heap.size<=b/\w.heap.size<=wb/\b≠wb /\
  ∃ D',DiskAt base w' D'/\Grows D D' [ni,ry] 96 1/\Mod D.foot w w'/\(∀ k,D'.foot k->(D.foot k\/w.heap.size<=k)/\k≠b/\k≠wb)/\(∀ m,m≠ni->m≠ry->D'.find m=D.find m)/\(∃ f,D'.find ni=some f/\f.now.length=96)/\∃ f,D'.find ry=some f/\f.now.length=0:=by
 have R:=zq (ajn p hp w h hq hfl hnl hno hr B hbase);have U:ry∉D.files.map (·.1):=adc hno rfl;have ba:=zq U;have bb:=zq hbase;have bp:Zq (∀ k,D.foot k->k < w.heap.size):=λk hk=>h.lt hk
 clear h hq hfl hnl hno hr B hbase U;go_enter Tryz.func87,Tryz.ntmps87;go_wp2_with fail;refine R.o.mono ?_;rintro e w1 ⟨wb,rfl,X,E,D1,F,A,I,J,Y,M⟩;have Z:∀ k,D1.foot k->k≠wb:=λk hk=>(J k hk).2
 have br:=zq F;have bc:=zq A;have ab:=zq I;have ac:=zq J;have bd:=zq Y;have ad:=zq X;have bh:=zq E;have ak:=zq Z;have bj:=zq M;have HC:=zq (aby ry w1 F A.quiet (by rw [A.names]; intro hm; rcases List.mem_append.1 hm with h | h; exact ba.o h; revert h; decide) (by have:=bb.o; have:=I.size; omega));rw [A.blk] at HC;clear F A I J Y X E Z M R;go_wp2_with fail;refine HC.o.mono ?_;rintro e w2 ⟨rfl,D2,al,am,an,ao,ap,ar⟩;have bm:=zq ap;clear ap;have av:=zq al;have bo:=zq am;have N:=zq an;have a6:=zq ao;have a7:=zq ar;clear al am an ao ar HC;go_wp2_with fail;go_ret2;have M:=ab.o.size;have bs:=N.o.size;have E:=bh.o;have B:wb < w1.heap.size:=(Array.getElem?_eq_some_iff.1 ad.o).1;have O:∀ o,Below w2.heap.size w2 (w2.alloc o):=λo=>(Below.refl _ _).alloc (Nat.le_refl _) _
 have a8:w2.heap[wb]?=_:=(N.o.block wb B (λh=>ak.o wb h rfl)).trans ad.o;have hm:Mod D.foot w w2:=iw ab.o N.o (λk hk=>(ac.o k hk).1);refine ⟨w2.heap.size,wb,rfl,heap_alloc_new w2 _,((O _).block wb (by omega)).trans a8,by omega,E,by omega,D2,av.o.below (O _),?_,hm.trans (Mod.of_below (O _)),λk hk=>⟨?_,?_,λe=>?_⟩,λm h1 h2=>(a7.o m h2).trans (bd.o m h1),?_,?_⟩
 . have:=bc.o.trans bo.o
   simpa using this
 . rcases a6.o k hk with h | h
   . exact (ac.o k h).1
   . right; omega
 . have:=av.o.lt hk; omega
 . rcases a6.o k hk with h | h
   . exact ak.o k h e
   . omega
 . rw [a7.o ni (by decide)]; exact bj.o
 . obtain ⟨f,a1,a2⟩:=bm.o
   exact ⟨f,a1,by rw [a2]; rfl⟩
structure Made (base:Nat) (D:DiskD) (w1 wr:World) (k:Nat) (Dk:DiskD):Prop where
 dsk:DiskAt base wr Dk
 grows:Grows D Dk (([iy,ib]:List (List UInt8)).take k) 0 0
 mod:Mod D.foot w1 wr
 foot:∀ j,Dk.foot j->D.foot j\/w1.heap.size<=j
 find:k=2->∃ f,Dk.find ib=some f/\f.now=[]
 findL:1<=k->∃ f,Dk.find iy=some f/\f.now=[]
 other:∀ m,m≠iy->m≠ib->Dk.find m=D.find m
theorem ame {base:Nat} {D:DiskD} (w:World) (h:DiskAt base w D) (hq:Quiet D) (hfl:D.files.length<=1000) (hnl:∀ p∈D.files,p.1.length<=maxLen) (hno:∀ x∈D.files.map (·.1),Lib.hasPrefix x [120,45]=false) (hr:24<=D.room) (hwl:D.waits.length<=1000) (hbase:base<=w.heap.size) :
 Calls Tryz.prog 86 #[.pointer (some ⟨D.blk,0,none⟩)] w λe w'=>∃ b,e=.returned (.tuple #[.pointer (some ⟨b,0,none⟩),.int .i64 0])/\w'.heap[b]?=some (.cells #[.pointer (some ⟨D.blk,0,none⟩),.int .i64 0] 238 (0,0))/\w.heap.size<=b /\
  ∃ D',DiskAt base w' D'/\Grows D D' [iy,ib] 24 1/\Mod D.foot w w'/\(∀ k,D'.foot k->(D.foot k\/w.heap.size<=k)/\k≠b)/\(∀ m,m≠iy->m≠ib->D'.find m=D.find m)/\(∃ f,D'.find ib=some f/\f.now.length=24)/\∃ f,D'.find iy=some f/\f.now.length=0:=by
 have HL:=zq (age [120,45] w h (by omega) hnl hno);have a8:iy∉D.files.map (·.1):=adc hno rfl;have X:ib∉D.files.map (·.1):=adc hno rfl;have b2:=zq a8;have b3:=zq X;have HZ:=zq (λ(w:World)=>ahl 24 (by omega) w);have HR:=zq hr;have b5:=zq hwl;have b6:=zq hbase;have HQ:=zq hq;have HD:=zq h;have b7:Zq (∀ w:World,(Instr.makeSlice 241 (.int .i64 24) (.int .i64 24)).run Tryz.prog w=.ok (.slice (some ⟨w.heap.size,0,none⟩) 24 24) (w.alloc (.cells (zeros 24) 5))):=λw=>(HZ.o w).1
 have b8:Zq (∀ w:World,(convert 241 9 (.slice (some ⟨w.heap.size,0,none⟩) 24 24)).run Tryz.prog (w.alloc (.cells (zeros 24) 5))=.ok (.string (S (uw 24))) (w.alloc (.cells (zeros 24) 5))):=λw=>(HZ.o w).2
 clear h hq hfl hnl hno hr hwl hbase HZ a8 X;go_enter Tryz.func86,Tryz.ntmps86;go_wp2_with fail;refine HL.o.mono ?_;rintro e w1 ⟨⟨a,c,rfl⟩,hb⟩;have E:=zq hb;clear hb HL;go_wp2_with fail;have ao:Below w1.heap.size w1 ((w1.alloc (.cells #[.pointer (some ⟨D.blk,0,none⟩),.int .i64 0] 238)).alloc (.cells #[.string ⟨#[120,45,108,105,110,107,115]⟩,.string ⟨#[120,45,115,108,111,116,115]⟩] 9)):=((Below.refl _ _).alloc (Nat.le_refl _) _).alloc (by rw [World.size_alloc]; omega) _
 have ba:((w1.alloc (.cells #[.pointer (some ⟨D.blk,0,none⟩),.int .i64 0] 238)).alloc (.cells #[.string ⟨#[120,45,108,105,110,107,115]⟩,.string ⟨#[120,45,115,108,111,116,115]⟩] 9)).heap[w1.heap.size]?=some (.cells #[.pointer (some ⟨D.blk,0,none⟩),.int .i64 0] 238 (0,0)):=by
  rw [((Below.refl (w1.alloc (.cells #[.pointer (some ⟨D.blk,0,none⟩),.int .i64 0] 238)).heap.size _).alloc (Nat.le_refl _) _).block _ (by rw [World.size_alloc]; omega)];exact heap_alloc_new w1 _
 have X:((w1.alloc (.cells #[.pointer (some ⟨D.blk,0,none⟩),.int .i64 0] 238)).alloc (.cells #[.string ⟨#[120,45,108,105,110,107,115]⟩,.string ⟨#[120,45,115,108,111,116,115]⟩] 9)).heap[w1.heap.size+1]?=some (.cells #[.string ⟨#[120,45,108,105,110,107,115]⟩,.string ⟨#[120,45,115,108,111,116,115]⟩] 9 (0,0)):=by
  have:=heap_alloc_new (w1.alloc (.cells #[.pointer (some ⟨D.blk,0,none⟩),.int .i64 0] 238)) (.cells #[.string ⟨#[120,45,108,105,110,107,115]⟩,.string ⟨#[120,45,115,108,111,116,115]⟩] 9);rw [World.size_alloc] at this; exact this
 generalize (w1.alloc (.cells #[.pointer (some ⟨D.blk,0,none⟩),.int .i64 0] 238)).alloc (.cells #[.string ⟨#[120,45,108,105,110,107,115]⟩,.string ⟨#[120,45,115,108,111,116,115]⟩] 9)=w2 at *
 have Y:DiskAt base w2 D:=(HD.o.below E.o).below ao;have bb:∀ k,D.foot k->k < w1.heap.size:=λk hk=>(HD.o.below E.o).lt hk
 have bc:=zq bb;have ap:=zq ao;have bd:=zq ba;have am:=zq X;have S0:Zq (∃ Dk,Made base D w2 w2 0 Dk):=⟨D,Y,Grows.refl HQ.o,Mod.refl _ _,λj hj=>.inl hj,λh=>absurd h (by decide),λh=>absurd h (by decide),λ_ _ _=>rfl⟩;obtain ⟨gi,F⟩:∃ g,w1.heap.size=g:=⟨_,rfl⟩;obtain ⟨gn,I⟩:∃ g,w1.heap.size+1=g:=⟨_,rfl⟩;have HG:Zq (w1.heap.size=gi/\w1.heap.size+1=gn):=⟨F,I⟩;rw [I,F];clear ao ba X Y bb F I;go_loopw [29] (λi wr=>∃ k:Nat,k<=2/\i=.int .i64 (k:Int)/\Zq (∃ Dk,Made base D w2 wr k Dk)) (λi _=>2 - (intOf i).toNat)
 case atStart=>exact ⟨0,by omega,rfl,S0⟩
 case round =>
  clear S0;obtain ⟨k,hk,rfl,HM⟩:=hrel;obtain ⟨Dk,A⟩:=HM.o;have I:=HG.o.2
  have Z:wr.heap[gn]?=some (.cells #[.string ⟨#[120,45,108,105,110,107,115]⟩,.string ⟨#[120,45,115,108,111,116,115]⟩] 9 (0,0)):=by
   rw [<- I,A.mod.block _ (Array.getElem?_eq_some_iff.1 am.o).1 (λh=>by have:=bc.o _ h; omega)]; exact am.o
  clear I HM;have n0:wr.cell? ⟨gn,0,none⟩=some (.string (S iy)):=by rw [Lib.cell_of_heap Z]; rfl
  have n1:wr.cell? ⟨gn,1,none⟩=some (.string (S ib)):=by rw [Lib.cell_of_heap Z]; rfl
  have J:=A.grows.blk;have al:base<=wr.heap.size:=by have h1:=b6.o; have R:=E.o.size; have h3:=ap.o.size; have h4:=A.mod.size; omega
  have cb:k=0\/k=1\/k=2:=by omega
  rcases cb with rfl | rfl | rfl
  ·
   have ab:iy∉Dk.files.map (·.1):=by rw [A.grows.names]; simpa using b2.o
   have HC:=zq (aby iy wr A.dsk A.grows.quiet ab al);rw [J] at HC;have ac:=zq A;clear A Z n1 J al ab hk;go_wp2_with fail;refine HC.o.mono ?_;rintro e w3 ⟨rfl,D',hd,hg,U,hf,B,N⟩;have HH:=zq (And.intro hd (And.intro hg (And.intro U (And.intro hf (And.intro B N)))));clear hd hg U hf B N HC n0;go_wp2_with fail;go_roundw
   case rel =>
    obtain ⟨hd,hg,U,hf,B,N⟩:=HH.o;have A:=ac.o;have hs:=A.mod.size;refine ⟨1,by omega,rfl,D',hd,A.grows.trans hg,iw A.mod U A.foot,λj hj=>(hf j hj).elim (A.foot j) λh=>.inr (by omega),λh=>absurd h (by decide),λ_=>B,λm h1 R=>(N m h1).trans (A.other m h1 R)⟩
   case measure=>simp [intOf]
  ·
   have ab:ib∉Dk.files.map (·.1):=by
    rw [A.grows.names];intro h
    rcases List.mem_append.1 h with h | h
    . exact b3.o h
    . revert h; decide
   have HC:=zq (aby ib wr A.dsk A.grows.quiet ab al);rw [J] at HC;have ac:=zq A;clear A Z n0 J al ab hk;go_wp2_with fail;refine HC.o.mono ?_;rintro e w3 ⟨rfl,D',hd,hg,U,hf,O,N⟩;have HH:=zq (And.intro hd (And.intro hg (And.intro U (And.intro hf (And.intro O N)))));clear hd hg U hf N O HC n1;go_wp2_with fail;go_roundw
   case rel =>
    obtain ⟨hd,hg,U,hf,O,N⟩:=HH.o;have A:=ac.o;have hs:=A.mod.size;refine ⟨2,by omega,rfl,D',hd,A.grows.trans hg,iw A.mod U A.foot,λj hj=>(hf j hj).elim (A.foot j) λh=>.inr (by omega),λ_=>O,λ_=>by rw [N iy (by decide)]; exact A.findL (by omega),λm h1 R=>(N m R).trans (A.other m h1 R)⟩
   case measure=>simp [intOf]
  ·
   obtain ⟨f,bj,a6⟩:=A.find rfl;have cc:=b7.o wr;have cd:=b8.o wr;have bk:=A.grows.waits;have bl:=A.grows.room;have HW:=zq (λ(w3:World) (hb:Below wr.heap.size wr w3)=>agd ib f (uw 24) w3 (A.dsk.below hb) A.grows.quiet bj 0 (by rw [a6]; rfl) (by unfold uw; simp) (by unfold uw; simp) (by rw [bl]; unfold uw; have:=HR.o; simp; omega) (by rw [bk]; have:=b5.o; omega) (by have h4:=hb.size; omega));rw [J] at HW;have ac:=zq A;have bm:=a6;clear A Z n0 n1 J hk bj a6 bk bl;go_wp2_with fail;refine (HW.o _ ((Below.refl _ _).alloc (Nat.le_refl _) _)).mono ?_;rintro e w3 ⟨rfl,D2,Y,bo,bp,br,an,bs⟩
   have cf:Zq (∃ f':FileD,D2.find ib=some f'/\f'.now.length=24):=by
    obtain ⟨f',a1,a2⟩:=an;exact ⟨f',a1,by rw [a2,bm]; unfold uw; simp⟩
   have HH:=zq (And.intro Y (And.intro bo (And.intro bp (And.intro br bs))));clear Y bo bp br an bs HW cc cd;go_wp2_with fail;go_ret2;obtain ⟨hd,hg,U,hf,N⟩:=HH.o;have A:=ac.o;have hs:=A.mod.size;have F:=HG.o.1;have cs:=E.o.size;have cv:=ap.o.size;have cg:=U.size;rw [World.size_alloc] at cg;have hi:gi < w2.heap.size:=by rw [<- F]; exact (Array.getElem?_eq_some_iff.1 bd.o).1
   have bw:Mod D.foot w2 w3:=iw A.mod ((Mod.of_below (M:=Dk.foot) ((Below.refl _ _).alloc (Nat.le_refl _) _)).trans U) A.foot;have bz:¬ D.foot gi:=λh=>by have:=bc.o _ h; omega
   have O:∀ j,D2.foot j->(D.foot j\/w.heap.size<=j)/\j≠gi:=λj hj=>by
    rcases hf j hj with h | h
    . rcases A.foot j h with R | R
      . exact ⟨.inl R,λe=>bz (e ▸ R)⟩
      . exact ⟨.inr (by omega),λe=>by omega⟩
    . rw [World.size_alloc] at h
      exact ⟨.inr (by omega),λe=>by omega⟩
   refine ⟨gi,rfl,?_,by omega,D2,hd,?_,?_,O,λm h1 R=>(N m R).trans (A.other m h1 R),cf.o,?_⟩
   . rw [bw.block gi hi bz,<- F]; exact bd.o
   . have:=A.grows.trans hg
     simpa [uw] using this
   . exact (Mod.of_below (E.o.trans (ap.o.mono E.o.size))).trans bw
   . obtain ⟨g,g1,g2⟩:=A.findL (by omega)
     exact ⟨g,by rw [N iy (by decide)]; exact g1,by rw [g2]; rfl⟩
end CacheW
namespace TopW
open Go.RowKit Go.MapKept OctMath DskW NameMath NameW
def RowT (w:World) (a:Option Addr) (l:List (List UInt8×Nat)):Prop:=∀ (k:Nat) (h:k < l.length),∃ g,a=some ⟨g,0,none⟩/\g < w.heap.size/\w.cell? ⟨g,k * 2,none⟩=some (.string (S l[k].1))/\w.cell? ⟨g,k * 2+1,none⟩=some (.int .i64 (l[k].2:Int))
theorem RowT.below {w w':World} {a:Option Addr} {l:List (List UInt8×Nat)} (h:RowT w a l) (hb:Below w.heap.size w w'):RowT w' a l:=by
 intro k hk;obtain ⟨g,e,A,h1,B⟩:=h k hk;exact ⟨g,e,Nat.lt_of_lt_of_le A hb.size,by rw [hb.cell A]; exact h1,by rw [hb.cell A]; exact B⟩
theorem amf (x n:List UInt8) (q:Nat) (bx:Nat) (w:World) (hc:w.cell? ⟨bx,0,none⟩=some (.string (S n))) :
 Calls Tryz.prog 96 #[.agg #[.string (S x),.int .i64 (q:Int)],.pointer (some ⟨bx,0,none⟩)] w λe w'=>e=.returned (.bool (decide (x=n)))/\Below w.heap.size w w':=by
 have hb:Zq (Below w.heap.size w (w.alloc (.cells #[.string (S x),.int .i64 (q:Int)] 113))):=(Below.refl _ _).alloc (Nat.le_refl _) _;have A:(w.alloc (.cells #[.string (S x),.int .i64 (q:Int)] 113)).cell? ⟨bx,0,none⟩=some (.string (S n)):=by rw [hb.o.cell (ay hc)]; exact hc
 have B:Zq (((S x).toList == (S n).toList)=decide (x=n)):=by
  show _=_;rw [DskW.S_toList,DskW.S_toList]
  by_cases h:x=n <;> simp [h]
 clear hc;go_enter Tryz.func96,Tryz.ntmps96;go_wp2_with fail;go_ret;rw [<- B.o];exact ⟨rfl,hb.o⟩
def aeb (n:List UInt8):List (List UInt8×Nat)->Nat->Int
 | [],_ => -1
 | x :: l,i=>if x.1=n then (i:Int) else aeb n l (i+1)
theorem ahm (n:List UInt8):∀ (l:List (List UInt8×Nat)) (k i:Nat) (h:k < l.length),(∀ j (A:j < k),(l[j]'(by omega)).1≠n)->l[k].1=n->aeb n l i=((i+k:Nat):Int)
 | x :: l,0,i,h,_,he=>by show (if x.1=n then (i:Int) else _)=_; rw [if_pos (show x.1=n from he)]; rfl
 | x :: l,k+1,i,h,hn,he=>by
   show (if x.1=n then (i:Int) else aeb n l (i+1))=_;rw [if_neg (show ¬ x.1=n from hn 0 (by omega)),ahm n l k (i+1) (by simpa using h) (λj A=>hn (j+1) (by omega)) he];congr 1; omega
theorem afo (n:List UInt8):∀ (l:List (List UInt8×Nat)) (i:Nat),(∀ x∈l,x.1≠n)->aeb n l i = -1
 | [],_,_=>rfl
 | x :: l,i,h=>by show (if x.1=n then (i:Int) else aeb n l (i+1))=_; rw [if_neg (h x (.head _)),afo n l (i+1) (λy A=>h y (.tail _ A))]
theorem aqx (a:Option Addr) (cp:Nat) (l:List (List UInt8×Nat)) (I:l.length<=1048576) (bx:Nat) (n:List UInt8) (w:World) (hr:RowT w a l) (hs:w.cell? ⟨bx,0,none⟩=some (.string (S n))) :
 Calls Tryz.prog 168 #[.slice a l.length cp,.func (.func 96) #[] #[.pointer (some ⟨bx,0,none⟩)]] w λe w'=>e=.returned (.int .i64 (aeb n l 0))/\Below w.heap.size w w':=by
 have U:=zq hr;have O:=zq hs;clear hr hs;go_enter Tryz.func168,Tryz.ntmps168;go_wp2_with fail;go_loopw [8] (λi wr=>∃ k:Nat,k<=l.length/\i=.int .i64 (k:Int)/\Zq (∀ x∈l.take k,x.1≠n)/\Zq (Below w.heap.size w wr)) (λi _=>l.length+1 - (intOf i).toNat)
 case atStart=>exact ⟨0,by omega,rfl,λx I=>by simp at I,Below.refl _ _⟩
 case round =>
  obtain ⟨k,hk,rfl,J,B⟩:=hrel
  by_cases hlt:k < l.length
  ·
   obtain ⟨g,rfl,X,h1,R⟩:=(U.o.below B.o) k hlt;have A:=zq (amf l[k].1 n l[k].2 bx wr (by rw [B.o.cell (ay O.o)]; exact O.o));have E:l.take (k+1)=l.take k++[l[k]]:=List.take_succ_eq_append_getElem hlt
   by_cases he:l[k].1=n
   ·
    have M:Zq (aeb n l 0=(k:Int)):=by
     show _=_;rw [ahm n l k 0 hlt (λj Y=>J.o _ (List.mem_take_iff_getElem.2 ⟨j,by omega,rfl⟩)) he,Nat.zero_add]
    rw [decide_eq_true he] at A;clear E he;go_wp2_with fail;refine A.o.mono ?_;rintro e w2 ⟨rfl,hb⟩;have F:=zq (B.o.trans (hb.mono B.o.size));clear hb A h1 R;go_wp2_with fail;go_ret;rw [M.o];exact ⟨rfl,F.o⟩
   ·
    have N:Zq (∀ x∈l.take (k+1),x.1≠n):=by
     show ∀ x∈l.take (k+1),x.1≠n
     rw [E];intro x I
     rcases List.mem_append.1 I with h | h
     . exact J.o x h
     . rw [List.mem_singleton] at h; subst h; exact he
    rw [decide_eq_false he] at A;clear E he;go_wp2_with fail;refine A.o.mono ?_;rintro e w2 ⟨rfl,hb⟩;have F:=zq (B.o.trans (hb.mono B.o.size));clear hb A h1 R;go_wp2_with fail;go_roundw
    case rel=>exact ⟨k+1,by omega,by go_num,N,F⟩
    case measure=>simp [intOf]; omega
  ·
   obtain rfl:k=l.length:=by omega
   have M:Zq (aeb n l 0 = -1):=by
    show _=_;have:=J.o;rw [List.take_length] at this;exact afo n l 0 this
   go_wp2_with fail;go_ret;rw [M.o];exact ⟨rfl,B.o⟩
theorem akp (n:List UInt8):∀ (l:List (List UInt8×Nat)) (i:Nat),decide (0<=aeb n l i)=l.any λx=>decide (x.1=n)
 | [],_=>rfl
 | x :: l,i=>by
   show decide (0<=if x.1=n then (i:Int) else aeb n l (i+1))=(decide (x.1=n) || _)
   by_cases h:x.1=n
   . rw [if_pos h,decide_eq_true h,Bool.true_or]; exact decide_eq_true (by omega)
   . rw [if_neg h,decide_eq_false h,Bool.false_or]; exact akp n l (i+1)
theorem ajo (a:Option Addr) (cp:Nat) (l:List (List UInt8×Nat)) (hx:l.length<=1048576) (bx:Nat) (n:List UInt8) (w:World) (hr:RowT w a l) (hs:w.cell? ⟨bx,0,none⟩=some (.string (S n))) :
 Calls Tryz.prog 98 #[.slice a l.length cp,.func (.func 96) #[] #[.pointer (some ⟨bx,0,none⟩)]] w λe w'=>e=.returned (.bool (l.any λx=>decide (x.1=n)))/\Below w.heap.size w w':=by
 have A:=zq (aqx a cp l hx bx n w hr hs);have B:=zq (akp n l 0);generalize aeb n l 0=r at *
 clear hr hs;go_enter Tryz.func98,Tryz.ntmps98;go_wp2_with fail;refine A.o.mono ?_;rintro e w2 ⟨rfl,hb⟩;have E:=zq hb;clear hb A;go_wp2_with fail;go_ret;rw [<- B.o];exact ⟨rfl,E.o⟩
def qo (l:List (List UInt8×Nat)) (n:List UInt8) (q:Int):Int:=if ik n=false then 11 else if q < 1\/3 < q then 1 else if (l.any λx=>decide (x.1=n))=true then 10 else if 6<=l.length then 6 else 0
theorem right_any (a:Option Addr) (cp:Nat) (l:List (List UInt8×Nat)) (hx:l.length<=1048576) (n:List UInt8) (hn:n.length<=1099511627776) (q:Int) (w:World) (hr:RowT w a l) :
 Calls Tryz.prog 41 #[.slice a l.length cp,.agg #[.string (S n),.int .i64 q]] w λe w'=>e=.returned (.int .i64 (qo l n q))/\Below w.heap.size w w':=by
 have I:Zq (Below w.heap.size w (w.alloc (.cells #[.string (S n),.int .i64 q] 113))):=(Below.refl _ _).alloc (Nat.le_refl _) _;have R:Zq (qo l n q=if ik n=false then 11 else if q < 1\/3 < q then 1 else if (l.any λx=>decide (x.1=n))=true then 10 else if 6<=l.length then 6 else 0):=rfl;have HP:=zq (λw=>aar n hn w);have hh:=heap_alloc_new w (.cells #[.string (S n),.int .i64 q] 113);have E:=zq hh;have U:=zq (hr.below I.o);generalize ik n=pl at *
 clear hr hh;go_enter Tryz.func41,Tryz.ntmps41;go_upto_region 1 with fail
 generalize w.alloc (.cells #[.string (S n),.int .i64 q] 113)=w1 at *
 obtain ⟨A,X⟩:∃ A,w.heap.size=A:=⟨_,rfl⟩;rw [X] at E ⊢;have B:=zq X;clear X;have c0:w1.cell? ⟨A,0,none⟩=some (.string (S n)):=by rw [Lib.cell_of_heap E.o]; rfl
 go_wp2_with fail;refine (HP.o w1).mono ?_;rintro e w2 ⟨rfl,hb⟩;have F:=zq (I.o.trans (hb.mono I.o.size));have J:w2.heap[A]?=_:=(hb.block A (Array.getElem?_eq_some_iff.1 E.o).1).trans E.o;have Y:=zq J;have Z:=zq (U.o.below hb);have d1:w2.cell? ⟨A,1,none⟩=some (.int .i64 q):=by rw [Lib.cell_of_heap J]; rfl
 clear hb J HP c0 E I
 cases pl
 ·
  go_wp2_with fail;go_ret;rw [R.o,<- B.o];exact ⟨rfl,F.o⟩
 by_cases hq1:q < 1
 ·
  have hd:decide (q < 1)=true:=decide_eq_true hq1;have M:Zq (qo l n q=1):=by show _=_; rw [R.o,if_neg (by decide),if_pos (.inl hq1)]
  clear hq1;go_wp2_with fail;go_ret;rw [M.o,<- B.o];exact ⟨rfl,F.o⟩
 have al:decide (q < 1)=false:=decide_eq_false hq1
 by_cases hq3:3 < q
 ·
  have hd:decide (3 < q)=true:=decide_eq_true hq3;have M:Zq (qo l n q=1):=by show _=_; rw [R.o,if_neg (by decide),if_pos (.inr hq3)]
  clear hq1 hq3;go_wp2_with fail;go_ret;rw [M.o,<- B.o];exact ⟨rfl,F.o⟩
 have am:decide (3 < q)=false:=decide_eq_false hq3
 have M:Zq (qo l n q=if (l.any λx=>decide (x.1=n))=true then 10 else if 6<=l.length then 6 else 0):=by
  show _=_;rw [R.o,if_neg (by decide),if_neg (by omega)]
 have HC:=zq (ajo a cp l hx A n w2 Z.o (by rw [Lib.cell_of_heap Y.o]; rfl));clear hq1 hq3;generalize (l.any λx=>decide (x.1=n))=an at *
 go_wp2_with fail;refine HC.o.mono ?_;rintro e w3 ⟨rfl,hb⟩;have N:=zq (F.o.trans (hb.mono F.o.size));clear hb HC
 cases an
 ·
  by_cases h6:6<=l.length
  ·
   have ab:decide ((6:Int)<=(l.length:Int))=true:=decide_eq_true (by omega);have O:Zq (qo l n q=6):=by show _=_; rw [M.o,if_neg (by decide),if_pos h6]
   clear h6;go_wp2_with fail;go_ret;rw [O.o,<- B.o];exact ⟨rfl,N.o⟩
  ·
   have ab:decide ((6:Int)<=(l.length:Int))=false:=decide_eq_false (by omega);have O:Zq (qo l n q=0):=by show _=_; rw [M.o,if_neg (by decide),if_neg h6]
   clear h6;go_wp2_with fail;go_ret;rw [O.o,<- B.o];exact ⟨rfl,N.o⟩
 ·
  go_wp2_with fail;go_ret;rw [M.o,<- B.o];exact ⟨rfl,N.o⟩
def ja (l:List (List UInt8×Nat)):List Value:=l.flatMap λx=>[.string (S x.1),.int .i64 (x.2:Int)]
theorem ajp (l:List (List UInt8×Nat)):(ja l).length=l.length * 2:=by
 unfold ja
 induction l with
 | nil=>rfl
 | cons x l ih=>simp only [List.flatMap_cons,List.length_append,ih,List.length_cons,List.length_nil]; omega
theorem abb:∀ (l:List (List UInt8×Nat)) (k:Nat) (h:k < l.length),(ja l)[k * 2]?=some (.string (S l[k].1))/\(ja l)[k * 2+1]?=some (.int .i64 (l[k].2:Int))
 | x :: l,0,_=>⟨rfl,rfl⟩
 | x :: l,k+1,h=>by
   have A:=abb l k (by simpa using h);have e:ja (x :: l)=.string (S x.1) :: .int .i64 (x.2:Int) :: ja l:=rfl;rw [e,show (k+1) * 2=k * 2+2 by omega];exact A
theorem RowT.own {base:Nat} {w:World} {v:Value} {l:List (List UInt8×Nat)} (h:w.ownsRow base 113 2 v l.length (ja l)):∃ a cp,v=.slice a l.length cp/\RowT w a l:=by
 rcases h.2 with ⟨rfl,h0⟩ | ⟨g,cap,cur,rfl,hb,hg,hn,hm,hc,ht⟩
 . exact ⟨none,0,by rw [h0],λk hk=>by omega⟩
 ·
  refine ⟨_,_,rfl,λk hk=>⟨g,rfl,(Array.getElem?_eq_some_iff.1 hg).1,?_,?_⟩⟩
  all_goals
   rw [Lib.cell_of_heap hg]
  . have h1:=(abb l k hk).1
    rw [<- ht,List.getElem?_take,if_pos (by omega)] at h1
    simpa using h1
  . have h1:=(abb l k hk).2
    rw [<- ht,List.getElem?_take,if_pos (by omega)] at h1
    simpa using h1
open OctW
theorem ahn {l:List (List UInt8×Nat)} {n:List UInt8} {q:Int} (h:qo l n q=0):l.length < 6:=by
 unfold qo at h
 split at h
 . cases h
 ·
  split at h
  . cases h
  ·
   split at h
   . cases h
   . split at h
     . cases h
     . omega
end TopW
namespace StoW
open Go.RowKit Go.MapKept OctMath RecMath RecW TapeMath DskW SegW MapG TapeW PendW
structure Lasts (base B:Nat) (w w':World) (D:DiskD) (its:List TapeMath.Item) (b:Nat) (T:TapeD):Prop where
 tape:TapeAt base w' T
 its:T.its=its
 b:T.R.b=b
 syn:T.R.synced=T.R.e
 waits:T.D.waits=[]
 quiet:Quiet T.D
 dblk:T.D.blk=D.blk
 dfoot:∀ k,T.D.foot k↔D.foot k
 find:∀ n,(T.D.find n).isSome=(D.find n).isSome
 room:T.D.room=D.room
 fresh:∀ k,T.O.foot k\/T.R.foot k->w.heap.size<=k
 mod:Mod (λk=>D.foot k\/k=B) w w'
 kept:∀ n f,D.find n=some f->∃ f',T.D.find n=some f'/\f'.now=f.now
theorem Lasts.of {base B:Nat} {w w':World} {D:DiskD} {its:List TapeMath.Item} {b:Nat} {T:TapeD} (h:aog base w w' D its b T):Lasts base B w w' D its b T :=
 { h with mod:=h.mod.mono λk _ hk=>.inl hk }
theorem Lasts.then {base B:Nat} {w w' w2:World} {D:DiskD} {its:List TapeMath.Item} {b:Nat} {T:TapeD} (h:Lasts base B w w' D its b T) (hm:Mod (λk=>k=B) w' w2) (hB:B < w.heap.size) (hBD:¬ D.foot B):Lasts base B w w2 D its b T :=
 { h with
  tape:=h.tape.mod hm λk hk e=>by
   subst e
   rcases hk with h2 | h2 | h2
   . have:=h.fresh _ (.inl h2); omega
   . exact hBD ((h.dfoot _).1 h2)
   . have:=h.fresh _ (.inr h2); omega
  mod:=h.mod.trans (hm.mono λk _ hk=>.inr hk) }
theorem Lasts.none {base B:Nat} {w w':World} {D:DiskD} {its:List TapeMath.Item} {b:Nat} {T:TapeD} (h:Lasts base B w w' D its b T) {n:List UInt8} (hn:D.find n=none):T.D.find n=none:=by
 have:=h.find n;rw [hn] at this
 cases hf:T.D.find n with
 | none=>rfl
 | some f=>rw [hf] at this; cases this
theorem amg {M:Nat->Prop} {u v:World} (h:Mod M u v) {b:Nat} {o:Obj} (hb:u.heap[b]?=some o) (hM:¬ M b):v.heap[b]?=some o :=
 (h.block b (Array.getElem?_eq_some_iff.1 hb).1 hM).trans hb
theorem Lasts.own {w:World} {n k sz:Nat} {e:TypeId} {v:Value} {xs:List Value} (h:w.ownsRow n e sz v k xs) {g:Nat} (hg:v.ownBlock=some g):n<=g/\∃ cur,w.heap[g]?=some (.cells cur e (0,0)):=by
 rcases h.2 with ⟨rfl,_⟩ | ⟨g',cap,cur,rfl,hb,h,_⟩
 . cases hg
 . injection hg with hg
   subst hg;exact ⟨hb,cur,h⟩
def aho (D:DiskD) (tl:List (List UInt8×Nat)):Prop:=D.find TopW.jk=none/\tl=[]
theorem ajq {base:Nat} {D:DiskD} (tl:List (List UInt8×Nat)) (w:World) (h:DiskAt base w D) (hup:D.down=false) (hl:aho D tl) :
 Calls Tryz.prog 80 #[.pointer (some ⟨D.blk,0,none⟩)] w λe w'=>∃ b v,e=.returned (.tuple #[.pointer (some ⟨b,0,none⟩),.int .i64 0])/\Below w.heap.size w w'/\w.heap.size<=b/\w'.heap[b]?=some (.cells #[.pointer (some ⟨D.blk,0,none⟩),v] 115 (0,0))/\w'.ownsRow w.heap.size 113 2 v tl.length (TopW.ja tl):=by
 obtain ⟨A,rfl⟩:=hl;exact (TopW.ahj w h hup A).mono λe w' ⟨b,k1,B,E,F⟩=>⟨b,_,k1,B,E,F,⟨rfl,.inl ⟨rfl,rfl⟩⟩⟩
theorem Lasts.tab {base B:Nat} {w w':World} {D:DiskD} {its:List TapeMath.Item} {b:Nat} {T:TapeD} (h:Lasts base B w w' D its b T) {tl:List (List UInt8×Nat)} (hl:aho D tl):aho T.D tl:=⟨h.none hl.1,hl.2⟩
def PB (b3 b4:Nat) (v:Value) (k:Nat):Prop:=k=b3\/k=b4\/v.ownBlock=some k
structure Pair (w:World) (n b3 b4 dk:Nat) (v:Value) (tl:List (List UInt8×Nat)) (T:TapeD):Prop where
 t:w.heap[b3]?=some (.cells #[.pointer (some ⟨dk,0,none⟩),v] 115 (0,0))
 r:w.ownsRow n 113 2 v tl.length (TopW.ja tl)
 g:w.heap[b4]?=some (.cells #[.pointer (some ⟨dk,0,none⟩),.slice none 0 0] 88 (0,0))
 lo:n<=b3/\n<=b4/\b3≠b4
 away:∀ k,T.foot k->¬ PB b3 b4 v k
theorem Pair.lo_all {w:World} {n b3 b4 dk:Nat} {v:Value} {tl:List (List UInt8×Nat)} {T:TapeD} (h:Pair w n b3 b4 dk v tl T) {k:Nat} (hk:PB b3 b4 v k):n<=k/\k < w.heap.size:=by
 rcases hk with e | e | e
 . exact ⟨e ▸ h.lo.1,e ▸ (Array.getElem?_eq_some_iff.1 h.t).1⟩
 . exact ⟨e ▸ h.lo.2.1,e ▸ (Array.getElem?_eq_some_iff.1 h.g).1⟩
 . obtain ⟨h1,cur,A⟩:=Lasts.own h.r e
   exact ⟨h1,(Array.getElem?_eq_some_iff.1 A).1⟩
theorem Pair.own {w:World} {n b3 b4 dk:Nat} {v:Value} {tl:List (List UInt8×Nat)} {T:TapeD} (h:Pair w n b3 b4 dk v tl T) {k:Nat} (hk:v.ownBlock=some k):k≠b3/\k≠b4:=by
 obtain ⟨_,cur,A⟩:=Lasts.own h.r hk;refine ⟨λe=>?_,λe=>?_⟩
 ·
  rw [e,h.t] at A;injection A with A
  injection A with _ A
  exact absurd A (by decide)
 ·
  rw [e,h.g] at A;injection A with A
  injection A with _ A
  exact absurd A (by decide)
theorem Pair.mod {w w':World} {n b3 b4 dk:Nat} {v:Value} {tl:List (List UInt8×Nat)} {T:TapeD} {M:Nat->Prop} (h:Pair w n b3 b4 dk v tl T) (hm:Mod M w w') (hM:∀ k,PB b3 b4 v k->¬ M k):Pair w' n b3 b4 dk v tl T :=
 { h with t:=(hm.block _ (Array.getElem?_eq_some_iff.1 h.t).1 (hM _ (.inl rfl))).trans h.t,g:=(hm.block _ (Array.getElem?_eq_some_iff.1 h.g).1 (hM _ (.inr (.inl rfl)))).trans h.g,r:=SegW.ownsRow_mod h.r hm λk hk=>hM k (.inr (.inr hk)) }
theorem ahp {base B:Nat} {D:DiskD} {R:SegD} {its:List TapeMath.Item} (v1 v2 v5 v6 v7 v8 v9:Value) (now:Int) (w:World) (h0n:R.n=0) (h0:its=[]) (hB:w.heap[B]?=some (.cells #[.pointer none,v1,v2,.pointer none,.pointer none,v5,v6,v7,v8,v9,.pointer (some ⟨D.blk,0,none⟩),.int .i64 now] 48 (0,0))) (hBD:¬ D.foot B)
 (hL:LaidOn D R) (hD:DiskAt base w D) (hq:Quiet D) (hfl:D.files.length<=1048576) (hnl:∀ p∈D.files,p.1.length<=1073741824) (hbase:base<=w.heap.size) (hT:TabB base w)
 (hh:R.head=qf) (hs:R.size=1024) (ht:R.txt=gq its) (hf:Fits R.b its) (hil:its.length<=1000000) (hwt:D.waits=[]) {tl:List (List UInt8×Nat)} (hn1:aho D tl) (hn2:D.find TopW.adb=none) :
 Calls Tryz.prog 36 #[.pointer (some ⟨B,0,none⟩)] w λe w'=>e=.returned (.int .i64 0)/\∃ T A b4 v,Lasts base B w w' D its R.b T/\Pair w' w.heap.size A b4 D.blk v tl T /\
  w'.heap[B]?=some (.cells #[.pointer (some ⟨T.O.blk,0,none⟩),v1,v2,.pointer (some ⟨A,0,none⟩),.pointer (some ⟨b4,0,none⟩),v5,v6,v7,v8,v9,.pointer (some ⟨D.blk,0,none⟩),.int .i64 now] 48 (0,0)):=by
 have ar:=zq (al4 w h0n h0 hL hD hq hfl hnl hbase hT hh hs ht hf hil hwt);have HB:=zq hB;have bp:=aa hB 10 _ rfl;have f0:=ae hB 0;have HD:=zq hD;have E:=zq hBD;have br:=zq hn1;have bs:=zq hn2;have F:=(Array.getElem?_eq_some_iff.1 hB).1;clear hB hL hD hq hfl hnl hbase hT hh hs ht hf hil hwt hn1 hn2 hBD;go_enter Tryz.func36,Tryz.ntmps36;go_wp2_with fail;refine ar.o.mono ?_;rintro e w2 ⟨T,rfl,Z⟩;have HO:=zq Z;have N:w2.heap[B]?=_:=(Z.mod.block B F E.o).trans HB.o;have bw:=zq N;have d0:=aa N 0 _ rfl;have bz:=aa N 10 _ rfl;have b0:=ae N 0;have I:Lasts base B w (w2.setCell ⟨B,0,none⟩ (.pointer (some ⟨T.O.blk,0,none⟩))) D its R.b T:=(Lasts.of Z).then ((Mod.refl (λk=>k=B) w2).setCell (.inl rfl) _) F E.o
 have ab:=zq I;have av:=zq (heap_setCell_same w2 B 0 _ _ (.pointer (some ⟨T.O.blk,0,none⟩)) bw.o);have am:=zq (ajq tl _ I.tape.whole.dsk I.quiet.up (I.tab br.o));rw [I.dblk] at am;clear Z N ar bp f0 I;go_wp2_with fail;refine am.o.mono ?_;rintro e w4 ⟨A,tv,rfl,an,a6,a7,ac⟩;have ao:=ab.o.then (Mod.of_below (M:=λk=>k=B) an) F E.o
 have cf:=zq ao;have U:w4.heap[B]?=_:=(an.block B (Array.getElem?_eq_some_iff.1 av.o).1).trans av.o;have b1:=zq U;have e3:=aa U 3 _ rfl;have b2:=aa U 10 _ rfl;have b5:=ae U 3;have J:Lasts base B w (w4.setCell ⟨B,3,none⟩ (.pointer (some ⟨A,0,none⟩))) D its R.b T:=ao.then ((Mod.refl (λk=>k=B) w4).setCell (.inl rfl) _) F E.o
 have ap:=zq J;have a8:=zq (heap_setCell_same w4 B 3 _ _ (.pointer (some ⟨A,0,none⟩)) b1.o);have ak:w.heap.size<=(w2.setCell ⟨B,0,none⟩ (.pointer (some ⟨T.O.blk,0,none⟩))).heap.size:=ab.o.mod.size;have ba:A≠B:=by omega
 have b6:Zq ((w4.setCell ⟨B,3,none⟩ (.pointer (some ⟨A,0,none⟩))).ownsRow w.heap.size 113 2 tv tl.length (TopW.ja tl)/\∀ k,tv.ownBlock=some k->(w2.setCell ⟨B,0,none⟩ (.pointer (some ⟨T.O.blk,0,none⟩))).heap.size<=k):=⟨SegW.ownsRow_mod (ahb ac ak) ((Mod.refl (λk=>k=B) w4).setCell (a:=⟨B,3,none⟩) (.inl rfl) _) (λk hk e=>by have:=az ac k hk; omega),λk hk=>az ac k hk⟩;have bb:Zq ((w4.setCell ⟨B,3,none⟩ (.pointer (some ⟨A,0,none⟩))).heap[A]?=some (.cells #[.pointer (some ⟨D.blk,0,none⟩),tv] 115 (0,0))):=amg ((Mod.refl (λk=>k=B) w4).setCell (.inl rfl) _) a7 ba;have H3:Zq ((∀ k,T.foot k->k < A)/\w.heap.size<=A/\A < (w4.setCell ⟨B,3,none⟩ (.pointer (some ⟨A,0,none⟩))).heap.size):=⟨λk hk=>Nat.lt_of_lt_of_le (ab.o.tape.lt hk) a6,by omega,(Array.getElem?_eq_some_iff.1 bb.o).1⟩;have X:=zq (TopW.ahk _ J.tape.whole.dsk J.quiet.up (J.none bs.o));rw [J.dblk] at X;clear an ao U am d0 bz b0 J a6 a7 ak ba ac;go_wp2_with fail;refine X.o.mono ?_;rintro e w6 ⟨b4,rfl,Y,bc,bd⟩;have bh:=ap.o.then (Mod.of_below (M:=λk=>k=B) Y) F E.o
 have b7:=zq bh;have ad:w6.heap[B]?=_:=(Y.block B (Array.getElem?_eq_some_iff.1 a8.o).1).trans a8.o;have b8:=zq ad;have bj:=bb.o;have h3:=H3.o;have h6:=ap.o.mod.size;have b9:b4≠B:=by omega
 obtain ⟨r3,bk⟩:=b6.o;have bl:∀ k,T.foot k->k < (w2.setCell ⟨B,0,none⟩ (.pointer (some ⟨T.O.blk,0,none⟩))).heap.size:=λk hk=>ab.o.tape.lt hk
 have cb:Zq (Pair (w6.setCell ⟨B,4,none⟩ (.pointer (some ⟨b4,0,none⟩))) w.heap.size A b4 D.blk tv tl T):=Pair.mod (M:=λk=>k=B) ⟨(Y.block A h3.2.2).trans bj,SegW.ownsRow_mod r3 (Mod.of_below (M:=λ_=>False) Y) (λ_ _ h=>h),bd,⟨h3.2.1,by omega,by omega⟩,λk hk h=>by
  rcases h with h | h | h
  . have:=h3.1 k hk; omega
  . have:=ap.o.tape.lt hk; omega
  . have:=bl k hk; have:=bk k h; omega⟩ ((Mod.refl (λk=>k=B) w6).setCell (.inl rfl) _) (λk hk e=>by
  rcases hk with h | h | h
  . omega
  . omega
  . have:=az r3 k h; omega)
 clear r3 bk bl;clear bj h3 h6 b9 bc bd;have g4:=aa ad 4 _ rfl;have ck:=ae ad 4;clear Y bh ad X e3 b2 b5;go_wp2_with fail;go_ret;exact ⟨rfl,T,A,b4,tv,b7.o.then ((Mod.refl (λk=>k=B) w6).setCell (.inl rfl) _) F E.o,cb.o,heap_setCell_same _ B 4 _ _ _ b8.o⟩
theorem ajr {base B:Nat} {D:DiskD} {cs:Array Value} (w:World) (hB:w.heap[B]?=some (.cells cs 48 (0,0))) (hc:cs[10]?=some (.pointer (some ⟨D.blk,0,none⟩))) (h:DiskAt base w D) (hup:D.down=false) (hn:D.find TopW.ahi=none) :
 Calls Tryz.prog 37 #[.pointer (some ⟨B,0,none⟩)] w λe w'=>e=.returned (.int .i64 0)/\Below w.heap.size w w':=by
 have E:=zq (TopW.acz w h hup hn);have A:=aa hB 10 _ hc;clear hB hc h hup hn;go_enter Tryz.func37,Tryz.ntmps37;go_wp2_with fail;refine E.o.mono ?_;rintro e w2 ⟨rfl,hb⟩;have F:Zq (Below w.heap.size w (w2.alloc (.cells #[.int .i64 0,.slice none 0 0] 169))):=hb.alloc hb.size _;clear hb E A;go_wp2_with fail;go_ret;exact ⟨rfl,F.o⟩
end StoW
namespace CqW
open Go.RowKit Go.MapKept OctMath DskW SegW MapG CacheW
def atd (v:Value):Prop:=∃ (t:List UInt8) (q:Int),v=.agg #[.string (S t),.int .i64 q]
theorem amh (s t:List UInt8) (a b:Int) (w:World):(Op.equal 143 (.agg #[.string (S s),.int .i64 a]) (.agg #[.string (S t),.int .i64 b])).run Tryz.prog w=.ok (decide (s=t) && a == b) w:=by
 have E:Tryz.prog.stoodInHeld 143=false:=by kernel_rfl
 have M:∀ x y:Int,(Op.equalIn 9999 3 (.int .i64 x) (.int .i64 y)).run Tryz.prog w=.ok (x == y) w:=λx y=>run_equalIn_int _ 9998 _ _ _ _ _ Tryz.underlying3
 have A:∀ x y:ByteArray,(Op.equalIn 9999 9 (.string x) (.string y)).run Tryz.prog w=.ok (x == y) w:=λx y=>by
  show (Op.equalIn (9998+1) _ _ _).run _ _=_;unfold Op.equalIn;simp [run_underlying Tryz.underlying9,Result.andThen]
 have F:∀ w,Sem.run Tryz.prog program w=.ok Tryz.prog w:=λ_=>rfl
 have I:(isAgg 3).run Tryz.prog w=.ok false w:=by kernel_rfl
 have J:(isAgg 9).run Tryz.prog w=.ok false w:=by kernel_rfl
 have B:(S s == S t)=decide (s=t):=by
  rw [Bool.eq_iff_iff,bytes_beq,decide_eq_true_iff];exact ⟨λh=>OctMath.S_inj h,λh=>by rw [h]⟩
 unfold Op.equal Op.maxDepth;show (Op.equalIn (9999+1) _ _ _).run _ _=_;unfold Op.equalIn;simp [go_sem,run_underlying Tryz.underlying143,Result.andThen,F,E,I,J,M,A,B]
 by_cases h1:s=t <;> by_cases h2:a=b <;> simp [h1,h2,M,A,B]
theorem aec:Keyed Tryz.prog 143 atd:=by
 refine Keyed.of_equal Tryz.underlying143 ?_ ?_ ?_ ?_
 . rintro _ _ ⟨s,a,rfl⟩ ⟨t,b,rfl⟩; rfl
 ·
  rintro _ _ ⟨s,a,rfl⟩ ⟨t,b,rfl⟩ w;refine ⟨_,amh s t a b w,?_⟩;simp only [Bool.and_eq_true,decide_eq_true_eq,beq_iff_eq]
  constructor
  . rintro ⟨rfl,rfl⟩; rfl
  ·
   intro h;injection h with h
   injection h with h
   injection h with h1 A
   injection h1 with h1
   injection A with A _
   injection A with _ A
   exact ⟨OctMath.S_inj h1,A⟩
 ·
  rintro _ ⟨s,a,rfl⟩ e w;have c1:(Instr.checkKey e 9999 9 (.string (S s))).run Tryz.prog w=.ok () w:=Go.MapKept.run_checkKey Tryz.underlying9 (k:=.string (S s)) trivial e 9998;have c2:(Instr.checkKey e 9999 3 (.int .i64 a)).run Tryz.prog w=.ok () w:=Go.MapKept.run_checkKey Tryz.underlying3 (k:=.int .i64 a) rfl e 9998;have B:(isAgg 3).run Tryz.prog w=.ok false w:=by kernel_rfl
  have E:(isAgg 9).run Tryz.prog w=.ok false w:=by kernel_rfl
  show (Instr.checkKey e (9999+1) _ _).run _ _=_;unfold Instr.checkKey;simp [go_sem,run_underlying Tryz.underlying143,Result.andThen,B,E,c1,c2]
 ·
  rintro _ ⟨s,a,rfl⟩;show Instr.sameBits (9999+1) _ _=true;unfold Instr.sameBits;have h1:Instr.sameBits 9999 (.string (S s)) (.string (S s))=true:=sameBits_self (d:=.string) (k:=.string (S s)) trivial 9999;have A:Instr.sameBits 9999 (.int .i64 a) (.int .i64 a)=true:=sameBits_self (d:=.int .i64) (k:=.int .i64 a) rfl 9999;simp [h1,A]
end CqW
namespace EntW
open Go.RowKit OctW OctMath
def Wid (w:World) (a:Option Addr) (ws:List (Nat×Int)):Prop:=∀ i (h:i < ws.length),∃ b off,a=some ⟨b,off,none⟩/\w.cell? ⟨b,off+i * 2,none⟩=some (.int .i64 (ws[i].1:Int))/\w.cell? ⟨b,off+i * 2+1,none⟩=some (.int .i64 ws[i].2)
def zu (ws:List (Nat×Int)):List UInt8:=ws.flatMap λp=>be p.1 p.2.toNat
def yg (ws:List (Nat×Int)):Bool:=decide (∀ p∈ws,fits p.1 p.2)
def uy (ws:List (Nat×Int)):List UInt8:=if yg ws then zu ws else []
theorem ami (ws:List (Nat×Int)) (k:Nat) (h:k < ws.length):zu (ws.take (k+1))=zu (ws.take k)++be ws[k].1 ws[k].2.toNat:=by
 unfold zu; rw [List.take_succ_eq_append_getElem h,List.flatMap_append]; simp
theorem aqy:∀ (ws:List (Nat×Int)),(∀ p∈ws,p.1<=7)->(zu ws).length<=7 * ws.length:=by
 intro ws
 induction ws with
 | nil=>intro _; simp [zu]
 | cons p ws ih =>
   intro h;have h1:=h p (List.mem_cons_self ..);have B:=ih (λq A=>h q (List.mem_cons_of_mem _ A));have:zu (p :: ws)=be p.1 p.2.toNat++zu ws:=by simp [zu]
   rw [this,List.length_append,bn,List.length_cons]; omega
theorem abz (n:Nat) (x:Int) (h1:1<=n) (h7:n<=7):ol (n:Int) [x]=if fits n x then (be n x.toNat,0) else ([],2):=by
 unfold ol;rw [if_neg (by omega)];have:(∀ y∈[x],fits ((n:Int)).toNat y)↔fits n x:=by simp
 by_cases h:fits n x
 . rw [if_pos (this.2 h),if_pos h]; simp [numsL]
 . rw [if_neg (λA=>h (this.1 A)),if_neg h]
theorem put_any (a:Option Addr) (cap:Nat) (ws:List (Nat×Int)) (hl:ws.length<=16) (J:∀ p∈ws,1<=p.1/\p.1<=7) (hx:∀ p∈ws,-9223372036854775808<=p.2/\p.2<=9223372036854775807) (W:World) (h:Wid W a ws) :
 Calls Tryz.prog 244 #[.slice a ws.length cap] W λe w'=>e=.returned (.tuple #[.string (S (uy ws)),.bool (yg ws)])/\Below W.heap.size W w':=by
 have HI:=zq h;have HW:=zq J;have HX:=zq hx;clear h J hx;go_enter Tryz.func244,Tryz.ntmps244;go_wp2_with fail;go_loopw [4,11] (λs i wr=>∃ k:Nat,k<=ws.length/\i=.int .i64 k/\s=.string (S (zu (ws.take k)))/\Zq (Below W.heap.size W wr)/\Zq (∀ p∈ws.take k,fits p.1 p.2)) (λ_ i _=>ws.length - (intOf i).toNat)
 case atStart=>exact ⟨0,by omega,rfl,rfl,Below.refl _ _,by simp [Zq]⟩
 case round =>
  obtain ⟨k,hk,rfl,rfl,B,HA⟩:=hrel
  by_cases hlt:k < ws.length
  ·
   obtain ⟨b,off,rfl,M,N⟩:=HI.o k hlt;rw [<- B.o.cell (ay M)] at M;rw [<- B.o.cell (ay N)] at N;have ak:=HW.o ws[k] (by simp);have al:=HX.o ws[k] (by simp);have O:=ami ws k hlt;have R:∀ y,y∈ws.take (k+1)↔y∈ws.take k\/y=ws[k]:=by intro y; rw [List.take_succ_eq_append_getElem hlt,List.mem_append,List.mem_singleton]
   have E:ws[k]∈ws:=by simp
   have F:=aqy (ws.take k) (λp hp=>(HW.o p (List.mem_of_mem_take hp)).2);rw [List.length_take] at F;generalize ws[k]=p at *
   obtain ⟨n,x⟩:=p;simp only at *
   obtain ⟨am,an⟩:=ak;obtain ⟨a6,a7⟩:=al;have ao:=zq O;have ap:=zq R;have U:=zq E;clear O R E;go_wp2_with fail
   have A:Ints ((wr.alloc (.cells #[.int .i64 (n:Int),.int .i64 x] 299)).alloc (.cells #[.int .i64 x] 3)) (some ⟨wr.heap.size+1,0,none⟩) [x]:=by
    intro i hi;have:i=0:=by simpa using hi
    subst this;refine ⟨_,_,rfl,?_⟩;have:=World.cell?_alloc_new (wr.alloc (.cells #[.int .i64 (n:Int),.int .i64 x] 299)) #[.int .i64 x] 3 0;simp only [World.size_alloc] at this;rw [this]; rfl
   have I:Zq (Below W.heap.size W ((wr.alloc (.cells #[.int .i64 (n:Int),.int .i64 x] 299)).alloc (.cells #[.int .i64 x] 3))):=(B.o.alloc B.o.size _).alloc (B.o.alloc B.o.size _).size _
   refine (nums_any (n:Int) (by omega) (by omega) _ 1 [x] (by simp) (λy X=>by
    have:y=x:=by simpa using X
    omega) _ A).mono ?_
   rintro e w3 ⟨rfl,Y⟩;have Z:Zq (Below W.heap.size W w3):=I.o.trans (Y.mono I.o.size);rw [abz n x am an];clear Y B I A
   by_cases hf:fits n x
   ·
    rw [if_pos hf];have HF:=zq hf;have bb:(S (zu (ws.take k))).size<=200:=by rw [au]; omega
    have bc:(S (be n x.toNat)).size<=7:=by rw [au,bn]; omega
    have ab:Zq (S (zu (ws.take k))++S (be n x.toNat)=S (zu (ws.take (k+1)))):=by rw [gu,ao.o]; rfl
    generalize S (zu (ws.take k))=s1 at *
    generalize S (be n x.toNat)=s2 at *
    clear hf F;go_wp2_with fail;rw [ab.o];go_wp2_with fail;go_roundw
    case rel =>
     refine ⟨k+1,by omega,by go_num,rfl,Z,λy X=>?_⟩
     rcases (ap.o y).1 X with X | rfl
     . exact HA.o y X
     . exact HF.o
    case measure=>simp [intOf]; omega
   ·
    rw [if_neg hf];have ho:Zq (yg ws=false):=decide_eq_false (λh=>hf (h _ U.o));have J:Zq (uy ws=[]):=by show _=_; unfold uy; rw [ho.o]; rfl
    clear hf F;go_wp2_with fail;go_ret2;rw [ho.o,J.o];exact ⟨rfl,Z.o⟩
  ·
   have ek:k=ws.length:=by omega
   subst ek;rw [List.take_length] at HA;rw [List.take_length];have ho:Zq (yg ws=true):=decide_eq_true HA.o;have J:Zq (uy ws=zu ws):=by show _=_; unfold uy; rw [ho.o]; rfl
   go_wp2_with fail;go_ret2;rw [ho.o,J.o];exact ⟨rfl,B.o⟩
def fu (a b c d:Int):List (Nat×Int):=[(6,a),(2,b),(5,c),(7,d)]
theorem amj (a b c d:Int) (ha : -9223372036854775808<=a/\a<=9223372036854775807) (hb : -9223372036854775808<=b/\b<=9223372036854775807) (hc : -9223372036854775808<=c/\c<=9223372036854775807) (hd : -9223372036854775808<=d/\d<=9223372036854775807) (W:World) :
 Calls Tryz.prog 194 #[.agg #[.int .i64 a,.int .i64 b,.int .i64 c,.int .i64 d]] W λe w'=>e=.returned (.tuple #[.string (S (uy (fu a b c d))),.bool (yg (fu a b c d))])/\Below W.heap.size W w':=by
 have M:Zq (∀ p∈fu a b c d,-9223372036854775808<=p.2/\p.2<=9223372036854775807):=by
  intro p hp;simp only [fu,List.mem_cons,List.not_mem_nil,or_false] at hp
  rcases hp with rfl | rfl | rfl | rfl <;> assumption
 clear ha hb hc hd;go_enter Tryz.func194,Tryz.ntmps194;go_wp2_with fail;generalize hw1:(W.alloc (.cells #[.int .i64 a,.int .i64 b,.int .i64 c,.int .i64 d] 95))=w1 at *
 have N:w1.heap.size=W.heap.size+1:=by rw [<- hw1]; simp
 have J:Zq (Below W.heap.size W w1):=by rw [<- hw1]; exact (Below.refl _ W).alloc (Nat.le_refl _) _
 clear hw1;rw [<- N]
 have A:Wid (w1.alloc (.cells #[.int .i64 6,.int .i64 a,.int .i64 2,.int .i64 b,.int .i64 5,.int .i64 c,.int .i64 7,.int .i64 d] 299)) (some ⟨w1.heap.size,0,none⟩) (fu a b c d):=by
  intro i E;have E:i < 4:=E;refine ⟨_,_,rfl,?_,?_⟩
  iterate 2
   ·
    rw [World.cell?_alloc_new]
    match i,E with
    | 0,_=>rfl
    | 1,_=>rfl
    | 2,_=>rfl
    | 3,_=>rfl
 have B:Zq (Below W.heap.size W (w1.alloc (.cells #[.int .i64 6,.int .i64 a,.int .i64 2,.int .i64 b,.int .i64 5,.int .i64 c,.int .i64 7,.int .i64 d] 299))):=J.o.alloc J.o.size _;refine (put_any _ 4 (fu a b c d) (by simp [fu]) (by intro p hp; simp only [fu,List.mem_cons,List.not_mem_nil,or_false] at hp; rcases hp with rfl | rfl | rfl | rfl <;> exact ⟨by simp,by simp⟩) M.o _ A).mono ?_;clear A;rintro e w2 ⟨rfl,F⟩;have I:Zq (Below W.heap.size W w2):=B.o.trans (F.mono B.o.size);go_wp2_with fail;go_ret2;exact ⟨rfl,I.o⟩
def qb (a b c d:Int):List (Nat×Int):=[(5,a),(6,b),(6,c),(3,d)]
theorem aoo (a b c d:Int) (ha : -9223372036854775808<=a/\a<=9223372036854775807) (hb : -9223372036854775808<=b/\b<=9223372036854775807) (hc : -9223372036854775808<=c/\c<=9223372036854775807) (hd : -9223372036854775808<=d/\d<=9223372036854775807) (W:World) :
 Calls Tryz.prog 197 #[.agg #[.int .i64 a,.int .i64 b,.int .i64 c,.int .i64 d]] W λe w'=>e=.returned (.tuple #[.string (S (uy (qb a b c d))),.bool (yg (qb a b c d))])/\Below W.heap.size W w':=by
 have M:Zq (∀ p∈qb a b c d,-9223372036854775808<=p.2/\p.2<=9223372036854775807):=by
  intro p hp;simp only [qb,List.mem_cons,List.not_mem_nil,or_false] at hp
  rcases hp with rfl | rfl | rfl | rfl <;> assumption
 clear ha hb hc hd;go_enter Tryz.func197,Tryz.ntmps197;go_wp2_with fail;generalize hw1:(W.alloc (.cells #[.int .i64 a,.int .i64 b,.int .i64 c,.int .i64 d] 287))=w1 at *
 have N:w1.heap.size=W.heap.size+1:=by rw [<- hw1]; simp
 have J:Zq (Below W.heap.size W w1):=by rw [<- hw1]; exact (Below.refl _ W).alloc (Nat.le_refl _) _
 clear hw1;rw [<- N]
 have A:Wid (w1.alloc (.cells #[.int .i64 5,.int .i64 a,.int .i64 6,.int .i64 b,.int .i64 6,.int .i64 c,.int .i64 3,.int .i64 d] 299)) (some ⟨w1.heap.size,0,none⟩) (qb a b c d):=by
  intro i E;have E:i < 4:=E;refine ⟨_,_,rfl,?_,?_⟩
  iterate 2
   ·
    rw [World.cell?_alloc_new]
    match i,E with
    | 0,_=>rfl
    | 1,_=>rfl
    | 2,_=>rfl
    | 3,_=>rfl
 have B:Zq (Below W.heap.size W (w1.alloc (.cells #[.int .i64 5,.int .i64 a,.int .i64 6,.int .i64 b,.int .i64 6,.int .i64 c,.int .i64 3,.int .i64 d] 299))):=J.o.alloc J.o.size _;refine (put_any _ 4 (qb a b c d) (by simp [qb]) (by intro p hp; simp only [qb,List.mem_cons,List.not_mem_nil,or_false] at hp; rcases hp with rfl | rfl | rfl | rfl <;> exact ⟨by simp,by simp⟩) M.o _ A).mono ?_;clear A;rintro e w2 ⟨rfl,F⟩;have I:Zq (Below W.heap.size W w2):=B.o.trans (F.mono B.o.size);go_wp2_with fail;go_ret2;exact ⟨rfl,I.o⟩
end EntW
end Go.Proofs.YtckjigopecocaaaGreatDoor
