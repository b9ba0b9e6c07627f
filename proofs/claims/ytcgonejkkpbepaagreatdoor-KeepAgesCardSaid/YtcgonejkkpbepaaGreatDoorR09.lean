/- The dispatcher looks at a message with its tag and its keys. And what follows. -/
import Derived.Test.YtcgonejkkpbepaaGreatDoorR08
import Derived.ArgAppend
import Derived.Lib.SliceRun
set_option linter.unusedVariables false
set_option linter.unusedSimpArgs false
set_option maxHeartbeats 25600000
set_option maxRecDepth 100000
namespace Go.Proofs.YtcgonejkkpbepaaGreatDoor
namespace StoW
open Go.RowKit Go.MapKept OctMath RecMath RecW TapeMath DskW SegW MapG TapeW PendW
def ar5 (w1:World) (t:List UInt8) (v:Value) (w:World):Prop:=∃ g,v=.slice (some ⟨g,0,none⟩) 1 1/\w.heap[g]?=some (.cells #[.string (S t)] 9 (0,0))/\w1.heap.size<=g
theorem aoc (t:List UInt8) (ht:t.length<=1048576) (g:Nat) (w:World) (h:w.heap[g]?=some (.cells #[.string (S t)] 9 (0,0))) :
 Calls Tryz.prog 68 #[.slice (some ⟨g,0,none⟩) 1 1] w λe w'=>e=.returned (.int .i64 ((NameW.ng [t]:Nat):Int))/\w'=w :=
 NameW.ag5 [t] (by simp) (λl A=>by rw [List.mem_singleton] at A; subst A; omega) (some ⟨g,0,none⟩) 1 w (λi B=>by
  obtain rfl:i=0:=by simpa using B
  exact ⟨g,0,rfl,aa h 0 _ rfl⟩)
theorem aod {base B:Nat} {T:OwnD} (id:Nat) (m:Msg) (q cb xb:Nat) (sz:Int) (d:Value) (a:Option Addr) (c:Nat) (W:World) (hT:OwnAt base W T) (hB:W.heap[B]?=some (.cells #[.pointer (some ⟨T.blk,0,none⟩),.pointer (some ⟨cb,0,none⟩),.pointer (some ⟨xb,0,none⟩),d] 91 (0,0)))
 (hsz:aag T.recs (id:Int)=sz) {M:Nat->Prop} {I:World->Nat->World->Prop} (hM:∀ k,M k->k < W.heap.size) (hBM:¬ M B) (κ:Int) (hκ:κ=1\/κ=3) (htl:m.tag.length<=1048576) (ao:m.keys.length<=1048576) (hv:Int) (hhv:((NameW.ng [m.tag]:Nat):Int)=hv)
 (hks:∀ w,Mod M W w->Strs w a (m.keys.map S)) (hdr:∀ U j w,I U j w->I U j w.drew)
 (hkey:∀ U j (h:j < m.keys.length) w,Below W.heap.size W U->I U j w->Mod M U w->Calls Tryz.prog 70 #[.pointer (some ⟨xb,0,none⟩),.string (S m.topic),.string (S m.keys[j]),.int .i64 (id:Int),.int .i64 m.born] w λe w'=>e=.returned (.int .i64 0)/\I U (j+1) w'/\Mod M U w')
 (hadd:∀ w,Below W.heap.size W w->Calls Tryz.prog 69 #[.pointer (some ⟨cb,0,none⟩),.string (S m.topic),.int .i64 (q:Int),.agg #[.int .i64 (id:Int),.int .i64 sz,.int .i64 hv,.int .i64 m.born]] w λe w'=>∃ p:Int,e=.returned (.tuple #[.int .i64 p,.int .i64 0])/\I w 0 w'/\Mod M w w') :
 Calls Tryz.prog 33 #[.pointer (some ⟨B,0,none⟩),.int .i64 (id:Int),.agg #[.int .i64 κ,.int .i64 (q:Int),.int .i64 m.due,.int .i64 m.retry,.int .i64 m.ref,.int .i64 m.born,.string (S m.topic),.string (S m.tag),.string (S m.body),.slice a m.keys.length c]] W λe w'=>e=.returned (.int .i64 0)/\(∃ U,Below W.heap.size W U/\I U m.keys.length w')/\Mod M W w':=by
 have ab:Zq (Below W.heap.size W (W.alloc (.cells #[.int .i64 κ,.int .i64 (q:Int),.int .i64 m.due,.int .i64 m.retry,.int .i64 m.ref,.int .i64 m.born,.string (S m.topic),.string (S m.tag),.string (S m.body),.slice a m.keys.length c] 69))):=(Below.refl _ W).alloc (Nat.le_refl _) _;have ac:Zq (RecW.Boxed (W.alloc (.cells #[.int .i64 κ,.int .i64 (q:Int),.int .i64 m.due,.int .i64 m.retry,.int .i64 m.ref,.int .i64 m.born,.string (S m.topic),.string (S m.tag),.string (S m.body),.slice a m.keys.length c] 69)) W.heap.size #[.int .i64 κ,.int .i64 (q:Int),.int .i64 m.due,.int .i64 m.retry,.int .i64 m.ref,.int .i64 m.born,.string (S m.topic),.string (S m.tag),.string (S m.body),.slice a m.keys.length c]):=RecW.Boxed.new W _ _;have ad:Zq ((W.alloc (.cells #[.int .i64 κ,.int .i64 (q:Int),.int .i64 m.due,.int .i64 m.retry,.int .i64 m.ref,.int .i64 m.born,.string (S m.topic),.string (S m.tag),.string (S m.body),.slice a m.keys.length c] 69)).heap.size=W.heap.size+1):=by exact Array.size_push _
 have ba:=zq (hT.below ab.o);have O:Zq ((W.alloc (.cells #[.int .i64 κ,.int .i64 (q:Int),.int .i64 m.due,.int .i64 m.retry,.int .i64 m.ref,.int .i64 m.born,.string (S m.topic),.string (S m.tag),.string (S m.body),.slice a m.keys.length c] 69)).heap[B]?=_):=(ab.o.block B (Array.getElem?_eq_some_iff.1 hB).1).trans hB;have b0:=zq hsz;have HM:=zq hM;have am:=zq hadd;have b3:=zq hBM;have b4:=zq hks;have b5:=zq hdr;have b6:=zq hkey;have b7:Zq (∀ g w,w.heap[g]?=some (.cells #[.string (S m.tag)] 9 (0,0))->Calls Tryz.prog 68 #[.slice (some ⟨g,0,none⟩) 1 1] w λe w'=>e=.returned (.int .i64 hv)/\w'=w):=λg w h=>by rw [<- hhv]; exact aoc m.tag htl g w h
 have b8:=zq ao;clear hT hB hsz hM hadd hBM htl ao hks hdr hkey hhv
 have b9:(κ != 1)=false\/((κ != 1)=true/\(κ != 3)=false):=by
  rcases hκ with h | h <;> subst h
  . exact .inl rfl
  . exact .inr ⟨rfl,rfl⟩
 clear hκ
 rcases b9 with κ1 | ⟨κ1,κ3⟩
 all_goals
  go_enter Tryz.func33,Tryz.ntmps33;go_upto_region 3 with fail
  generalize W.alloc (.cells #[.int .i64 κ,.int .i64 (q:Int),.int .i64 m.due,.int .i64 m.retry,.int .i64 m.ref,.int .i64 m.born,.string (S m.topic),.string (S m.tag),.string (S m.body),.slice a m.keys.length c] 69)=w1 at *
  obtain ⟨A,hA⟩:∃ A,W.heap.size=A:=⟨_,rfl⟩;rw [hA] at ac ad;have ap:=zq hA
  have bb:Zq (∀ w,RecW.ExtR w1.drew w->Calls Tryz.prog 34 #[.pointer (some ⟨T.blk,0,none⟩),.int .i64 (id:Int)] w λe w'=>e=.returned (.int .i64 sz)/\w'=w):=λw F=>by
   have:=size_any (id:Int) w (ba.o.below (((Below.refl w1.heap.size w1).drew).trans F));rw [b0.o] at this;exact this
  have bc:Zq (∀ w,RecW.ExtR w1.drew w->w.cell? ⟨B,0,none⟩=some (.pointer (some ⟨T.blk,0,none⟩))):=λw F=>aa (agu F O.o) 0 _ rfl
  have HK:Zq (∀ w,RecW.ExtR w1.drew w->∀ j v,#[.int .i64 κ,.int .i64 (q:Int),.int .i64 m.due,.int .i64 m.retry,.int .i64 m.ref,.int .i64 m.born,.string (S m.topic),.string (S m.tag),.string (S m.body),.slice a m.keys.length c][j]?=some v->w.cell? ⟨A,j,none⟩=some v):=λw F j v hv=>by
   have h1:=ac.o j v hv;have h2:w.heap[A]?=w1.heap[A]?:=(((Below.refl w1.heap.size w1).drew).trans F).block A (by have:=ad.o; omega);unfold World.cell? at h1 ⊢;show (match w.heap[A]? with | _=>_)=_;rw [h2]; exact h1
  clear hA;rw [ap.o];refine GrowM.jh (by kernel_rfl) ?_;refine GrowM.jl 15 [none,none,none,none,none,none,some (.inl (.int .i64 sz)),none,none,some (.inr (λ_=>ar5 w1.drew m.tag)),some (.inl (.int .i64 hv)),none,none,none,some (.inr (λ_=>aq0 w1.drew))] RecW.ExtR (by kernel_rfl) (by kernel_rfl) RecW.ExtR.refl (λ_ _ _=>RecW.ExtR.trans) ?_ ?_
  ·
   intro K hK Y hY l v w w' hR;simp only [List.mem_cons,List.not_mem_nil,or_false] at hK
   rcases hK with rfl | rfl | rfl | rfl | rfl | rfl | rfl | rfl | rfl | rfl | rfl | rfl | rfl | rfl | rfl <;> simp only [reduceCtorEq,Option.some.injEq,Sum.inr.injEq] at hY
   iterate 2
    . subst hY; exact λ⟨g,h1,h2,h3⟩=>⟨g,h1,agu hR h2,h3⟩
  simp only [List.take_succ_cons,List.take_zero,List.drop_succ_cons,List.drop_zero,Nat.reduceSub]
  iterate 4
   refine GrowN.g_det rfl ?_;apply Exists.intro;refine ⟨λw F E=>?_,?_⟩
   . clear E
     go_simp;exact ⟨rfl,RecW.ExtR.refl _⟩
   go_frame
  refine GrowN.g_det rfl ?_;apply Exists.intro;refine ⟨λw F E=>?_,?_⟩
  . clear E
    have c0:=bc.o w F;go_simp;exact ⟨rfl,RecW.ExtR.refl _⟩
  go_frame;refine GrowN.g_det rfl ?_;apply Exists.intro;refine ⟨λw F E=>?_,?_⟩
  . clear E
    go_simp;exact ⟨rfl,RecW.ExtR.refl _⟩
  go_frame;refine GrowN.g_con rfl (λw F E=>?_) ?_
  . clear E
    go_simp;exact (bb.o w F).mono λe w' h=>⟨_,h.1,rfl,h.2 ▸ RecW.ExtR.refl _⟩
  go_frame;refine GrowN.g_det rfl ?_;apply Exists.intro;refine ⟨λw F E=>?_,?_⟩
  . clear E
    go_simp;exact ⟨rfl,RecW.ExtR.refl _⟩
  go_frame;refine GrowN.g_det rfl ?_;apply Exists.intro;refine ⟨λw F E=>?_,?_⟩
  . clear E
    have k7:=HK.o w F 7 _ rfl;go_simp;exact ⟨rfl,RecW.ExtR.refl _⟩
  go_frame;refine GrowN.g_new rfl (λw F E=>?_) (λv9=>?_)
  . clear E
    go_simp;exact ⟨⟨_,rfl,heap_alloc_new w _,F.size⟩,(Below.refl _ w).alloc (Nat.le_refl _) _⟩
  go_frame;refine GrowN.g_con rfl (λw F E=>?_) ?_
  ·
   obtain ⟨g,hg,Z,_⟩:=E _ (.head _) (by kernel_rfl);clear E;subst hg;go_simp;exact (b7.o g w Z).mono λe w' h=>⟨_,h.1,rfl,h.2 ▸ RecW.ExtR.refl _⟩
  go_frame;refine GrowN.g_det rfl ?_;apply Exists.intro;refine ⟨λw F E=>?_,?_⟩
  . clear E
    go_simp;exact ⟨rfl,RecW.ExtR.refl _⟩
  go_frame;refine GrowN.g_det rfl ?_;apply Exists.intro;refine ⟨λw F E=>?_,?_⟩
  . clear E
    have k5:=HK.o w F 5 _ rfl;go_simp;exact ⟨rfl,RecW.ExtR.refl _⟩
  go_frame;refine GrowN.g_det rfl ?_;apply Exists.intro;refine ⟨λw F E=>?_,?_⟩
  . clear E
    go_simp;exact ⟨rfl,RecW.ExtR.refl _⟩
  go_frame;refine GrowN.g_new rfl (λw F E=>?_) (λv14=>?_)
  . clear E
    go_simp;exact ⟨⟨_,rfl,heap_alloc_new w _,F.size⟩,(Below.refl _ w).alloc (Nat.le_refl _) _⟩
  go_frame;refine GrowN.g_nil λw2 bd E=>?_
  obtain ⟨g,hg,Z,bh⟩:=E _ (.head _);clear E;subst hg;refine GrowM.nu (λv w'=>w'.heap[g]?=some (.cells #[.int .i64 (id:Int),.int .i64 sz,.int .i64 hv,.int .i64 m.born] 136 (0,0))/\Mod (λk=>k=g) w2 w') (by kernel_rfl) rfl rfl ?_ ?_
  ·
   have f0:=aj Z 0;have f1:=aj Z 1;have f2:=aj Z 2;have f3:=aj Z 3;have z0:=aa Z 0 _ rfl;have z1:=aa Z 1 _ rfl;have z2:=aa Z 2 _ rfl;have z3:=aa Z 3 _ rfl;go_simp;exact ⟨heap_setCell_same _ g 3 _ _ _ (heap_setCell_same _ g 2 _ _ _ (heap_setCell_same _ g 1 _ _ _ (heap_setCell_same _ g 0 _ _ _ Z))),((((Mod.refl (λk=>k=g) w2).setCell (.inl rfl) _).setCell (.inl rfl) _).setCell (.inl rfl) _).setCell (.inl rfl) _⟩
  rintro v w3 ⟨h3,bj⟩;go_frame;refine GrowM.qz rfl ?_;have av:RecW.ExtR w1 w2:=((Below.refl w1.heap.size w1).drew).trans bd;have bk:A < w1.heap.size:=by have:=ad.o; omega
  have an:w1.heap.size<=g:=bh;have R:Below w1.heap.size w1 w3:=Below.trans (show Below w1.heap.size w1 w2 from av) ((bj.to_below w1.heap.size av.size (λk hk=>hk ▸ an)));have a1:Zq (Below W.heap.size W w3):=ab.o.trans (R.mono ab.o.size);have b1:w3.cell? ⟨B,1,none⟩=some (.pointer (some ⟨cb,0,none⟩)):=aa ((R.block B (Array.getElem?_eq_some_iff.1 O.o).1).trans O.o) 1 _ rfl;have J:Zq (RecW.Boxed w3 A #[.int .i64 κ,.int .i64 (q:Int),.int .i64 m.due,.int .i64 m.retry,.int .i64 m.ref,.int .i64 m.born,.string (S m.topic),.string (S m.tag),.string (S m.body),.slice a m.keys.length c]):=ac.o.below R;have bl:Zq (w3.heap[B]?=_):=(R.block B (Array.getElem?_eq_some_iff.1 O.o).1).trans O.o;have k0:w3.cell? ⟨A,0,none⟩=some (.int .i64 κ):=J.o 0 _ rfl;have k1:w3.cell? ⟨A,1,none⟩=some (.int .i64 (q:Int)):=J.o 1 _ rfl;have k2:w3.cell? ⟨A,2,none⟩=some (.int .i64 m.due):=J.o 2 _ rfl;have k3:w3.cell? ⟨A,3,none⟩=some (.int .i64 m.retry):=J.o 3 _ rfl;have k4:w3.cell? ⟨A,4,none⟩=some (.int .i64 m.ref):=J.o 4 _ rfl;have k5:w3.cell? ⟨A,5,none⟩=some (.int .i64 m.born):=J.o 5 _ rfl;have k6:w3.cell? ⟨A,6,none⟩=some (.string (S m.topic)):=J.o 6 _ rfl;have k7:w3.cell? ⟨A,7,none⟩=some (.string (S m.tag)):=J.o 7 _ rfl;have k8:w3.cell? ⟨A,8,none⟩=some (.string (S m.body)):=J.o 8 _ rfl;have k9:w3.cell? ⟨A,9,none⟩=some (.slice a m.keys.length c):=J.o 9 _ rfl;have y0:w3.cell? ⟨g,0,none⟩=some (.int .i64 (id:Int)):=aa h3 0 _ rfl;have y1:w3.cell? ⟨g,1,none⟩=some (.int .i64 sz):=aa h3 1 _ rfl;have y2:w3.cell? ⟨g,2,none⟩=some (.int .i64 hv):=aa h3 2 _ rfl;have y3:w3.cell? ⟨g,3,none⟩=some (.int .i64 m.born):=aa h3 3 _ rfl;have a6:Zq (A < w3.heap.size):=Nat.lt_of_lt_of_le bk R.size;have bm:=zq (am.o w3.drew (a1.o.drew));clear h3 bj bd av Z bh an R bc HK bb bk am;go_upto_region 4 with fail
  refine GrowM.jh (by kernel_rfl) ?_;refine GrowM.jl 9 [none,none,none,none,none,none,none,none,none] (λu v=>v=u) (by kernel_rfl) (by kernel_rfl) (λ_=>rfl) (λ_ _ _ h k=>k.trans h) ?_ ?_
  . exact GrowN.jo rfl
  simp only [List.take_succ_cons,List.take_zero,List.drop_succ_cons,List.drop_zero,Nat.reduceSub]
  iterate 9
   refine GrowN.g_det rfl ?_;apply Exists.intro;refine ⟨λw F E=>?_,?_⟩
   . obtain rfl:=F.symm
     clear E;go_simp
     first | exact rfl | exact ⟨rfl,rfl⟩
   go_frame
  refine GrowN.g_nil λwz N E=>?_
  obtain rfl:=N.symm;clear E;refine GrowM.nu (λv w'=>(∃ p:Int,v=.tuple #[.int .i64 p,.int .i64 0])/\I w3.drew 0 w'/\Mod M w3.drew w') (by kernel_rfl) rfl rfl ?_ ?_
  . go_simp
    refine bm.o.mono ?_;rintro e w' ⟨p,rfl,hb⟩;exact ⟨_,rfl,⟨p,rfl⟩,hb⟩
  rintro v w4 ⟨⟨p,rfl⟩,hb⟩;go_frame;refine GrowM.jl 15 [none,none,none,none,none] (λu v=>v=u) (by kernel_rfl) (by kernel_rfl) (λ_=>rfl) (λ_ _ _ h k=>k.trans h) ?_ ?_
  . exact GrowN.jo rfl
  simp only [List.take_succ_cons,List.take_zero,List.drop_succ_cons,List.drop_zero,Nat.reduceSub]
  iterate 5
   refine GrowN.g_det rfl ?_;apply Exists.intro;refine ⟨λw F E=>?_,?_⟩
   . obtain rfl:=F.symm
     clear E;go_simp
     first | exact rfl | exact ⟨rfl,rfl⟩
   go_frame
  refine GrowN.g_nil λwz N E=>?_
  obtain rfl:=N.symm;clear E;refine GrowM.qz rfl ?_;obtain ⟨U,hU⟩:∃ U,U=w3.drew:=⟨_,rfl⟩;have cg:Zq (I U 0 w4):=by show I U 0 w4; rw [hU]; exact hb.1
  have ci:Zq (Mod M U w4):=by show Mod M U w4; rw [hU]; exact hb.2
  have ak:Zq (Below W.heap.size W U):=by show Below W.heap.size W U; rw [hU]; exact a1.o.drew
  have bo:Zq (A < U.heap.size):=by show A < U.heap.size; rw [hU]; exact a6.o
  have bp:Zq (RecW.Boxed U A #[.int .i64 κ,.int .i64 (q:Int),.int .i64 m.due,.int .i64 m.retry,.int .i64 m.ref,.int .i64 m.born,.string (S m.topic),.string (S m.tag),.string (S m.body),.slice a m.keys.length c]):=by show RecW.Boxed U A #[.int .i64 κ,.int .i64 (q:Int),.int .i64 m.due,.int .i64 m.retry,.int .i64 m.ref,.int .i64 m.born,.string (S m.topic),.string (S m.tag),.string (S m.body),.slice a m.keys.length c]; rw [hU]; exact J.o
  have br:Zq (U.heap[B]?=some (.cells #[.pointer (some ⟨T.blk,0,none⟩),.pointer (some ⟨cb,0,none⟩),.pointer (some ⟨xb,0,none⟩),d] 91 (0,0))):=by show U.heap[B]?=_; rw [hU]; exact bl.o
  have cj:Zq (RecW.Boxed w4 A #[.int .i64 κ,.int .i64 (q:Int),.int .i64 m.due,.int .i64 m.retry,.int .i64 m.ref,.int .i64 m.born,.string (S m.topic),.string (S m.tag),.string (S m.body),.slice a m.keys.length c]):=λj v e=>by
   have:=J.o j v e;rw [<- this];exact hb.2.cell (show A < w3.heap.size from a6.o) (λh=>by have h5:A < W.heap.size:=HM.o _ h; have:=ap.o; omega)
  clear hU hb bm k0 k1 k2 k3 k4 k5 k6 k7 k8 k9 y0 y1 y2 y3 b1 J bl a1 a6 ac ad ba O;have k9:w4.cell? ⟨A,9,none⟩=some (.slice a m.keys.length c):=cj.o 9 _ rfl;go_wp2_with fail;go_loopw [54] (λi wr=>∃ j:Nat,j<=m.keys.length/\i=.int .i64 (j:Int)/\Zq (I U j wr)/\Zq (Mod M U wr)) (λi _=>m.keys.length+1 - (intOf i).toNat)
  case atStart=>exact ⟨0,by omega,rfl,cg.o,ci.o⟩
  case round =>
   obtain ⟨j,hj,rfl,bs,X⟩:=hrel;have ao:=b8.o
   by_cases hlt:j < m.keys.length
   ·
    have ck:Zq (Mod M W wr):=(Mod.of_below (M:=M) ak.o).trans X.o;obtain ⟨kb,ko,rfl,bw⟩:=b4.o wr ck.o j (by rw [List.length_map]; exact hlt);rw [List.getElem_map] at bw;have bz:=zq (b6.o U j hlt wr.drew ak.o (b5.o _ _ _ bs.o) (X.o.trans (Mod.of_below (M:=M) ((Below.refl _ wr).drew))));generalize m.keys[j]=ky at *
    have a8:¬ M A:=λh=>by have h5:A < W.heap.size:=HM.o _ h; have:=ap.o; omega
    have e5:wr.drew.cell? ⟨A,5,none⟩=some (.int .i64 m.born):=(X.o.cell bo.o a8).trans (bp.o 5 _ rfl);have e6:wr.drew.cell? ⟨A,6,none⟩=some (.string (S m.topic)):=(X.o.cell bo.o a8).trans (bp.o 6 _ rfl);have b2:wr.drew.cell? ⟨B,2,none⟩=some (.pointer (some ⟨xb,0,none⟩)):=aa (w:=wr.drew) ((X.o.block B (Array.getElem?_eq_some_iff.1 br.o).1 b3.o).trans br.o) 2 _ rfl;clear a8;go_wp2_with fail;refine GrowM.jh (by kernel_rfl) ?_;refine GrowM.jl 10 [none,none,none,none,none,none,none,none,none,none] (λu v=>v=u) (by kernel_rfl) (by kernel_rfl) (λ_=>rfl) (λ_ _ _ h k=>k.trans h) ?_ ?_
    . exact GrowN.jo rfl
    simp only [List.take_succ_cons,List.take_zero,List.drop_succ_cons,List.drop_zero,Nat.reduceSub]
    iterate 10
     refine GrowN.g_det rfl ?_;apply Exists.intro;refine ⟨λw F E=>?_,?_⟩
     . obtain rfl:=F.symm
       clear E;go_simp
       first | exact rfl | exact ⟨rfl,rfl⟩
     go_frame
    refine GrowN.g_nil λwz N E=>?_
    obtain rfl:=N.symm;clear E;refine GrowM.nu (λv w'=>v=.int .i64 0/\I U (j+1) w'/\Mod M U w') (by kernel_rfl) rfl rfl ?_ ?_
    . go_simp
      refine bz.o.mono ?_;rintro e w' ⟨rfl,hb⟩;exact ⟨_,rfl,rfl,hb⟩
    rintro v w5 ⟨rfl,hb⟩;go_frame;refine GrowM.jl 12 [none] (λu v=>v=u) (by kernel_rfl) (by kernel_rfl) (λ_=>rfl) (λ_ _ _ h k=>k.trans h) ?_ ?_
    . exact GrowN.jo rfl
    simp only [List.take_succ_cons,List.take_zero,List.drop_succ_cons,List.drop_zero,Nat.reduceSub];refine GrowN.g_det rfl ?_;apply Exists.intro;refine ⟨λw F E=>?_,?_⟩
    . obtain rfl:=F.symm
      clear E;go_simp
      first | exact rfl | exact ⟨rfl,rfl⟩
    go_frame;refine GrowN.g_nil λwz N E=>?_
    obtain rfl:=N.symm;clear E;refine GrowM.qz rfl ?_;have cm:Zq (I U (j+1) w5):=hb.1;have cn:Zq (Mod M U w5):=hb.2;clear hb e5 e6 b2 bz bw;go_wp2_with fail;go_roundw
    case rel=>exact ⟨j+1,by omega,by go_num,cm,cn⟩
    case measure=>simp [intOf]; omega
   . obtain rfl:j=m.keys.length:=by omega
     go_wp2_with fail;go_ret;exact ⟨rfl,⟨U,ak.o,bs.o⟩,(Mod.of_below (M:=M) ak.o).trans X.o⟩
theorem al9 {base B:Nat} {T:TapeD} (id:Nat) (m:Msg) (y:Value) (sz:Int) (x:Value) (d:Int) (W:World) (h:TapeAt base W T) (hT:TabB base W) (hbase:base<=W.heap.size) (hup:T.D.down=false)
 (hB:W.heap[B]?=some (.cells #[.pointer (some ⟨T.O.blk,0,none⟩),y,x,.int .i64 d] 91 (0,0))) (hl:T.O.recs.length<=1073741824) (hn:jr T.O.recs d=((id:Int),true)) (hsy:id < T.R.synced) (hmem:(id,m)∈T.O.recs)
 (hsz:aag T.O.recs (id:Int)=sz) (hszb:0<=sz/\sz<=1024/\(id:Int)<=99999999)
 {M:Nat->Prop} {J:World->Prop} (hM:∀ k,M k->k < W.heap.size/\k≠B/\¬ T.O.foot k)
 (hlk:∀ w a c,Below W.heap.size W w->Strs w a (m.keys.map S)->(∀ X,a=some X->W.heap.size<=X.block)->Calls Tryz.prog 33 #[.pointer (some ⟨B,0,none⟩),.int .i64 (id:Int),.agg #[.int .i64 m.kind,.int .i64 m.queue,.int .i64 m.due,.int .i64 m.retry,.int .i64 m.ref,.int .i64 m.born,.string (S m.topic),.string (S m.tag),.string (S m.body),.slice a m.keys.length c]] w λe w'=>e=.returned (.int .i64 0)/\J w'/\Mod M W w') :
 Calls Tryz.prog 16 #[.pointer (some ⟨B,0,none⟩)] W λe w'=>e=.returned (.tuple #[.bool true,.int .i64 0])/\∃ w3,J w3/\Mod M W w3/\Mod (λk=>k=B) w3 w' /\
  w'.heap[B]?=some (.cells #[.pointer (some ⟨T.O.blk,0,none⟩),y,x,.int .i64 ((id:Int)+sz)] 91 (0,0)):=by
 have c0:=aa hB 0 _ rfl;have c3:=aa hB 3 _ rfl;have al:=(Array.getElem?_eq_some_iff.1 hB).1;have am:(T.O.recs.map (·.1)).Pairwise (· < ·):=by rw [h.recs]; exact (ku h.fits).2
 have Y:=zq (next_any d W.drew (h.own.below ((Below.refl _ W).drew)) am hl);rw [hn] at Y;have an:Zq (∀ w,Below W.heap.size W w->Calls Tryz.prog 32 #[.pointer (some ⟨T.O.blk,0,none⟩)] w λe w'=>e=.returned (.int .i64 (T.R.synced:Int))/\w'=w):=λw hb=>TapeW.synced_any w (h.below hb)
 have ao:Zq (∀ w,Below W.heap.size W w->Calls Tryz.prog 18 #[.pointer (some ⟨T.O.blk,0,none⟩),.int .i64 (id:Int)] w λe w'=>∃ a c,e=.returned (.tuple #[.agg #[.int .i64 m.kind,.int .i64 m.queue,.int .i64 m.due,.int .i64 m.retry,.int .i64 m.ref,.int .i64 m.born,.string (S m.topic),.string (S m.tag),.string (S m.body),.slice a m.keys.length c],.int .i64 0])/\Below W.heap.size w w'/\Strs w' a (m.keys.map S)/\∀ X,a=some X->W.heap.size<=X.block):=λw hb =>
  (aaa id m w (h.below hb) hup (hT.below hb) (Nat.le_trans hbase hb.size) hmem).mono λe w' ⟨a,c,h5,h6,h7,h8⟩=>⟨a,c,h5,h7.mono hb.size,h6,λX e=>Nat.le_trans hb.size (h8 X e)⟩
 have ap:=zq hlk
 have ar:Zq (∀ w2,Mod M W w2->Calls Tryz.prog 34 #[.pointer (some ⟨T.O.blk,0,none⟩),.int .i64 (id:Int)] w2 λe w'=>e=.returned (.int .i64 sz)/\w'=w2):=λw2 hm=>by
  have:=size_any (id:Int) w2 (h.own.mod hm (λk hk bb=>(hM k bb).2.2 hk));rw [hsz] at this;exact this
 have HB:=zq hB;have HM:=zq hM;have bm:(id:Int) < (T.R.synced:Int):=by omega
 have bo:(0:Int)<=sz/\sz<=1024/\(id:Int)<=99999999:=hszb;clear h hT hbase hup hB hl hn hsy hmem hsz hM hlk am hszb;go_enter Tryz.func16,Tryz.ntmps16;go_upto_region 3 with fail
 refine GrowM.jh (by kernel_rfl) ?_;refine GrowM.jl 8 [none,none,none,none,none,none,none,none] (λu v=>v=u) (by kernel_rfl) (by kernel_rfl) (λ_=>rfl) (λ_ _ _ h k=>k.trans h) ?_ ?_
 . exact GrowN.jo rfl
 simp only [List.take_succ_cons,List.take_zero,List.drop_succ_cons,List.drop_zero,Nat.reduceSub]
 iterate 8
  refine GrowN.g_det rfl ?_;apply Exists.intro;refine ⟨λw hw Z=>?_,?_⟩
  . obtain rfl:=hw.symm
    clear Z;go_simp
    first | exact rfl | exact ⟨rfl,rfl⟩
  go_frame
 refine GrowN.g_nil λwz ab Z=>?_
 obtain rfl:=ab.symm;clear Z;refine GrowM.nu (λv w'=>v=.tuple #[.int .i64 (id:Int),.bool true]/\Drawn W.drew w') (by kernel_rfl) rfl rfl ?_ ?_
 ·
  go_simp;refine Y.o.mono ?_;rintro e w' ⟨rfl,hb⟩;exact ⟨_,rfl,rfl,hb⟩
 rintro v w2 ⟨rfl,hb⟩;go_frame;refine GrowM.jl 14 [none,none,none,none,none] (λu v=>v=u) (by kernel_rfl) (by kernel_rfl) (λ_=>rfl) (λ_ _ _ h k=>k.trans h) ?_ ?_
 . exact GrowN.jo rfl
 simp only [List.take_succ_cons,List.take_zero,List.drop_succ_cons,List.drop_zero,Nat.reduceSub]
 iterate 5
  refine GrowN.g_det rfl ?_;apply Exists.intro;refine ⟨λw hw Z=>?_,?_⟩
  . obtain rfl:=hw.symm
    clear Z;go_simp
    first | exact rfl | exact ⟨rfl,rfl⟩
  go_frame
 refine GrowN.g_nil λwz ab Z=>?_
 obtain rfl:=ab.symm;clear Z;refine GrowM.qz rfl ?_;have A:Below W.heap.size W w2:=((Below.refl W.heap.size W).drew).trans (hb.below _);have bd:=zq A;have F:=zq (ao.o w2 A);have I:=zq (an.o w2 A);have d0:w2.cell? ⟨B,0,none⟩=some (.pointer (some ⟨T.O.blk,0,none⟩)):=by rw [A.cell al]; exact c0
 clear hb A Y c0 c3 ao an;generalize ((T.R.synced:Nat):Int)=sy at *
 go_wp2_with fail;refine I.o.mono ?_;rintro e b3 ⟨rfl,rfl⟩;go_wp2_with fail;refine F.o.mono ?_;rintro e w3 ⟨a,c,rfl,av,a1,a6⟩;have bh:=zq a1;have bj:=zq a6;have a7:=zq (bd.o.trans av);clear av a1 a6 F I;go_wp2_with fail;have ac:Below W.heap.size W (w3.alloc (.cells #[.int .i64 m.kind,.int .i64 m.queue,.int .i64 m.due,.int .i64 m.retry,.int .i64 m.ref,.int .i64 m.born,.string (S m.topic),.string (S m.tag),.string (S m.body),.slice a m.keys.length c] 69)):=a7.o.alloc a7.o.size _;have bk:Zq (Strs (w3.alloc (.cells #[.int .i64 m.kind,.int .i64 m.queue,.int .i64 m.due,.int .i64 m.retry,.int .i64 m.ref,.int .i64 m.born,.string (S m.topic),.string (S m.tag),.string (S m.body),.slice a m.keys.length c] 69)) a (m.keys.map S)):=Strs.below bh.o ((Below.refl _ w3).alloc (Nat.le_refl _) _);generalize w3.alloc (.cells #[.int .i64 m.kind,.int .i64 m.queue,.int .i64 m.due,.int .i64 m.retry,.int .i64 m.ref,.int .i64 m.born,.string (S m.topic),.string (S m.tag),.string (S m.body),.slice a m.keys.length c] 69)=w4 at *
 generalize w3.heap.size=g3 at *
 have N:=zq (ap.o w4 a c ac bk.o bj.o);have b4:=zq ac;clear ac ap d0;refine N.o.mono ?_;rintro e w5 ⟨rfl,hp,hm⟩;have U:=zq (ar.o w5 hm)
 have E:w5.heap[B]?=some (.cells #[.pointer (some ⟨T.O.blk,0,none⟩),y,x,.int .i64 d] 91 (0,0)):=by
  rw [hm.block B al (λh=>(HM.o B h).2.1 rfl)]; exact HB.o
 have bl:=zq E;have a8:=zq (show J w5/\Mod M W w5 from ⟨hp,hm⟩);have d0:=aa E 0 _ rfl;have d3:=aa E 3 _ rfl;have f3:=aj E 3;clear hp hm N ar E;go_wp2_with fail;refine U.o.mono ?_;rintro e b5 ⟨rfl,rfl⟩;clear U;go_wp2_with fail;go_ret2;exact ⟨rfl,_,a8.o.1,a8.o.2,(Mod.refl (λk=>k=B) _).setCell (.inl rfl) _,heap_setCell_same _ B 3 _ _ _ bl.o⟩
theorem ajf {p:Nat} {its:List TapeMath.Item} (hf:Fits p its):∀ (id i:Nat) (m B:Msg),(id,m)∈gy p its->(i,B)∈gy p its->id < i->id+(bg m).length<=i:=by
 induction its generalizing p with
 | nil=>intro id i m B h; cases h
 | cons x l ih =>
   unfold Fits at hf;have F:=(ku hf.2).1;intro id i m B h A E
   cases x with
   | one y =>
     unfold gy at h A
     rcases List.mem_cons.1 h with e | h
     . have I:id=p:=congrArg Prod.fst e
       have J:m=y:=congrArg Prod.snd e
       rcases List.mem_cons.1 A with e3 | A
       . have M:i=p:=congrArg Prod.fst e3
         omega
       . rw [I,J]; exact F _ A
     . have h1:p+(TapeMath.Item.one y).len<=id:=F _ h
       rcases List.mem_cons.1 A with e3 | A
       . have M:i=p:=congrArg Prod.fst e3
         omega
       . exact ih hf.2 id i m B h A E
   | fill n =>
     unfold gy at h A;exact ih hf.2 id i m B h A E
open CacheW CqW KxW
structure aoe (p:Nat×Msg):Prop where
 ent:ae6 p
 kind:p.2.kind=1\/p.2.kind=3
 keys:∀ k∈p.2.keys,RecMath.og k=true/\k.length<=1000
 tag:p.2.tag.length<=1048576
 many:p.2.keys.length<=100
structure ar6 (base B:Nat) (W w:World) (C:CqD) (D:DiskD) (X:KxD) (done:List (Nat×Msg)) (mk n:Nat) (C':CqD) (D':DiskD) (X':KxD):Prop where
 inv:DisI base w C' D' X' done mk
 cb:C'.blk=C.blk
 db:TmS D D'
 xb:X'.blk=X.blk
 room:D'.room=D.room - ((20 * n:Nat):Int)
 foot:∀ k,ni C' D' X' k->ni C D X k\/W.heap.size<=k
 mod:Mod (λk=>ni C D X k\/k=B) W w
theorem aof {M:Nat->Prop} {W w:World} {a:Option Addr} {ss:List ByteArray} (h:Strs W a ss) (hm:Mod M W w) (hM:∀ ad,a=some ad->¬ M ad.block):Strs w a ss :=
 ((Row1.of_strs h).mod hm hM).to_strs
theorem aog {base B:Nat} {T:OwnD} {C:CqD} {D:DiskD} {X:KxD} {done:List (Nat×Msg)} {mk:Nat} (id:Nat) (m:Msg) (d:Int) (a:Option Addr) (c:Nat) (W:World) (hT:OwnAt base W T) (hTB:TabB base W) (hbase:base<=W.heap.size)
 (hB:W.heap[B]?=some (.cells #[.pointer (some ⟨T.blk,0,none⟩),.pointer (some ⟨C.blk,0,none⟩),.pointer (some ⟨X.blk,0,none⟩),.int .i64 d] 91 (0,0)))
 (hsz:aag T.recs (id:Int)=((bg m).length:Int)) (hI:DisI base W C D X done mk) (hp:aoe (id,m)) (hBF:¬ ni C D X B) (hroom:((20 * (1+m.keys.length):Nat):Int)<=D.room) (hdl:done.length<=9999) (hmk:mk<=90000)
 (hs:Strs W a (m.keys.map S)) (hsa:∀ ad,a=some ad->¬ ni C D X ad.block) :
 Calls Tryz.prog 33 #[.pointer (some ⟨B,0,none⟩),.int .i64 (id:Int),.agg (ae m a c)] W λe w'=>e=.returned (.int .i64 0)/\(∃ C' D' X' U,Below W.heap.size W U/\DisI base w' C' D' X' (done++[(id,m)]) (mk+m.keys.length)/\C'.blk=C.blk/\TmS D D'/\X'.blk=X.blk/\D'.room=D.room - ((20 * (1+m.keys.length):Nat):Int)/\∀ k,ni C' D' X' k->ni C D X k\/U.heap.size<=k)/\Mod (ni C D X) W w':=by
 obtain ⟨q,hq,ak⟩:=hp.ent.q;have J:m.queue=(q:Int):=hq;have E:=hp.many;have N:m.keys.length<=100:=E;have A:ae m a c=#[.int .i64 m.kind,.int .i64 (q:Int),.int .i64 m.due,.int .i64 m.retry,.int .i64 m.ref,.int .i64 m.born,.string (S m.topic),.string (S m.tag),.string (S m.body),.slice a m.keys.length c]:=by rw [<- J]; rfl
 rw [A]
 refine (aod (base:=base) (M:=ni C D X) (I:=λU j w=>∃ C' D' X',DisI base w C' D' X' (done++[(id,m)]) (mk+j)/\C'.blk=C.blk/\TmS D D'/\X'.blk=X.blk/\D'.room=D.room - ((20 * (1+j):Nat):Int)/\∀ k,ni C' D' X' k->ni C D X k\/U.heap.size<=k)
  id m q C.blk X.blk ((bg m).length:Int) (.int .i64 d) a c W hT hB hsz (λk hk=>hI.lt hk) hBF m.kind hp.kind hp.tag (by omega) ((NameW.ng [m.tag]:Nat):Int) rfl (λw F=>aof hs F hsa) ?_ ?_ ?_).mono ?_
 . rintro U j w ⟨C',D',X',h1,O⟩
   exact ⟨C',D',X',h1.below ((Below.refl _ w).drew),O⟩
 ·
  rintro U j hj w R ⟨C',D',X',h1,O,h3,Y,Z,h6⟩ F;have hk:=hp.keys m.keys[j] (List.getElem_mem hj);have an:(done++[(id,m)]).length=done.length+1:=by rw [List.length_append]; rfl
  have:=ap4 m.topic m.keys[j] id m.born w h1 hp.ent.top hk.1 hp.ent.tl hk.2 hp.ent.id hp.ent.born (Nat.le_trans hbase (Nat.le_trans R.size F.size)) (by rw [Z]; omega) (by omega) (by omega);rw [Y] at this;refine this.mono ?_;rintro e w' ⟨rfl,D2,X2,g⟩;refine ⟨rfl,⟨C',D2,X2,g.inv,O,g.db.trans h3,g.xb.trans Y,by rw [g.room,Z]; omega,λk hk=>(g.foot k hk).elim (h6 k) λh7=>.inr (Nat.le_trans F.size h7)⟩,jb F g.mod λk hk=>h6 k hk⟩
 ·
  intro w hb;refine (ap3 (id,m) m.topic (q:Int) ((bg m).length:Int) ((NameW.ng [m.tag]:Nat):Int) m.born w (hI.below hb) hp.ent rfl J rfl rfl rfl (hTB.below hb) (Nat.le_trans hbase hb.size) (by omega) (by omega) (by omega)).mono ?_;rintro e w' ⟨pos,rfl,C2,D2,g⟩;exact ⟨pos,rfl,⟨C2,D2,X,g.inv,g.cb,g.db,rfl,by rw [g.room]; rfl,g.foot⟩,g.mod⟩
 . rintro e w' ⟨he,⟨U,R,C',D',X',h⟩,F⟩
   exact ⟨he,⟨C',D',X',U,R,h⟩,F⟩
theorem aoh {base B:Nat} {T:TapeD} {C:CqD} {D:DiskD} {X:KxD} {done:List (Nat×Msg)} {mk:Nat} (id:Nat) (m:Msg) (d:Int) (W:World) (h:TapeAt base W T) (hT:TabB base W) (hbase:base<=W.heap.size) (hup:T.D.down=false)
 (hB:W.heap[B]?=some (.cells #[.pointer (some ⟨T.O.blk,0,none⟩),.pointer (some ⟨C.blk,0,none⟩),.pointer (some ⟨X.blk,0,none⟩),.int .i64 d] 91 (0,0))) (hl:T.O.recs.length<=1073741824) (hn:jr T.O.recs d=((id:Int),true)) (hsy:id < T.R.synced) (hmem:(id,m)∈T.O.recs)
 (hI:DisI base W C D X done mk) (hp:aoe (id,m)) (hBF:¬ ni C D X B) (hTF:∀ k,ni C D X k->¬ T.foot k) (hroom:((20 * (1+m.keys.length):Nat):Int)<=D.room) (hdl:done.length<=9999) (hmk:mk<=90000) :
 Calls Tryz.prog 16 #[.pointer (some ⟨B,0,none⟩)] W λe w'=>e=.returned (.tuple #[.bool true,.int .i64 0])/\(∃ C' D' X',ar6 base B W w' C D X (done++[(id,m)]) (mk+m.keys.length) (1+m.keys.length) C' D' X') /\
  w'.heap[B]?=some (.cells #[.pointer (some ⟨T.O.blk,0,none⟩),.pointer (some ⟨C.blk,0,none⟩),.pointer (some ⟨X.blk,0,none⟩),.int .i64 ((id:Int)+((bg m).length:Int))] 91 (0,0)):=by
 have N:=(Array.getElem?_eq_some_iff.1 hB).1;have E:aag T.O.recs (id:Int)=((bg m).length:Int):=ado (aat h) hmem;have F:=hp.ent.len;have hid:=hp.ent.id;have Y:(bg m).length<=1024:=F;have al:id<=99999999:=hid
 refine (al9 (M:=ni C D X) (J:=λw'=>∃ C' D' X',DisI base w' C' D' X' (done++[(id,m)]) (mk+m.keys.length)/\C'.blk=C.blk/\TmS D D'/\X'.blk=X.blk/\D'.room=D.room - ((20 * (1+m.keys.length):Nat):Int)/\∀ k,ni C' D' X' k->ni C D X k\/W.heap.size<=k)
  id m _ ((bg m).length:Int) _ d W h hT hbase hup hB hl hn hsy hmem E ⟨by omega,by omega,by omega⟩ (λk hk=>⟨hI.lt hk,λe=>hBF (e ▸ hk),λA=>hTF k hk (.inl A)⟩) ?_).mono ?_
 ·
  intro w a c hb hs Z;refine (aog id m d a c w (h.own.below hb) (hT.below hb) (Nat.le_trans hbase hb.size) ((hb.block B N).trans hB) E (hI.below hb) hp hBF hroom hdl hmk hs (λad e hk=>by have:=hI.lt hk; have:=Z ad e; omega)).mono ?_;rintro e w' ⟨he,⟨C',D',X',U,hU,g1,g2,g3,g4,g5,g6⟩,hm⟩;exact ⟨he,⟨C',D',X',g1,g2,g3,g4,g5,λk hk=>(g6 k hk).imp_right λA=>Nat.le_trans hb.size (Nat.le_trans hU.size A)⟩,(Mod.of_below hb).trans hm⟩
 ·
  rintro e w' ⟨he,w3,⟨C',D',X',g1,g2,g3,g4,g5,g6⟩,hm,I,ak⟩;refine ⟨he,⟨C',D',X',?_,g2,g3,g4,g5,g6,?_⟩,ak⟩
  ·
   exact g1.mod I λk hk e=>by
    subst e
    rcases g6 k hk with A | A
    . exact hBF A
    . omega
  . exact (hm.mono λk _ hk=>Or.inl hk).trans (I.mono λk _ hk=>Or.inr hk)
def abj (l:List (Nat×Msg)):Nat:=(l.map λp=>p.2.keys.length).sum
theorem adv (p:Nat×Msg) (l:List (Nat×Msg)):abj (p :: l)=p.2.keys.length+abj l:=by unfold abj; rw [List.map_cons,List.sum_cons]
theorem ab4 (d:Int):∀ (pre l:List (Nat×Msg)),(∀ p∈pre,(p.1:Int) < d)->jr (pre++l) d=jr l d
 | [],_,_=>rfl
 | x :: pre,l,h=>by
   rw [List.cons_append,agv x _ d (h x (.head _))];exact ab4 d pre l λp hp=>h p (.tail _ hp)
theorem ap5 {base kb:Nat} {w:World} {C:CqD} {D D2:DiskD} (hC:CqAt base w C) (hqs:C.qs=[]) (hdb:C.db=D.blk) (hD:DiskAt base w D) (hf2:D2.files=[]) (hw2:D2.waits=[]) (hg:Grows D2 D [iq,gz,lh,qj] 120 2) (haw:∀ k,C.foot k->¬ D.foot k) (hk:KxAt base w ⟨kb,0⟩ D) (hkc:¬ C.foot kb):DisI base w C D ⟨kb,0⟩ [] 0:=by
 have B:D.files.map (·.1)=[iq,gz,lh,qj]:=by rw [hg.names,hf2]; rfl
 refine ⟨hC,hD,hk,hdb,hg.quiet,haw,hkc,λp hp=>(by cases hp),λx A=>(by rw [hqs] at A; cases A),(by rw [hqs]; exact List.Pairwise.nil),λp hp=>(by cases hp),λt q I E n F=>?_,?_,λp hp=>?_,rfl,?_,λx A=>(by rw [hqs] at A; cases A)⟩
 ·
  refine vw.2 λh=>?_
  rw [B] at h;simp only [List.mem_cons,List.not_mem_nil,or_false] at h
  rcases h with h | h | h | h <;> (injection h with h1 h2; exact absurd h1 (by decide))
 . have:=congrArg List.length B
   rw [List.length_map] at this;rw [this]; decide
 ·
  have h:p.1∈D.files.map (·.1):=List.mem_map.2 ⟨p,hp,rfl⟩;rw [B] at h;simp only [List.mem_cons,List.not_mem_nil,or_false] at h
  rcases h with h | h | h | h <;> rw [h] <;> decide
 . rw [hg.waits,hw2]; decide
structure DisB (base B:Nat) (L:Nat->Prop) (w:World) (S:StoD) (C:CqD) (D:DiskD) (X:KxD) (done:List (Nat×Msg)) (mk:Nat) (d r:Int):Prop where
 inv:DisI base w C D X done mk
 cq:S.cq=.pointer (some ⟨C.blk,0,none⟩)
 kx:S.kx=.pointer (some ⟨X.blk,0,none⟩)
 dp:S.dp=.pointer (some ⟨B,0,none⟩)
 cell:w.heap[B]?=some (.cells #[.pointer (some ⟨S.T.O.blk,0,none⟩),.pointer (some ⟨C.blk,0,none⟩),.pointer (some ⟨X.blk,0,none⟩),.int .i64 d] 91 (0,0))
 apart:∀ k,S.foot k->¬ ni C D X k/\k≠B
 nB:¬ ni C D X B
 low:∀ k,ni C D X k\/k=B->L k
 lowB:base<=B
 room:r<=D.room
theorem DisB.next {base B:Nat} {L M:Nat->Prop} {w w':World} {S S':StoD} {C:CqD} {D:DiskD} {X:KxD} {done:List (Nat×Msg)} {mk:Nat} {d r:Int} (h:DisB base B L w S C D X done mk d r) (hm:Mod M w w') (hM:∀ k,M k->¬ ni C D X k/\k≠B) (e1:S'.cq=S.cq) (e2:S'.kx=S.kx) (e3:S'.dp=S.dp) (e4:S'.T.O.blk=S.T.O.blk) (hf:∀ k,S'.foot k->S.foot k\/w.heap.size<=k):DisB base B L w' S' C D X done mk d r where
 inv:=h.inv.mod hm λk hk A=>(hM k A).1 hk
 cq:=e1.trans h.cq
 kx:=e2.trans h.kx
 dp:=e3.trans h.dp
 cell:=by
  rw [e4];exact (hm.block B (Array.getElem?_eq_some_iff.1 h.cell).1 (λA=>(hM B A).2 rfl)).trans h.cell
 apart:=λk hk=>(hf k hk).elim (h.apart k) λA=>⟨λE=>by have:=h.inv.lt E; omega,λe=>by have:=(Array.getElem?_eq_some_iff.1 h.cell).1; omega⟩
 nB:=h.nB
 low:=h.low
 lowB:=h.lowB
 room:=h.room
theorem DisB.mono {base B:Nat} {L L':Nat->Prop} {w:World} {S:StoD} {C:CqD} {D:DiskD} {X:KxD} {done:List (Nat×Msg)} {mk:Nat} {d r:Int} (h:DisB base B L w S C D X done mk d r) (hL:∀ k,L k->L' k):DisB base B L' w S C D X done mk d r:={ h with low:=λk hk=>hL k (h.low k hk) }
def aoi (D:DiskD):SegD:=⟨0,D.blk,ol,1024,0,0,[],0,.slice none 0 0⟩
theorem ajg (D:DiskD) (h:D.files=[]):LaidOn D (aoi D):=by
 refine ⟨⟨show 16<=1024 by decide,show 1024<=4096 by decide⟩,λ_=>⟨rfl,rfl⟩,λh=>absurd h (Nat.lt_irrefl 0),rfl,by show ol.length<=_; decide,?_,?_,rfl⟩
 . intro i A
   exact absurd A (Nat.not_lt_zero _)
 . intro p _ _
   exact vw.2 (by rw [h]; simp)
theorem xm {D:DiskD} (h:D.files=[]) (n:List UInt8):D.find n=none:=vw.2 (by rw [h]; simp)
theorem ama {D D1:DiskD} (h:D.files=[]) (k:∀ n,(D1.find n).isSome=(D.find n).isSome):D1.files=[]:=by
 cases hf:D1.files with
 | nil=>rfl
 | cons p l =>
   have h1:=k p.1;rw [xm h] at h1
   have A:D1.find p.1=none:=by cases hh:D1.find p.1 with
    | none=>rfl
    | some f=>rw [hh] at h1; cases h1
   exact absurd (List.mem_map.2 ⟨p,by rw [hf]; exact List.mem_cons_self,rfl⟩) (vw.1 A)
theorem ag7 {base:Nat} {D D2:DiskD} (now:Nat) (W:World) (hD:DiskAt base W D) (hq:Quiet D) (hf:D.files=[]) (hwt:D.waits=[]) (hbase:base<=W.heap.size) (hT:TabB base W) (J:DiskAt base W D2) (hq2:Quiet D2) (hf2:D2.files=[]) (hr2:120<=D2.room) (hw2:D2.waits=[]) (hdd:∀ k,D.foot k->¬ D2.foot k) (hnow:now<=1099511626776) :
 Calls Tryz.prog 24 #[.pointer (some ⟨D.blk,0,none⟩),.pointer (some ⟨D2.blk,0,none⟩),.int .i64 (now:Int)] W λe w'=>∃ S,e=.returned (.tuple #[.pointer (some ⟨S.blk,0,none⟩),.int .i64 0])/\StoAt base w' S/\S.now=(now:Int)/\S.T.its=[]/\S.T.R.b=0/\S.T.R.synced=S.T.R.e/\S.T.D.waits=[]/\Quiet S.T.D/\S.T.D.blk=D.blk/\S.T.D.room=D.room/\S.T.D.files=[]/\(∃ E I v,S.top=.pointer (some ⟨E,0,none⟩)/\S.off=.pointer (some ⟨I,0,none⟩)/\S.dk=.pointer (some ⟨D.blk,0,none⟩)/\Pair w' W.heap.size E I D.blk v [] S.T/\(∀ b,PB E I v b->¬ S.foot b)/\S.P.all=uf S.T.O.recs []/\∃ C D' X B,DisB base B (λk=>D2.foot k\/W.heap.size<=k) w' S C D' X [] 0 0 (D2.room - 120)/\∀ b,PB E I v b->¬ ni C D' X b/\b≠B) /\
  Mod (λk=>D.foot k\/D2.foot k) W w'/\(∀ k,S.foot k->D.foot k\/W.heap.size<=k):=by
 refine (al8 (R:=aoi D) (its:=[]) (Post:=λT C D' kb F N w=>DisI base w C D' ⟨kb,0⟩ [] 0/\D'.room=D2.room - 120/\w.heap[F]?=some (.cells #[.pointer (some ⟨T.O.blk,0,none⟩),.pointer (some ⟨C.blk,0,none⟩),.pointer (some ⟨kb,0,none⟩),.int .i64 0] 91 (0,0))/\N.heap.size<=w.heap.size/\F < N.heap.size/\(∀ k,ni C D' ⟨kb,0⟩ k->k < N.heap.size)/\¬ ni C D' ⟨kb,0⟩ F/\base<=F) now W rfl rfl (ajg D hf) hD hq (by rw [hf]; simp) (by rw [hf]; intro p hp; cases hp) hbase hT rfl rfl rfl trivial (by simp) hwt ⟨xm hf _,rfl⟩ (xm hf _) (xm hf _) J hq2 hf2 hr2 hw2 hdd hnow (λp hp=>by cases hp) (by simp [gy])
  (λT C D' kb w F a1 a2 a3 a4 a5 a6 a7 a8 a9 b1 b2 E I b5 U c1 c2 c3 hc=>?_) (λT C D' kb F N w1 w2 M ⟨Y,p2,p3,p4,p5,p6,Z,p8⟩ hm hM=>⟨?_,p2,?_,Nat.le_trans p4 hm.size,p5,p6,Z,p8⟩)).mono λe w' ⟨S,C,D',kb,F,N,x1,x2,x3,x4,⟨k1,k2,k3,k4,k5⟩,x5,x6,x7,x8,x9,y1,y2,yf,⟨E,I,v,z1,z2,z3,z4,z7,z8⟩,⟨Y,p2,p3,p4,p5,p6,Z,p8⟩,y4,y5⟩=>⟨S,x1,x2,x3,x5,x6,x7,x8,x9,y1,y2,ama hf yf,⟨E,I,v,z1,z2,z3,z4,λb hb=>(z8 b hb).1,z7,C,D',⟨kb,0⟩,F,⟨Y,x4,k1,k2,p3,λk hk=>⟨λA=>?_,(k4 k hk).2.2.2.2⟩,Z,λk hk=>?_,p8,by rw [p2]; omega⟩,λb hb=>⟨λA=>?_,λA=>(z8 b hb).2.1 (.inr (.inr (.inr A)))⟩⟩,y4,y5⟩
 ·
  have hr:T.O.recs=[]:=by rw [a1.recs,a2]; rfl
  have al:T.R.b=0:=a3;have hI:=ap5 a8 a9 b1 b2 hf2 hw2 E I c1 c2;rw [al] at hc;refine (alv w a1.own hc (by rw [hr]; exact List.Pairwise.nil) (by rw [hr]; simp) (by rw [hr]; rfl)).mono λe w' ⟨h1,J⟩=>⟨0,h1,⟨hI.below (J.below _),E.room,(jd (J.below _) hc),(J.below w.heap.size).size,(Array.getElem?_eq_some_iff.1 hc).1,λk hk=>hI.lt hk,λA=>?_,c3⟩,Mod.of_below (J.below _)⟩
  rcases A with A | A | A
  . exact U.2.1 A
  . exact U.2.2.1 A
  . exact U.2.2.2 A.symm
 ·
  exact Y.mod hm λk hk A=>by
   have g:=hM k A
   rcases hk with hk | hk | hk
   . exact g.2.1 hk
   . exact g.2.2.1 hk
   . exact g.2.2.2.1 hk
 . exact eu hm p3 λA=>(hM F A).2.2.2.2 rfl
 ·
  have g:=k4 k hk
  rcases A with A | A | A
  . exact g.2.1 A
  . exact g.2.2.1 A
  . exact g.2.2.2.1 A
 . rcases hk with hk | hk
   . exact k5 k hk
   . exact .inr (by omega)
 ·
  have g:=(z8 b hb).2.1
  rcases A with A | A | A
  . exact g (.inl A)
  . exact g (.inr (.inl A))
  . exact g (.inr (.inr (.inl A)))
end StoW
namespace MapG
open Go.RowKit Go.MapKept
variable {P:Program}
theorem aax {mt kt et ty:TypeId} {K:Value->Prop} (hm:P.underlying mt=some (.map kt et)) (hK:Keyed P kt K) {w:World} {b:Nat} {l l1 l2:List (Value×Value)} (h:PairsAt w b l) (hl:∀ p∈l,K p.1) {k v0:Value} (hk:K k) (he:l=l1++(k,v0) :: l2) :
 ∃ w',(Builtin.delete_ #[mt,kt] ty #[.map (some b),k]).run P w=.ok (.tuple #[]) w'/\PairsAt w' b (l1++l2)/\Mod (λx=>x=b) w w':=by
 have J:=h.nodup;obtain ⟨es,c,hb,M,A⟩:=h
 rcases hK.find k hk es.toList (abd A hl) w with ⟨h1,h2⟩ | ⟨j,e,h1,h2,h3⟩
 ·
  exfalso;have:(k,v0)∈es.toList.map (λe=>(e.key,e.val)):=by rw [A,he]; simp
  obtain ⟨x,N,O⟩:=List.mem_map.1 this;exact h1 x N (Prod.mk.inj O).1
 ·
  have B:(Builtin.delete_ #[mt,kt] ty #[.map (some b),k]).run P w=.ok (.tuple #[]) { w with heap:=w.heap.setIfInBounds b (.map (es.eraseIdxIfInBounds j) c) }:=by
   simp [Builtin.delete_,run_underlying hm,Go.MapKept.run_getObj_map hb,hK.check k hk,h1,Go.MapKept.run_setObj_map _ hb,Result.andThen]
  refine ⟨_,B,⟨_,c,(heap_set hb).1,stamped_erase M _,?_⟩,⟨rfl,rfl,rfl,by simp,λr _ Z=>(heap_set hb).2 r Z⟩⟩
  have E:j < es.size:=by
   have:=(List.getElem?_eq_some_iff.1 h2).1
   simpa using this
  have R:l[j]?=some (k,e.val):=by rw [<- A,List.getElem?_map,h2,Option.map_some,h3]
  have U:l1.length=j:=by
   have N:l[l1.length]?=some (k,v0):=by rw [he]; simp
   have F:(l.map (·.1))[l1.length]?=some k:=by rw [List.getElem?_map,N]; rfl
   have X:(l.map (·.1))[j]?=some k:=by rw [List.getElem?_map,R]; rfl
   have h6:l1.length < (l.map (·.1)).length:=(List.getElem?_eq_some_iff.1 F).1;exact (List.getElem?_inj h6 J).1 (F.trans X.symm)
  have:(es.eraseIdxIfInBounds j).toList=es.toList.eraseIdx j:=by
   unfold Array.eraseIdxIfInBounds;rw [dif_pos E,Array.toList_eraseIdx]
  have Y:∀ (I:List MapEntry) (n:Nat),(I.eraseIdx n).map (λe=>(e.key,e.val))=(I.map λe=>(e.key,e.val)).eraseIdx n:=λI=>by
   induction I with
   | nil=>intro n; rfl
   | cons x I ih=>intro n; cases n with
     | zero=>rfl
     | succ n=>simp [ih]
  rw [this,Y,A,he,<- U,List.eraseIdx_append_of_length_le (Nat.le_refl _)];simp
end MapG
namespace DskW
open Go.RowKit Go.MapKept OctMath MapG
def kw (l:List (List UInt8×FileD)):List (Value×Value):=l.map λp=>(.string (S p.1),.pointer (some ⟨p.2.blk,0,none⟩))
theorem DiskAt.pairs {base:Nat} {w:World} {D:DiskD} (h:DiskAt base w D):PairsAt w D.mB (kw D.files):=h.map
theorem adw:Keyed Tryz.prog 9 (IsKey .string):=Keyed.of_isKey Tryz.underlying9
theorem ag8 (l:List (List UInt8×FileD)):∀ p∈kw l,IsKey .string p.1:=λp hp=>by
 obtain ⟨q,_,rfl⟩:=List.mem_map.1 hp;trivial
def without (l:List (List UInt8×FileD)) (n:List UInt8):List (List UInt8×FileD):=l.filter λp=>!decide (p.1=n)
theorem uw {l l1 l2:List (List UInt8×FileD)} {n:List UInt8} {f:FileD} (hn:(l.map (·.1)).Nodup) (h:l=l1++(n,f) :: l2):without l n=l1++l2:=by
 subst h;rw [List.map_append,List.map_cons,List.nodup_append] at hn;obtain ⟨_,A,B⟩:=hn
 have E:without l1 n=l1:=List.filter_eq_self.2 λp hp=>by
  have:=B p.1 (List.mem_map.2 ⟨p,hp,rfl⟩) n (.head _)
  simpa using this
 have a2:without l2 n=l2:=List.filter_eq_self.2 λp hp=>by
  have:=(List.nodup_cons.1 A).1;have F:p.1≠n:=λe=>this (e ▸ List.mem_map.2 ⟨p,hp,rfl⟩)
  simpa using F
 show List.filter _ _=_;rw [List.filter_append,List.filter_cons];rw [show (!decide (((n,f):List UInt8×FileD).1=n))=false by simp];show without l1 n++without l2 n=_;rw [E,a2]
theorem bi {l:List (List UInt8×FileD)} {n:List UInt8} {p:List UInt8×FileD}:p∈without l n↔p∈l/\p.1≠n:=by
 unfold without; rw [List.mem_filter]; simp
theorem acg (l:List (List UInt8×FileD)) (n:List UInt8):(without l n).Sublist l:=List.filter_sublist
theorem aak (l:List (List UInt8×FileD)) (n:List UInt8):fe (without l n)<=fe l:=by
 unfold fe
 induction l with
 | nil=>exact Nat.le_refl _
 | cons p l ih =>
   unfold without at ih ⊢;rw [List.filter_cons]
   split
   iterate 2
    . simp only [List.map_cons,List.sum_cons]; omega
theorem uy {l:List (List UInt8×FileD)} {n:List UInt8} {f:FileD} (hn:(l.map (·.1)).Nodup) (hf:(n,f)∈l):∃ l1 l2,kw l=l1++(.string (S n),.pointer (some ⟨f.blk,0,none⟩)) :: l2/\kw (without l n)=l1++l2:=by
 obtain ⟨a,b,h⟩:=List.append_of_mem hf;refine ⟨kw a,kw b,by rw [h]; simp [kw],by rw [uw hn h]; simp [kw]⟩
theorem DiskAt.less {base:Nat} {w w':World} {D:DiskD} (h:DiskAt base w D) (hw:D.waits=[]) (n:List UInt8) (hp:PairsAt w' D.mB (kw (without D.files n))) (hm:Mod (λk=>k=D.mB) w w'):DiskAt base w' { D with files:=without D.files n }:=by
 have A:=acg D.files n;refine ⟨?_,hp,λp hp=>?_,?_,h.names.sublist (A.map _),h.blocks.sublist (A.map _),⟨h.apart.1,λp hp=>h.apart.2.1 p (bi.1 hp).1,λk hk=>⟨(h.apart.2.2 k hk).1,(h.apart.2.2 k hk).2.1,λp hp=>(h.apart.2.2 k hk).2.2 p (bi.1 hp).1⟩⟩,⟨h.above.1,h.above.2.1,λp hp=>h.above.2.2 p (bi.1 hp).1⟩,h.ints,?_,λx E=>by rw [show D.waits=[] from hw] at E; cases E⟩
 . exact (hm.block _ (h.lt (.inl rfl)) h.apart.1).trans h.head
 . have B:=(bi.1 hp).1
   exact (hm.block _ (h.lt (.inr (.inr (.inl ⟨p,B,rfl⟩)))) (h.apart.2.1 p B).2).trans (h.file p B)
 . exact SegW.ownsRow_mod h.row hm λk hk e=>(h.apart.2.2 k hk).2.1 e
 ·
  have:=aak D.files n;have F:=h.fits;unfold DiskD.size at F ⊢;show ((fe (without D.files n):Nat):Int)<=D.cap;omega
theorem ajh (a:Option Addr) (cp:Nat) (fv:Value) (w:World):Calls Tryz.prog 244 #[.slice a 0 cp,fv] w λe w'=>e=.returned (.int .i64 (-1))/\w'=w:=by
 go_enter Tryz.func244,Tryz.ntmps244;go_wp2_with fail;go_loopw [8] (λi wr=>i=.int .i64 0/\wr=w) (λi _=>0)
 case atStart=>exact ⟨rfl,rfl⟩
 case round =>
  obtain ⟨rfl,rfl⟩:=hrel;go_wp2_with fail;go_ret;exact ⟨rfl,rfl⟩
theorem ag9 (a:Option Addr) (cp:Nat) (fv:Value) (w:World):Calls Tryz.prog 220 #[.slice a 0 cp,fv] w λe w'=>e=.returned (.slice a 0 cp)/\w'=w:=by
 go_enter Tryz.func220,Tryz.ntmps220;go_wp2_with fail;refine (ajh a cp fv w).mono ?_;rintro e w2 ⟨rfl,A⟩;obtain rfl:=A.symm;go_wp2_with fail;go_ret;exact ⟨rfl,rfl⟩
theorem aq7 {base:Nat} {D:DiskD} (a:Option Addr) (cap:Nat) (n:List UInt8) (f:FileD) (w:World) (h:DiskAt base w D) (hw:D.waits=[]) (hf:(n,f)∈D.files) (hr:Row1 w a [.string (S n)]) (haf:∀ ad,a=some ad->¬ D.foot ad.block) :
 Calls Tryz.prog 169 #[.pointer (some ⟨D.blk,0,none⟩),.slice a 1 cap] w λe w'=>e=.returned (.tuple #[])/\DiskAt base w' { D with files:=without D.files n }/\Mod D.foot w w':=by
 obtain ⟨b,off,rfl,B⟩:=hr 0 (by simp);have al:=haf _ rfl;have F:=jw h n;rw [mq h.names hf] at F;unfold ry at F;simp only [Option.map_some] at F;obtain ⟨aw,O,A⟩:=kg h.row;rw [hw] at A;replace A:D.wv=.slice aw 0 O:=A;have c2:w.cell? ⟨D.blk,2,none⟩=some (.map (some D.mB)):=h.cell 2 _ rfl;have c3:w.cell? ⟨D.blk,3,none⟩=some (.slice aw 0 O):=h.cell 3 _ (by show some D.wv=_; rw [A]);have I:w.cell? ⟨b,off,none⟩=some (.string (S n)):=B;have R:Zq (Below w.heap.size w (w.alloc (.cells #[.pointer (some ⟨f.blk,0,none⟩)] 261))):=(Below.refl _ _).alloc (Nat.le_refl _) _;have HD:=zq h;have HW:=zq hw;have HF:=zq hf;have U:=zq A;clear h hw hf hr haf al B A;go_enter Tryz.func169,Tryz.ntmps169;go_wp2_with fail;go_loopw [9] (λi wr=>(i=.int .i64 0/\wr=w)\/(i=.int .i64 1/\Zq (DiskAt base wr { D with files:=without D.files n }/\Mod D.foot w wr))) (λi _=>1 - (intOf i).toNat)
 case atStart=>exact .inl ⟨rfl,rfl⟩
 case round =>
  rcases hrel with ⟨rfl,rfl⟩ | ⟨rfl,HR⟩
  ·
   go_upto_region 4 with fail
   have E:=HD.o.below R.o;have d2:(wr.alloc (.cells #[.pointer (some ⟨f.blk,0,none⟩)] 261)).cell? ⟨D.blk,2,none⟩=some (.map (some D.mB)):=E.cell 2 _ rfl;have d3:(wr.alloc (.cells #[.pointer (some ⟨f.blk,0,none⟩)] 261)).cell? ⟨D.blk,3,none⟩=some (.slice aw 0 O):=E.cell 3 _ (by show some D.wv=_; rw [U.o])
   have am:(wr.alloc (.cells #[.pointer (some ⟨f.blk,0,none⟩)] 261)).frozen? ⟨D.blk,3,none⟩=false:=by
    unfold World.frozen?; rw [show (wr.alloc (.cells #[.pointer (some ⟨f.blk,0,none⟩)] 261)).heap[(⟨D.blk,3,none⟩:Addr).block]?=_ from E.head]; rfl
   have J:=zq E;have ab:Zq (Mod D.foot wr (wr.alloc (.cells #[.pointer (some ⟨f.blk,0,none⟩)] 261))):=Mod.of_below R.o;clear E c2 c3 F I R;generalize wr.alloc (.cells #[.pointer (some ⟨f.blk,0,none⟩)] 261)=w1 at *
   generalize wr.heap.size=bx at *
   go_wp2_with fail;refine (ag9 aw O _ w1).mono ?_;rintro e w2 ⟨rfl,he⟩;obtain rfl:=he.symm;obtain ⟨M,X⟩:=J.o.set_waits D.wv D.waits ⟨rfl,rfl,rfl,Nat.le_refl _,λ_ _ _=>rfl⟩ J.o.row (λk hk=>.inl hk) J.o.waitf;rw [U.o] at M X
   have N:Zq (DiskAt base (w1.setCell ⟨D.blk,3,none⟩ (.slice aw 0 O)) D):=by
    have e:({ D with wv:=.slice aw 0 O,waits:=D.waits }:DiskD)=D:=by rw [<- U.o]
    rw [e] at M;exact M
   have an:=zq (ab.o.trans X);clear M X J ab;go_upto_region 5 with fail
   clear d2 d3 am;generalize w1.setCell ⟨D.blk,3,none⟩ (.slice aw 0 O)=w2 at *
   have e2:w2.cell? ⟨D.blk,2,none⟩=some (.map (some D.mB)):=N.o.cell 2 _ rfl;obtain ⟨l1,l2,hl,ac⟩:=uy N.o.names HF.o
   have ak:∃ w3,(∀ ty,(Builtin.delete_ #[80,9] ty #[.map (some D.mB),.string (S n)]).run Tryz.prog w2=.ok (.tuple #[]) w3)/\PairsAt w3 D.mB (l1++l2)/\Mod (λx=>x=D.mB) w2 w3:=by
    obtain ⟨w3,h1,h2,h3⟩:=aax (ty:=0) Tryz.underlying80 adw N.o.pairs (ag8 _) (k:=.string (S n)) trivial hl;exact ⟨w3,λty=>h1,h2,h3⟩
   obtain ⟨w3,av,Y,Z⟩:=ak;rw [<- ac] at Y;have ao:=zq (N.o.less HW.o n Y Z);have ap:=zq (an.o.trans (Z.mono (λk _ hk=>.inr (.inl hk))));clear Y Z hl ac;go_wp2_with fail;go_roundw
   case rel=>exact .inr ⟨by go_num,ao.o,ap.o⟩
   case measure=>simp [intOf]
  . go_wp2_with fail
    go_end0;exact ⟨rfl,HR.o.1,HR.o.2⟩
open SegW
theorem aha {D:DiskD} (hq:Quiet D) {n:List UInt8} {f:FileD} (hn:(D.files.map (·.1)).Nodup) (hf:(n,f)∈D.files):D.bars [n]=0:=by
 unfold DiskD.bars;rw [hq.up];simp [mq hn hf]
def DiskD.moved (D:DiskD) (n t:List UInt8) (f:FileD):DiskD:={ D with files:=without (without D.files t) n++[(t,f)] }
theorem xn {l:List (List UInt8×FileD)} {n:List UInt8} (h:∀ p∈l,p.1≠n):without l n=l:=List.filter_eq_self.2 λp hp=>by simpa using h p hp
theorem DiskAt.move {base:Nat} {w w':World} {D:DiskD} (h:DiskAt base w D) (J:D.waits=[]) {n t:List UInt8} {f:FileD} (hf:(n,f)∈D.files) (ht:∀ p∈D.files,p.1≠t) (hne:n≠t)
 (hp:PairsAt w' D.mB (kw (without D.files n++[(t,f)]))) (hm:Mod (λk=>k=D.mB) w w'):DiskAt base w' { D with files:=without D.files n++[(t,f)] }:=by
 have E:=acg D.files n
 have A:∀ p∈without D.files n++[(t,f)],∃ q∈D.files,q.2=p.2:=λp hp=>by
  rcases List.mem_append.1 hp with h1 | h1
  . exact ⟨p,(bi.1 h1).1,rfl⟩
  . rw [List.mem_singleton.1 h1]; exact ⟨_,hf,rfl⟩
 refine ⟨?_,hp,λp hp=>?_,?_,?_,?_,⟨h.apart.1,λp hp=>?_,λk hk=>⟨(h.apart.2.2 k hk).1,(h.apart.2.2 k hk).2.1,λp hp=>?_⟩⟩,⟨h.above.1,h.above.2.1,λp hp=>?_⟩,h.ints,?_,λx N=>by rw [show D.waits=[] from J] at N; cases N⟩
 . exact (hm.block _ (h.lt (.inl rfl)) h.apart.1).trans h.head
 . obtain ⟨q,B,e⟩:=A p hp
   rw [<- e];exact (hm.block _ (h.lt (.inr (.inr (.inl ⟨q,B,rfl⟩)))) (h.apart.2.1 q B).2).trans (h.file q B)
 . exact SegW.ownsRow_mod h.row hm λk hk e=>(h.apart.2.2 k hk).2.1 e
 ·
  show ((without D.files n++[(t,f)]).map (·.1)).Nodup;rw [List.map_append,List.nodup_append];refine ⟨h.names.sublist (E.map _),by simp,λa M b hb=>?_⟩;obtain ⟨p,hp,rfl⟩:=List.mem_map.1 M;rw [List.map_singleton,List.mem_singleton] at hb;rw [hb];exact ht p (bi.1 hp).1
 ·
  show ((without D.files n++[(t,f)]).map (·.2.blk)).Nodup;rw [List.map_append,List.nodup_append];refine ⟨h.blocks.sublist (E.map _),by simp,λa M b hb=>?_⟩;obtain ⟨p,hp,rfl⟩:=List.mem_map.1 M;rw [List.map_singleton,List.mem_singleton] at hb;rw [hb];obtain ⟨h1,F⟩:=bi.1 hp;obtain ⟨l1,l2,I⟩:=List.append_of_mem hf;have hb:=h.blocks;rw [I,List.map_append,List.map_cons,List.nodup_append] at hb;have J:=uw h.names I;rw [J] at hp
  rcases List.mem_append.1 hp with h3 | h3
  . exact hb.2.2 _ (List.mem_map.2 ⟨p,h3,rfl⟩) _ (.head _)
  . exact λe=>(List.nodup_cons.1 hb.2.1).1 (e ▸ List.mem_map.2 ⟨p,h3,rfl⟩)
 . obtain ⟨q,B,e⟩:=A p hp
   rw [<- e]; exact h.apart.2.1 q B
 . obtain ⟨q,B,e⟩:=A p hp
   rw [<- e]; exact (h.apart.2.2 k hk).2.2 q B
 . obtain ⟨q,B,e⟩:=A p hp
   rw [<- e]; exact h.above.2.2 q B
 ·
  obtain ⟨l1,l2,I⟩:=List.append_of_mem hf;have F:=h.fits;unfold DiskD.size at F ⊢;show ((fe (without D.files n++[(t,f)]):Nat):Int)<=D.cap;rw [uw h.names I];rw [I] at F;unfold fe at F ⊢;simp only [List.map_append,List.map_cons,List.sum_append,List.sum_cons,List.map_nil,List.sum_nil] at F ⊢;omega
theorem aoj {base:Nat} {D:DiskD} (n t:List UInt8) (f:FileD) (w:World) (h:DiskAt base w D) (hq:Quiet D) (hw:D.waits=[]) (hne:n≠t) (hf:(n,f)∈D.files) :
 Calls Tryz.prog 107 #[.pointer (some ⟨D.blk,0,none⟩),.string (S n),.string (S t)] w λe w'=>e=.returned (.int .i64 0)/\DiskAt base w' (D.moved n t f)/\Mod D.foot w w':=by
 have am:Zq (Below w.heap.size w (w.alloc (.cells #[.string (S n)] 9))):=(Below.refl _ w).alloc (Nat.le_refl _) _;have ba:Zq (Row1 (w.alloc (.cells #[.string (S n)] 9)) (some ⟨w.heap.size,0,none⟩) ([n].map λx=>Value.string (S x))):=row_one _ _ _;have an:=zq (h.below am.o);have ak:=zq (yw (some ⟨w.heap.size,0,none⟩) 1 [n] (by simp) _ an.o ba.o);rw [aha hq h.names hf] at ak;rw [show ([n]:List (List UInt8)).length=1 from rfl] at ak;have ao:=zq (aa7 _ an.o);rw [hq.burn,hq.done] at ao;have b1:Zq (D.moved n t f={ D with files:=without (without D.files t) n++[(t,f)] }):=rfl;have bb:(S n).toList≠(S t).toList:=by rw [S_toList,S_toList]; exact hne
 have b2:((S n).toList == (S t).toList)=false:=beq_eq_false_iff_ne.2 bb;have HQ:=zq hq;have HW:=zq hw;have B:=zq hne;have HF:=zq hf;have b3:=zq h.names;clear h hq hw hne hf bb ba;go_enter Tryz.func107,Tryz.ntmps107;go_wp2_with fail;refine ak.o.mono ?_;rintro e w1 ⟨rfl,he⟩;obtain rfl:=he;go_wp2_with fail;refine ao.o.mono ?_;rintro e w2 ⟨rfl,al,bc⟩;have ap:=zq al;have bd:Zq (Mod D.foot w w2):=(Mod.of_below am.o).trans (bc.mono λk _ hk=>.inl hk);have c1:w2.cell? ⟨D.blk,2,none⟩=some (.map (some D.mB)):=al.cell 2 _ rfl;have M:=jw al t;clear al bc ao ak an am
 cases hft:D.find t with
 | none =>
   rw [hft] at M;unfold ry at M;simp only [Option.map_none] at M;have e0:without D.files t=D.files:=xn (vo hft)
   have U:Zq (DiskAt base w2 { D with files:=without D.files t }):=by
    show DiskAt _ _ _;rw [e0]; exact ap.o
   have ar:=zq bd.o;clear hft e0;go_wp2_with fail;have A:=U.o.below ((Below.refl _ w2).drew);have d2:w2.cell? ⟨D.blk,2,none⟩=some (.map (some D.mB)):=U.o.cell 2 _ rfl;have N:=jw A n;rw [mq A.names (bi.2 ⟨HF.o,B.o⟩:(n,f)∈without D.files t)] at N;unfold ry at N;simp only [Option.map_some] at N
   obtain ⟨X,F,Y,E⟩:=sw Tryz.underlying80 adw A.pairs (ag8 _) (k:=.string (S t)) trivial (λp hp e=>by
    obtain ⟨q,hq,rfl⟩:=List.mem_map.1 hp;exact (bi.1 hq).2 (S_inj (by cases e; rfl))) (.pointer (some ⟨f.blk,0,none⟩))
   replace F:(Instr.mapUpdate 80 (.map (some D.mB)) (.string (S t)) (.pointer (some ⟨f.blk,0,none⟩))).run Tryz.prog w2.drew=.ok () X:=F
   have d5:X.cell? ⟨D.blk,2,none⟩=some (.map (some D.mB)):=by
    rw [E.cell (p:=⟨D.blk,2,none⟩) (A.lt (.inl rfl)) A.apart.1];exact A.cell 2 _ rfl
   have e5:kw (without D.files t)++[(.string (S t),.pointer (some ⟨f.blk,0,none⟩))]=kw (without D.files t++[(t,f)]):=by simp [kw]
   have I:PairsAt X D.mB (kw (without D.files t++[(t,f)])):=by rw [<- e5]; exact Y
   obtain ⟨l1,l2,hl,Z⟩:=uy (l:=without D.files t++[(t,f)]) (n:=n) (f:=f) (by
    rw [List.map_append,List.nodup_append];refine ⟨A.names,by simp,λa ha b hb=>?_⟩;obtain ⟨p,hp,rfl⟩:=List.mem_map.1 ha;rw [List.map_singleton,List.mem_singleton] at hb;rw [hb];exact (bi.1 hp).2) (List.mem_append_left _ (bi.2 ⟨HF.o,B.o⟩))
   have ab:∃ J,(∀ ty,(Builtin.delete_ #[80,9] ty #[.map (some D.mB),.string (S n)]).run Tryz.prog X=.ok (.tuple #[]) J)/\PairsAt J D.mB (l1++l2)/\Mod (λx=>x=D.mB) X J:=by
    obtain ⟨J,h1,h2,h3⟩:=aax (ty:=0) Tryz.underlying80 adw I (ag8 _) (k:=.string (S n)) trivial hl;exact ⟨J,λty=>h1,h2,h3⟩
   obtain ⟨J,av,O,R⟩:=ab
   have e6:without (without D.files t++[(t,f)]) n=without (without D.files t) n++[(t,f)]:=by
    unfold without;rw [List.filter_append];congr 1;simp [Ne.symm B.o]
   rw [<- Z,e6] at O
   have a1:Zq (DiskAt base J (D.moved n t f)):=by
    have:=A.move HW.o (bi.2 ⟨HF.o,B.o⟩) (λp hp=>(bi.1 hp).2) B.o O (E.trans R);exact this
   have a6:Zq (Mod D.foot w J):=(ar.o.drew.trans (E.mono λk _ hk=>.inr (.inl hk))).trans (R.mono λk _ hk=>.inr (.inl hk));clear A Y I E O R hl Z e5 e6;go_wp2_with fail;go_region;go_wp2_with fail;go_ret;exact ⟨rfl,a1.o,a6.o⟩
 | some g =>
   have HG:=zq (lm hft);rw [hft] at M;unfold ry at M;simp only [Option.map_some] at M;have a7:Zq (Below w2.heap.size w2 (w2.alloc (.cells #[.string (S t)] 9))):=(Below.refl _ w2).alloc (Nat.le_refl _) _
   have bl:=zq (aq7 (some ⟨w2.heap.size,0,none⟩) 1 t g _ (ap.o.below a7.o) HW.o HG.o (row_one _ _ _) (λad e bz=>by
    cases e
    have:=ap.o.lt bz;exact absurd this (Nat.lt_irrefl _)))
   clear hft;go_wp2_with fail;refine bl.o.mono ?_;rintro e w3 ⟨rfl,bm,bo⟩;have U:Zq (DiskAt base w3 { D with files:=without D.files t }):=bm;have ar:Zq (Mod D.foot w w3):=(bd.o.trans (Mod.of_below a7.o)).trans bo;clear bm bo bl a7 M c1;have A:=U.o.below ((Below.refl _ w3).drew);have d2:w3.cell? ⟨D.blk,2,none⟩=some (.map (some D.mB)):=U.o.cell 2 _ rfl;have N:=jw A n;rw [mq A.names (bi.2 ⟨HF.o,B.o⟩:(n,f)∈without D.files t)] at N;unfold ry at N;simp only [Option.map_some] at N
   obtain ⟨X,F,Y,E⟩:=sw Tryz.underlying80 adw A.pairs (ag8 _) (k:=.string (S t)) trivial (λp hp e=>by
    obtain ⟨q,hq,rfl⟩:=List.mem_map.1 hp;exact (bi.1 hq).2 (S_inj (by cases e; rfl))) (.pointer (some ⟨f.blk,0,none⟩))
   replace F:(Instr.mapUpdate 80 (.map (some D.mB)) (.string (S t)) (.pointer (some ⟨f.blk,0,none⟩))).run Tryz.prog w3.drew=.ok () X:=F
   have d5:X.cell? ⟨D.blk,2,none⟩=some (.map (some D.mB)):=by
    rw [E.cell (p:=⟨D.blk,2,none⟩) (A.lt (.inl rfl)) A.apart.1];exact A.cell 2 _ rfl
   have e5:kw (without D.files t)++[(.string (S t),.pointer (some ⟨f.blk,0,none⟩))]=kw (without D.files t++[(t,f)]):=by simp [kw]
   have I:PairsAt X D.mB (kw (without D.files t++[(t,f)])):=by rw [<- e5]; exact Y
   obtain ⟨l1,l2,hl,Z⟩:=uy (l:=without D.files t++[(t,f)]) (n:=n) (f:=f) (by
    rw [List.map_append,List.nodup_append];refine ⟨A.names,by simp,λa ha b hb=>?_⟩;obtain ⟨p,hp,rfl⟩:=List.mem_map.1 ha;rw [List.map_singleton,List.mem_singleton] at hb;rw [hb];exact (bi.1 hp).2) (List.mem_append_left _ (bi.2 ⟨HF.o,B.o⟩))
   have ab:∃ J,(∀ ty,(Builtin.delete_ #[80,9] ty #[.map (some D.mB),.string (S n)]).run Tryz.prog X=.ok (.tuple #[]) J)/\PairsAt J D.mB (l1++l2)/\Mod (λx=>x=D.mB) X J:=by
    obtain ⟨J,h1,h2,h3⟩:=aax (ty:=0) Tryz.underlying80 adw I (ag8 _) (k:=.string (S n)) trivial hl;exact ⟨J,λty=>h1,h2,h3⟩
   obtain ⟨J,av,O,R⟩:=ab
   have e6:without (without D.files t++[(t,f)]) n=without (without D.files t) n++[(t,f)]:=by
    unfold without;rw [List.filter_append];congr 1;simp [Ne.symm B.o]
   rw [<- Z,e6] at O
   have a1:Zq (DiskAt base J (D.moved n t f)):=by
    have:=A.move HW.o (bi.2 ⟨HF.o,B.o⟩) (λp hp=>(bi.1 hp).2) B.o O (E.trans R);exact this
   have a6:Zq (Mod D.foot w J):=(ar.o.drew.trans (E.mono λk _ hk=>.inr (.inl hk))).trans (R.mono λk _ hk=>.inr (.inl hk));clear A Y I E O R hl Z e5 e6;go_wp2_with fail;go_region;go_wp2_with fail;go_ret;exact ⟨rfl,a1.o,a6.o⟩
end DskW
namespace TopW
open Go.RowKit Go.MapKept OctMath DskW SegW
theorem aji {l:List (List UInt8×FileD)} {n t:List UInt8} {b:Nat} {i u:List UInt8} (h:∀ p∈l,p.1≠n):setNow (l++[(n,⟨b,i,u⟩)]) n t=l++[(n,⟨b,i,t⟩)]:=by
 unfold setNow;rw [List.map_append];congr 1
 . have:∀ p∈l,(λp:List UInt8×FileD=>if p.1=n then (p.1,{ p.2 with now:=t }) else p) p=p:=λp hp=>if_neg (h p hp)
   exact (List.map_congr_left this).trans (List.map_id _)
 . simp
theorem amb {D:DiskD} {l:List (List UInt8×FileD)} {n i u:List UInt8} {b:Nat} {wv:Value} {ws:List WriteD} (hf:D.files=l++[(n,⟨b,i,u⟩)]) (hw:D.waits=ws) (hb:∀ x∈ws,x.blk=b) (h:∀ p∈l,p.1≠n) :
 D.lasts [n] wv={ D with files:=l++[(n,⟨b,u,u⟩)],wv:=wv,waits:=[] }:=by
 unfold DiskD.lasts
 have B:D.files.map (λp=>if p.1∈[n] then (p.1,{ p.2 with img:=p.2.now }) else p)=l++[(n,⟨b,u,u⟩)]:=by
  rw [hf,List.map_append];congr 1
  . have:∀ p∈l,(λp:List UInt8×FileD=>if p.1∈[n] then (p.1,{ p.2 with img:=p.2.now }) else p) p=p:=λp hp=>if_neg (by simpa using h p hp)
    exact (List.map_congr_left this).trans (List.map_id _)
  . simp
 have E:D.waits.filter (λx=>!D.files.any (λp=>decide (p.1∈[n]) && decide (x.blk=p.2.blk)))=[]:=by
  rw [List.filter_eq_nil_iff];intro x A;rw [hw] at A;have:=hb x A;rw [hf];simp [this]
 rw [B,E]
theorem aq8 {base:Nat} {D:DiskD} (n t:List UInt8) (w:World) (h:DiskAt base w D) (hq:Quiet D) (hw:D.waits=[]) (hn:D.find n=none) (ht:t≠[]) (htl:t.length<=1048576) (hr:(t.length:Int)<=D.room) (hbase:base<=w.heap.size) :
 Calls Tryz.prog 104 #[.pointer (some ⟨D.blk,0,none⟩),.string (S n),.string (S t)] w λe w'=>e=.returned (.int .i64 0)/\∃ b wv,DiskAt base w' { D with files:=D.files++[(n,⟨b,t,t⟩)],wv:=wv }/\Mod D.foot w w'/\w.heap.size<=b/\∀ k,wv.ownBlock=some k->D.wv.ownBlock=some k\/w.heap.size<=k:=by
 have M:=zq (xe n w h hbase);rw [hq.createE hn] at M;have Z:=zq hq;have HW:=zq hw;have HN:=zq hn;have ab:Zq (∀ p∈D.files,p.1≠n):=vo hn;have HT:=zq ht;have HR:=zq hr;have HB:=zq hbase;clear h hq hw hn ht hr hbase;go_enter Tryz.func104,Tryz.ntmps104;go_wp2_with fail;refine M.o.mono ?_;rintro e w1 ⟨b,hb,rfl,F,N⟩;rw [Z.o.create HN.o] at F;have ac:(n,(⟨b,[],[]⟩:FileD))∈D.files++[(n,⟨b,[],[]⟩)]:=by simp
 have O:=Quiet.write (D:={ D with files:=D.files++[(n,⟨b,[],[]⟩)] }) ⟨Z.o.left,Z.o.up⟩ F.names (n:=n) (f:=⟨b,[],[]⟩) (mq F.names ac) (o:=0) rfl HT.o (by
  show (t.length:Int)<=D.cap - ((fe (D.files++[(n,⟨b,[],[]⟩)]):Nat):Int);have h1:=HR.o;have h2:fe (D.files++[(n,(⟨b,[],[]⟩:FileD))])=fe D.files:=by unfold fe; simp
  rw [h2]; exact h1)
 have R:=zq (zw n 0 (by omega) t (by omega) (by show D.waits.length<=_; rw [HW.o]; decide) w1 F (Nat.le_trans HB.o N.size));rw [(O D.wv).1] at R
 have ak:Zq (∀ wv,DiskD.write { D with files:=D.files++[(n,⟨b,[],[]⟩)] } n 0 t wv={ D with files:=D.files++[(n,⟨b,[],t⟩)],wv:=wv,waits:=[⟨b,0,t⟩] }):=λwv=>by
  rw [(O wv).2];show ({ D with files:=setNow (D.files++[(n,⟨b,[],[]⟩)]) n ([]++t),wv:=wv,waits:=D.waits++[⟨b,0,t⟩] }:DiskD)=_;rw [HW.o,List.nil_append,List.nil_append,aji ab.o]
 have al:=zq N;have U:=zq hb;clear F N ac O M hb;go_wp2_with fail;refine R.o.mono ?_;rintro e w2 ⟨wv,rfl,A,am,X⟩;rw [ak.o] at A X
 have a6:Zq (Mod (λk=>D.foot k\/w.heap.size<=k) w w2):=(al.o.mono λk _ h=>.inl h).trans (am.mono λk _ h=>by
  rcases h with h | h | ⟨p,hp,h⟩ | h
  . exact .inl (.inl h)
  . exact .inl (.inr (.inl h))
  ·
   rcases List.mem_append.1 hp with h3 | h3
   . exact .inl (.inr (.inr (.inl ⟨p,h3,h⟩)))
   . rw [List.mem_singleton.1 h3] at h
     have h:k=b:=h;exact .inr (by have:=U.o; omega)
  . exact .inl (.inr (.inr (.inr h))))
 have I:∀ k,wv.ownBlock=some k->D.wv.ownBlock=some k\/w.heap.size<=k:=λk hk=>by
  rcases X k (.inr (.inr (.inr hk))) with h | h
  ·
   rcases h with h | h | ⟨p,hp,h⟩ | h
   . exact absurd h (A.apart.2.2 k hk).1
   . exact absurd h (A.apart.2.2 k hk).2.1
   . rcases List.mem_append.1 hp with h3 | h3
     . exact absurd h ((A.apart.2.2 k hk).2.2 p (List.mem_append_left _ h3))
     . rw [List.mem_singleton.1 h3] at h
       exact absurd h ((A.apart.2.2 k hk).2.2 (n,⟨b,[],t⟩) (by simp))
   . exact .inl h
  . exact .inr (by have:=al.o.size; omega)
 have J:=zq I;have an:Zq (Below w2.heap.size w2 (w2.alloc (.cells #[.string (S n)] 9))):=(Below.refl _ w2).alloc (Nat.le_refl _) _;have ao:=A.below an.o
 have ap:=zq (sync_any (some ⟨w2.heap.size,0,none⟩) 1 [n] (by simp) _ ao (row_one _ _ _) (λad e a7=>by
  cases e
  exact absurd (A.lt a7) (Nat.lt_irrefl _)) (by show (1:Nat)<=1048576; omega))
 have Y:Quiet ({ D with files:=D.files++[(n,⟨b,[],t⟩)],wv:=wv,waits:=[⟨b,0,t⟩] }:DiskD):=⟨Z.o.left,Z.o.up⟩;have B:DiskD.bars { D with files:=D.files++[(n,⟨b,[],t⟩)],wv:=wv,waits:=[⟨b,0,t⟩] } [n]=0:=aha Y A.names (f:=⟨b,[],t⟩) (by simp)
 have ar:DiskD.syncE { D with files:=D.files++[(n,⟨b,[],t⟩)],wv:=wv,waits:=[⟨b,0,t⟩] } [n]=0:=by
  unfold DiskD.syncE;rw [if_pos B];exact Y.done
 rw [ar,show ([n]:List (List UInt8)).length=1 from rfl] at ap
 have a8:Zq (∀ E,DiskD.sync { D with files:=D.files++[(n,⟨b,[],t⟩)],wv:=wv,waits:=[⟨b,0,t⟩] } [n] E={ D with files:=D.files++[(n,⟨b,t,t⟩)],wv:=E }):=λE=>by
  unfold DiskD.sync;rw [if_pos B,if_neg (by show ¬ D.left=0; rw [Z.o.left]; decide),Y.burn,amb (l:=D.files) (b:=b) (i:=[]) (u:=t) (ws:=[⟨b,0,t⟩]) rfl rfl (λx hx=>by rw [List.mem_singleton.1 hx]) ab.o];show ({ D with files:=D.files++[(n,⟨b,t,t⟩)],wv:=E,waits:=[] }:DiskD)={ D with files:=D.files++[(n,⟨b,t,t⟩)],wv:=E };rw [<- HW.o]
 clear A am X I ao B ar R ak;go_wp2_with fail;refine ap.o.mono ?_;rintro e w3 ⟨E,rfl,ba,av,bb⟩;rw [a8.o] at av;go_wp2_with fail;go_ret
 have bc:Mod (λk=>D.foot k\/w.heap.size<=k) w w3:=(a6.o.trans (Mod.of_below an.o)).trans (bb.mono λk _ h=>by
  rcases h with h | h | ⟨p,hp,h⟩ | h
  . exact .inl (.inl h)
  . exact .inl (.inr (.inl h))
  ·
   rcases List.mem_append.1 hp with h3 | h3
   . exact .inl (.inr (.inr (.inl ⟨p,h3,h⟩)))
   . rw [List.mem_singleton.1 h3] at h
     have h:k=b:=h;exact .inr (by have:=U.o; omega)
  . exact (J.o k h).imp (λh=>.inr (.inr (.inr h))) λh=>h)
 exact ⟨rfl,b,E,av,bc.mono λk hk h=>h.elim (λh=>h) λh=>by omega,U.o,λk hk=>J.o k (by rw [<- ba]; exact hk)⟩
open CacheW
theorem ahb (a:Option Addr) (cp:Nat) (v:Value) (w:World):Calls Tryz.prog 162 #[.slice a 0 cp,v] w λe w'=>e=.returned (.int .i64 (-1))/\w'=w:=by
 go_enter Tryz.func162,Tryz.ntmps162;go_wp2_with fail;go_loopw [8] (λi wr=>i=.int .i64 0/\wr=w) (λi _=>0)
 case atStart=>exact ⟨rfl,rfl⟩
 case round =>
  obtain ⟨rfl,rfl⟩:=hrel;go_wp2_with fail;go_ret;exact ⟨rfl,rfl⟩
theorem aee (a:Option Addr) (cp:Nat) (v:Value) (w:World):Calls Tryz.prog 101 #[.slice a 0 cp,v] w λe w'=>e=.returned (.bool false)/\w'=w:=by
 go_enter Tryz.func101,Tryz.ntmps101;go_wp2_with fail;refine (ahb a cp v w).mono ?_;rintro e w2 ⟨rfl,A⟩;obtain rfl:=A.symm;go_wp2_with fail;go_ret;exact ⟨rfl,rfl⟩
def uz (n:List UInt8):List UInt8:=n++[46,110,101,119]
def DiskD.saved (D:DiskD) (n:List UInt8) (b:Nat) (t:List UInt8) (wv:Value):DiskD:={ D with files:=without D.files n++[(n,⟨b,t,t⟩)],wv:=wv }
theorem ach (l m:List (List UInt8×FileD)) (n:List UInt8):without (l++m) n=without l n++without m n:=List.filter_append ..
theorem new_ne (n:List UInt8):uz n≠n:=λe=>by
 have:=congrArg List.length e;simp [uz] at this
theorem ap6 {t:List UInt8}:(⟨(CrcMath.ag (S t).data.toList).toArray⟩:ByteArray)=S (CrcMath.ag t):=by
 rw [jv]; rfl
theorem aq9 {base:Nat} {D:DiskD} (n t:List UInt8) (w:World) (h:DiskAt base w D) (hq:Quiet D) (hw:D.waits=[]) (hno:∀ x∈D.files.map (·.1),Lib.hasPrefix x (uz n)=false) (hfl:D.files.length<=1048576) (hnl:∀ p∈D.files,p.1.length<=maxLen) (hn16:n.length<=1000) (htl:t.length<=100000) (hr:((CrcMath.ag t).length:Int)<=D.room) (hbase:base<=w.heap.size) :
 Calls Tryz.prog 48 #[.pointer (some ⟨D.blk,0,none⟩),.string (S n),.string (S t)] w λe w'=>e=.returned (.int .i64 0)/\∃ b wv,DiskAt base w' (DiskD.saved D n b (CrcMath.ag t) wv)/\Mod D.foot w w'/\w.heap.size<=b/\∀ k,wv.ownBlock=some k->D.wv.ownBlock=some k\/w.heap.size<=k:=by
 have U:=zq (aft (uz n) w h hfl hnl hno)
 have A:D.find (uz n)=none:=CacheW.vw.2 λhm=>by
  have h1:=hno _ hm;have h2:Lib.hasPrefix (uz n) (uz n)=true:=by unfold Lib.hasPrefix; simp
  rw [h2] at h1; cases h1
 have HD:=zq h;have HQ:=zq hq;have HW:=zq hw;have X:=zq A;have HR:=zq hr;have HB:=zq hbase;have Y:=zq (new_ne n)
 have av:Zq (S n++⟨#[46,110,101,119]⟩=S (uz n)):=by
  show S n++S [46,110,101,119]=_;rw [gm]; rfl
 have bm:=ah n;clear h hq hw A hr hbase hno hnl;go_enter Tryz.func48,Tryz.ntmps48;go_wp2_with fail;rw [av.o];refine U.o.mono ?_;rintro e w1 ⟨⟨a,c,rfl⟩,Z⟩;have M:=zq Z;clear Z U;go_wp2_with fail;refine (aee a c _ w1).mono ?_;rintro e w2 ⟨rfl,he⟩;obtain rfl:=he.symm;go_wp2_with fail;refine (CrcW.new_any w1).mono ?_;rintro e w3 ⟨B,rfl,I⟩;have O:Zq (Below w.heap.size w w3):=M.o.trans (I.below.mono M.o.size);have R:=zq (CrcW.agn B (S t) (by rw [ah]; omega) w3 I.size I.tabs);rw [ap6] at R;clear I M;go_wp2_with fail;refine R.o.mono ?_;rintro e w4 ⟨rfl,ab⟩;have E:Zq (Below w.heap.size w w4):=O.o.trans (ab.mono O.o.size)
 have ac:CrcMath.ag t≠[]:=λe=>by
  have:=CrcMath.jf t;rw [e] at this;simp at this;omega
 have ad:=zq (aq8 (uz n) (CrcMath.ag t) w4 (HD.o.below E.o) HQ.o HW.o X.o ac (by rw [CrcMath.jf]; omega) HR.o (Nat.le_trans HB.o E.o.size));clear ab R O ac;go_wp2_with fail;refine ad.o.mono ?_;rintro e w5 ⟨rfl,b,wv,ak,al,am,J⟩;have F:=aoj (uz n) n ⟨b,CrcMath.ag t,CrcMath.ag t⟩ w5 ak ⟨HQ.o.left,HQ.o.up⟩ HW.o Y.o (by simp);have a1:Zq (Mod D.foot w w5):=(Mod.of_below E.o).trans al;have an:Zq (w.heap.size<=b):=Nat.le_trans E.o.size am;have ao:Zq (∀ k,wv.ownBlock=some k->D.wv.ownBlock=some k\/w.heap.size<=k):=λk hk=>(J k hk).imp (λh=>h) λh=>Nat.le_trans E.o.size h
 have ap:Zq (DiskD.moved { D with files:=D.files++[(uz n,⟨b,CrcMath.ag t,CrcMath.ag t⟩)],wv:=wv } (uz n) n ⟨b,CrcMath.ag t,CrcMath.ag t⟩=DiskD.saved D n b (CrcMath.ag t) wv):=by
  show ({ D with files:=without (without (D.files++[(uz n,_)]) n) (uz n)++[(n,_)],wv:=wv }:DiskD)=_;have e1:without [(uz n,(⟨b,CrcMath.ag t,CrcMath.ag t⟩:FileD))] n=[(uz n,⟨b,CrcMath.ag t,CrcMath.ag t⟩)]:=xn λp hp=>by rw [List.mem_singleton.1 hp]; exact Y.o
  have e2:without (without D.files n) (uz n)=without D.files n:=xn λp hp=>vo X.o p (bi.1 hp).1
  have e3:without [(uz n,(⟨b,CrcMath.ag t,CrcMath.ag t⟩:FileD))] (uz n)=[]:=by simp [without]
  rw [ach,e1,ach,e2,e3,List.append_nil];rfl
 rw [ap.o] at F;have a6:=zq F
 have a7:Zq (∀ k,DiskD.foot { D with files:=D.files++[(uz n,⟨b,CrcMath.ag t,CrcMath.ag t⟩)],wv:=wv } k->D.foot k\/w.heap.size<=k):=λk hk=>by
  rcases hk with h | h | ⟨p,hp,h⟩ | h
  . exact .inl (.inl h)
  . exact .inl (.inr (.inl h))
  ·
   rcases List.mem_append.1 hp with h3 | h3
   . exact .inl (.inr (.inr (.inl ⟨p,h3,h⟩)))
   . rw [List.mem_singleton.1 h3] at h
     have h:k=b:=h;exact .inr (by have:=an.o; omega)
  . exact (ao.o k h).imp (λh=>.inr (.inr (.inr h))) λh=>h
 clear ak al am J F ad ap;go_wp2_with fail;refine a6.o.mono ?_;rintro e w6 ⟨rfl,a8,ba⟩;go_wp2_with fail;go_ret;exact ⟨rfl,b,wv,a8,((a1.o.mono (N:=λk=>D.foot k\/w.heap.size<=k) λk _ h=>.inl h).trans (ba.mono λk _ h=>a7.o k h)).mono λk hk h=>h.elim (λh=>h) λh=>by omega,an.o,ao.o⟩
end TopW
namespace StoW
open Go.RowKit Go.MapKept OctMath RecMath RecW TapeMath DskW SegW MapG TapeW PendW CacheW CqW TopW
theorem aay {D:DiskD} {n t:List UInt8} {b:Nat} {wv:Value} (m:List UInt8) (h:m≠n):(DiskD.saved D n b t wv).find m=D.find m:=by
 unfold DiskD.saved DiskD.find DskW.without;dsimp only;rw [List.find?_append]
 have h1:([(n,(⟨b,t,t⟩:FileD))].find? λp=>p.1 == m)=none:=List.find?_eq_none.2 λp hp=>by
  rw [List.mem_singleton.1 hp]
  simpa using λe=>h e.symm
 have A:((D.files.filter λp=>!decide (p.1=n)).find? λp=>p.1 == m)=D.files.find? λp=>p.1 == m:=by
  induction D.files with
  | nil=>rfl
  | cons p l ih =>
    by_cases hp:p.1=n
    . rw [List.filter_cons_of_neg (by simp [hp]),ih,List.find?_cons_of_neg (by simpa using λe=>h (e.symm.trans hp))]
    . rw [List.filter_cons_of_pos (by simp [hp])]
      by_cases hm:p.1=m
      . rw [List.find?_cons_of_pos (by simpa using hm),List.find?_cons_of_pos (by simpa using hm)]
      . rw [List.find?_cons_of_neg (by simpa using hm),List.find?_cons_of_neg (by simpa using hm),ih]
 rw [A,h1,Option.or_none]
theorem ahc {D:DiskD} {n t:List UInt8} {b:Nat} {wv:Value} (m:List UInt8) (h:m≠n):(DiskD.saved D n b t wv).bytes m=D.bytes m:=by
 unfold DiskD.bytes; rw [aay m h]
theorem aaz {D:DiskD} {n t:List UInt8} {b B:Nat} {wv:Value} (hb:B<=b) (hv:∀ k,wv.ownBlock=some k->D.wv.ownBlock=some k\/B<=k):∀ k,(DiskD.saved D n b t wv).foot k->D.foot k\/B<=k:=λk hk=>by
 rcases hk with h | h | ⟨p,hp,h⟩ | h
 . exact .inl (.inl h)
 . exact .inl (.inr (.inl h))
 ·
  rcases List.mem_append.1 hp with h3 | h3
  . exact .inl (.inr (.inr (.inl ⟨p,(bi.1 h3).1,h⟩)))
  . rw [List.mem_singleton.1 h3] at h
    have h:k=b:=h;exact .inr (by omega)
 . exact (hv k h).imp (λh=>.inr (.inr (.inr h))) λh=>h
theorem ajj {D:DiskD} {n t:List UInt8} {b:Nat} {wv:Value}:D.room - (t.length:Int)<=(DiskD.saved D n b t wv).room:=by
 unfold DiskD.room DiskD.size DiskD.saved;dsimp only;rw [SegW.xg];have h1:=aak D.files n;have A:fe [(n,(⟨b,t,t⟩:FileD))]=t.length:=by simp [fe]
 omega
theorem _root_.Go.Proofs.YtcgonejkkpbepaaGreatDoor.TapeW.TapeAt.saved {base:Nat} {w w':World} {T:TapeD} {n t:List UInt8} {b:Nat} {wv:Value} (h:TapeAt base w T) (hn:∀ p,p<=99999999->n≠af ol p) (hwt:T.D.waits=[])
 {M:Nat->Prop} (hd:DiskAt base w' (DiskD.saved T.D n b t wv)) (hm:Mod M w w') (hM:∀ k,M k->T.D.foot k\/¬ T.foot k) (hb:w.heap.size<=b) (hv:∀ k,wv.ownBlock=some k->T.D.wv.ownBlock=some k\/w.heap.size<=k):TapeAt base w' { T with D:=DiskD.saved T.D n b t wv }:=by
 have J:=aaz (D:=T.D) (n:=n) (t:=t) hb hv;refine { h with own:=h.own.mod hm (λk hk B=>(hM k B).elim (h.away k hk).1 λA=>A (.inl hk)),away:=λk hk=>⟨λB=>?_,(h.away k hk).2⟩,whole:=?_,wait:=Waiting.none hwt }
 . rcases J k B with A | A
   . exact (h.away k hk).1 A
   . have:=h.own.lt hk; omega
 ·
  have E:=h.whole;refine ⟨E.seg.mod hm (λk hk B=>(hM k B).elim (λA=>E.ap k A hk) λA=>A (.inr (.inr hk))),hd,E.db,λk hk B=>?_,λi F=>?_,λp hp F=>?_⟩
  . rcases J k hk with A | A
    . exact E.ap k A B
    . have:=E.seg.lt B; omega
  ·
   have F:i < T.R.n:=F;have I:af T.R.head (T.R.b+i * T.R.size)≠n:=λe=>hn (T.R.b+i * T.R.size) (by have:=E.seg.long (by omega); have:i * T.R.size<=(T.R.n - 1) * T.R.size:=Nat.mul_le_mul_right _ (by omega); omega) (by rw [<- h.head]; exact e.symm)
   show (DiskD.saved T.D n b t wv).bytes _=_/\((DiskD.saved T.D n b t wv).find _).isSome=true;rw [ahc _ I,aay _ I];exact E.ok i F
  . show (DiskD.saved T.D n b t wv).find _=none
    rw [aay _ (λe=>hn p hp (by rw [<- h.head]; exact e.symm))];exact E.only p hp F
structure TabD where
 blk:Nat
 dk:Nat
 v:Value
 l:List (List UInt8×Nat)
def TabD.foot (X:TabD) (k:Nat):Prop:=k=X.blk\/X.v.ownBlock=some k
structure TabAt (base:Nat) (w:World) (X:TabD):Prop where
 cells:w.heap[X.blk]?=some (.cells #[.pointer (some ⟨X.dk,0,none⟩),X.v] 113 (0,0))
 row:w.ownsRow base 111 2 X.v X.l.length (iw X.l)
 low:base<=X.blk
theorem TabAt.lt {base:Nat} {w:World} {X:TabD} (h:TabAt base w X) {k:Nat} (hk:X.foot k):k < w.heap.size:=by
 rcases hk with hk | hk
 . rw [hk]; exact (Array.getElem?_eq_some_iff.1 h.cells).1
 . rcases h.row.2 with ⟨e,_⟩ | ⟨g,cap,cur,e,_,hg,_⟩
   . rw [e] at hk; cases hk
   . rw [e] at hk; cases hk; exact (Array.getElem?_eq_some_iff.1 hg).1
theorem TabAt.mod {base:Nat} {w w':World} {X:TabD} {M:Nat->Prop} (h:TabAt base w X) (hm:Mod M w w') (hM:∀ k,X.foot k->¬ M k):TabAt base w' X :=
 ⟨(hm.block _ (h.lt (.inl rfl)) (hM _ (.inl rfl))).trans h.cells,SegW.ownsRow_mod h.row hm (λk hk=>hM k (.inr hk)),h.low⟩
theorem TabAt.below {base:Nat} {w w':World} {X:TabD} (h:TabAt base w X) (hb:Below w.heap.size w w'):TabAt base w' X :=
 h.mod (M:=λ_=>False) (Mod.of_below hb) (λ_ _ h=>h)
structure StoTab (base:Nat) (w:World) (S:StoD) (X:TabD):Prop where
 sto:StoAt base w S
 tab:TabAt base w X
 top:S.top=.pointer (some ⟨X.blk,0,none⟩)
 dk:X.dk=S.T.D.blk
 away:∀ k,S.foot k->¬ X.foot k
theorem StoTab.mod {base:Nat} {w w':World} {S:StoD} {X:TabD} {M:Nat->Prop} (h:StoTab base w S X) (hm:Mod M w w') (h1:∀ k,S.foot k->¬ M k) (h2:∀ k,X.foot k->¬ M k):StoTab base w' S X :=
 { h with sto:=h.sto.mod hm h1,tab:=h.tab.mod hm h2 }
theorem StoTab.below {base:Nat} {w w':World} {S:StoD} {X:TabD} (h:StoTab base w S X) (hb:Below w.heap.size w w'):StoTab base w' S X :=
 h.mod (M:=λ_=>False) (Mod.of_below hb) (λ_ _ h=>h) (λ_ _ h=>h)
def StoD.disk (S:StoD) (D:DiskD):StoD:={ S with T:={ S.T with D:=D } }
theorem StoTab.add {base m:Nat} {w w':World} {S:StoD} {X:TabD} {v:Value} {l:List (List UInt8×Nat)} {n t:List UInt8} {b:Nat} {wv:Value} (h:StoTab base w S X) (hn:∀ p,p<=99999999->n≠af ol p) (hwt:S.T.D.waits=[]) (hd:DiskAt base w' (DiskD.saved S.T.D n b t wv)) (ht:TabAt base w' ⟨X.blk,S.T.D.blk,v,l⟩)
 (hm:Mod (λk=>S.T.D.foot k\/k=X.blk) w w') (hz:w.heap.size<=m) (hb:m<=b) (hv:∀ k,wv.ownBlock=some k->S.T.D.wv.ownBlock=some k\/m<=k) (hv2:∀ k,v.ownBlock=some k->w.heap.size<=k/\k < m) :
 StoTab base w' (S.disk (DiskD.saved S.T.D n b t wv)) ⟨X.blk,S.T.D.blk,v,l⟩/\∀ k,(S.disk (DiskD.saved S.T.D n b t wv)).foot k->S.foot k\/w.heap.size<=k:=by
 have J:¬ S.foot X.blk:=λB=>h.away _ B (.inl rfl)
 have N:=aaz (D:=S.T.D) (n:=n) (t:=t) hb hv;have E:∀ k,S.T.D.foot k->S.T.foot k:=λk hk=>.inr (.inl hk)
 have F:∀ k,TapeD.foot { S.T with D:=DiskD.saved S.T.D n b t wv } k->S.T.foot k\/m<=k:=λk hk=>by
  rcases hk with h1 | h1 | h1
  . exact .inl (.inl h1)
  . exact (N k h1).imp (E k) λh=>h
  . exact .inl (.inr (.inr h1))
 have O:=h.sto.tape.saved hn hwt hd hm (λk hk=>hk.imp (λh=>h) λe B=>J (by subst e; exact .inr (.inl B))) (Nat.le_trans hz hb) (λk hk=>(hv k hk).imp (λh=>h) λh=>Nat.le_trans hz h);have R:=h.sto.pend.mod hm (λk hk B=>B.elim (λA=>(h.sto.away.1 k (E k A)).2 hk) λe=>J (by subst e; exact .inr (.inr hk)));have M:¬ (S.T.D.foot S.blk\/S.blk=X.blk):=λB=>B.elim (λA=>(h.sto.away.1 _ (E _ A)).1 rfl) λe=>J (by rw [<- e]; exact .inl rfl)
 have I:∀ k,(S.disk (DiskD.saved S.T.D n b t wv)).foot k->S.foot k\/m<=k:=λk hk=>by
  rcases hk with h1 | h1 | h1
  . exact .inl (.inl h1)
  . exact (F k h1).imp (λh=>.inr (.inl h)) λh=>h
  . exact .inl (.inr (.inr h1))
 refine ⟨⟨⟨(hm.block _ (h.sto.lt (.inl rfl)) M).trans h.sto.cells,O,R,h.sto.low,λk hk=>?_,h.sto.away.2⟩,ht,h.top,rfl,λk hk B=>?_⟩,λk hk=>(I k hk).imp (λh=>h) λh=>Nat.le_trans hz h⟩
 ·
  rcases F k hk with h1 | h1
  . exact h.sto.away.1 k h1
  . have A:=h.sto.lt (.inl rfl)
    exact ⟨by show k≠S.blk; omega,λU=>by have:=h.sto.pend.lt U; omega⟩
 ·
  rcases I k hk with h1 | h1
  . rcases B with A | A
    . exact J (by rw [<- (A:k=X.blk)]; exact h1)
    . have:=(hv2 k A).1; have:=h.sto.lt h1; omega
  . rcases B with A | A
    . have:=h.tab.lt (.inl rfl); have A:k=X.blk:=A; omega
    . have:=(hv2 k A).2; omega
end StoW
section
open Go.RowKit
section
variable {P:Program} {w:World}
theorem acn (t ty e:TypeId) (i:TypeInfo) (ht:P.underlying t=some (.slice e)) (hi:P.info? e=some i) (b a:Option Addr) (c:Nat) :
 (Builtin.append_ #[t,t] ty #[.slice b 0 0,.slice a 0 c]).run P w=.ok (.slice b 0 0) w:=by
 cases a <;> cases b <;> simp [Builtin.append_,run_underlying ht,sizeOf,typeInfo,hi,Builtin.lenOf,Builtin.firstCells,storeCells,loadCells,loadCellsFrom]
end
end
namespace TopW
open Go.RowKit Go.MapKept OctMath RecMath RecW DskW SegW CacheW StoW
open OctW (fw bn j5)
def uq (l:List (List UInt8×Nat)):List UInt8:=l.flatMap λx=>fw x.1++be 1 x.2
def ug (l:List (List UInt8×Nat)):List UInt8:=be 1 l.length++uq l
theorem arw (x:Nat) (h:x < 256):OctW.ma 1 [(x:Int)]=(be 1 x,0):=by
 have h1:OctW.ma ((1:Nat):Int) [(x:Int)]=_:=abb 1 [(x:Int)] (by omega) (by omega) (λy A=>by
  rw [List.mem_singleton.1 A]; exact ⟨by omega,by show (x:Int) < ((256 ^ 1:Nat):Int); omega⟩)
 rw [show ((1:Nat):Int)=1 from rfl] at h1;rw [h1]; simp [OctW.numsL]
theorem ara (t:List UInt8) (h:t.length<=1000):j5 [t]=(fw t,0):=by
 unfold OctW.j5;rw [if_pos (λx A=>by rw [List.mem_singleton.1 A]; omega)];simp [bn]
theorem ab5 (l:List (List UInt8×Nat)) (h:∀ x∈l,x.1.length<=1000/\x.2<=255):(uq l).length<=l.length * 1003:=by
 induction l with
 | nil=>simp [uq]
 | cons x l ih =>
   have h1:=h x (.head _);have E:=ih λy A=>h y (.tail _ A)
   have B:uq (x :: l)=(fw x.1++be 1 x.2)++uq l:=rfl;rw [B,List.length_append,List.length_append,OctW.je,bf,List.length_cons,Nat.add_mul];omega
theorem aok (a:Option Addr) (cp:Nat) (l:List (List UInt8×Nat)) (hl:l.length<=255) (hn:∀ x∈l,x.1.length<=1000/\x.2<=255) (W:World) (hr:RowT W a l) :
 Calls Tryz.prog 49 #[.slice a l.length cp] W λe w'=>e=.returned (.string (S (ug l)))/\Below W.heap.size W w':=by
 have HR:=zq hr;have M:=zq hn
 have N:Zq (∀ (w:World) (x:Nat),x < 256->Calls Tryz.prog 108 #[.int .i64 1,.slice (some ⟨w.heap.size,0,none⟩) 1 1] (w.alloc (.cells #[.int .i64 (x:Int)] 3)) λe w'=>e=.returned (.tuple #[.string (S (be 1 x)),.int .i64 0])/\Below w.heap.size w w'):=λw x h=>by
  have h1:=OctW.nums_any 1 (by omega) (by omega) (some ⟨w.heap.size,0,none⟩) 1 [(x:Int)] (by simp) (λy hy=>by simp at hy; omega) _ (zb w [(x:Int)] 3);rw [arw x h] at h1;exact h1.mono λe w' ⟨he,hb⟩=>⟨he,((Below.refl _ w).alloc (Nat.le_refl _) _).trans (hb.mono (by rw [World.size_alloc]; omega))⟩
 have am:Zq (∀ (w:World) (t:List UInt8),t.length<=1000->Calls Tryz.prog 109 #[.slice (some ⟨w.heap.size,0,none⟩) 1 1] (w.alloc (.cells #[.string (S t)] 9)) λe w'=>e=.returned (.tuple #[.string (S (fw t)),.int .i64 0])/\Below w.heap.size w w'):=λw t h=>by
  have h1:=OctW.abr (some ⟨w.heap.size,0,none⟩) 1 [t] (by simp) (by simp [bn,OctW.je]; omega) _ (agf w [S t] 9);rw [ara t h] at h1;exact h1.mono λe w' ⟨he,hb⟩=>⟨he,((Below.refl _ w).alloc (Nat.le_refl _) _).trans (hb.mono (by rw [World.size_alloc]; omega))⟩
 have a1:=zq (ab5 l hn);clear hr hn;go_enter Tryz.func49,Tryz.ntmps49;go_wp2_with fail;refine (N.o W l.length (by omega)).mono ?_;rintro e w1 ⟨rfl,O⟩;have R:=zq O;clear O;have U:Zq (S (be 1 l.length)=S (be 1 l.length++uq (l.take 0))):=by show _=_; simp [uq]
 go_wp2_with fail;go_loopw [20,3] (λi s wr=>∃ k:Nat,k<=l.length/\i=.int .i64 (k:Int)/\s=.string (S (be 1 l.length++uq (l.take k)))/\Zq (Below W.heap.size W wr)) (λi _ _=>l.length+1 - (intOf i).toNat)
 case atStart=>exact ⟨0,by omega,rfl,by rw [U.o],R.o⟩
 case round =>
  obtain ⟨k,hk,rfl,rfl,X⟩:=hrel;clear R U
  by_cases hlt:k < l.length
  ·
   obtain ⟨g,rfl,a6,h1,h2⟩:=(HR.o.below X.o) k hlt;have E:=M.o l[k] (List.getElem_mem hlt);have Y:l.take (k+1)=l.take k++[l[k]]:=List.take_succ_eq_append_getElem hlt
   have an:(uq (l.take k)).length<=255 * 1003:=by
    have h3:=ab5 (l.take k) λx E=>M.o x (List.mem_of_mem_take E)
    have h4:(l.take k).length<=255:=by rw [List.length_take]; omega
    have h5:(l.take k).length * 1003<=255 * 1003:=Nat.mul_le_mul_right _ h4;omega
   have z1:(S (be 1 l.length++uq (l.take k))).size<=300000:=by rw [ah,List.length_append,bf]; omega
   generalize l[k]=x at *
   obtain ⟨n,q⟩:=x;dsimp only at E;have z2:(S (fw n)).size<=2000:=by rw [ah,OctW.je]; have:=E.1; omega
   have z3:(S (be 1 q)).size<=10:=by rw [ah,bf]; omega
   have HS:Zq (S (be 1 l.length++uq (l.take k))++(S (fw n)++S (be 1 q))=S (be 1 l.length++uq (l.take (k+1)))):=by
    show _=_;rw [Y,gm,gm];simp [uq]
   have Z:=zq (λw=>am.o w n E.1);have ab:=zq (λw=>N.o w q (by have:=E.2; omega));clear Y an E;generalize S (be 1 l.length++uq (l.take k))=s1 at *
   generalize S (fw n)=s2 at *
   generalize S (be 1 q)=s3 at *
   have ac:Zq (Below wr.heap.size wr (wr.alloc (.cells #[.string (S n),.int .i64 (q:Int)] 111))):=(Below.refl _ _).alloc (Nat.le_refl _) _;have B:=heap_alloc_new wr (.cells #[.string (S n),.int .i64 (q:Int)] 111);go_upto_region 5 with fail
   generalize wr.alloc (.cells #[.string (S n),.int .i64 (q:Int)] 111)=w2 at *
   obtain ⟨A,hA⟩:∃ A,wr.heap.size=A:=⟨_,rfl⟩;have F:Zq (Below W.heap.size W w2):=X.o.trans (ac.o.mono X.o.size);rw [hA] at B ⊢;have ad:=zq B;have c0:w2.cell? ⟨A,0,none⟩=some (.string (S n)):=by rw [Lib.cell_of_heap B]; rfl
   clear hA B ac X h1 h2;go_wp2_with fail;refine (Z.o _).mono ?_;rintro e w3 ⟨rfl,I⟩;have J:Zq (Below W.heap.size W w3):=F.o.trans (I.mono F.o.size)
   have c1:w3.cell? ⟨A,1,none⟩=some (.int .i64 (q:Int)):=by
    rw [Lib.cell_of_heap ((I.block A (Array.getElem?_eq_some_iff.1 ad.o).1).trans ad.o)]; rfl
   clear I Z F c0;go_wp2_with fail;refine (ab.o _).mono ?_;rintro e w4 ⟨rfl,ak⟩;have ao:Zq (Below W.heap.size W w4):=J.o.trans (ak.mono J.o.size);clear ak ab J c1;go_wp2_with fail;go_roundw
   case rel=>exact ⟨k+1,by omega,by go_num,by rw [<- HS.o],ao⟩
   case measure=>simp [intOf]; omega
  ·
   obtain rfl:k=l.length:=by omega
   go_wp2_with fail;go_ret;rw [List.take_length];exact ⟨rfl,X.o⟩
theorem adx:∃ i,Tryz.prog.info? 111=some i/\i.zero=some (.agg #[.string ⟨#[]⟩,.int .i64 0])/\i.size=2/\i.bytes=24:=by
 have:=(show (Tryz.prog.info? 111).map (λi=>(i.zero,i.size,i.bytes))=some (some (.agg #[.string ⟨#[]⟩,.int .i64 0]),2,24) by kernel_rfl)
 cases hh:Tryz.prog.info? 111 with
 | none=>rw [hh] at this; cases this
 | some i=>rw [hh] at this; have A:=Option.some.inj this; exact ⟨i,rfl,congrArg (·.1) A,congrArg (·.2.1) A,congrArg (·.2.2) A⟩
theorem aef {base:Nat} {w:World} {v:Value} {l:List (List UInt8×Nat)} (h:w.ownsRow base 111 2 v l.length (iw l)) (hl:l.length<=1048576) (bb:Addr) :
 ∃ a B F E,v=.slice a l.length B/\(Builtin.append_ #[75,75] 75 #[.slice (some bb) 0 0,.slice a l.length B]).run Tryz.prog w=.ok F E /\
  (l=[]->F=.slice (some bb) 0 0/\E=w)/\(l≠[]->E.ownsRow w.heap.size 111 2 F l.length (iw l)/\Below w.heap.size w E):=by
 obtain ⟨i0,I,N,O,R⟩:=adx;obtain ⟨a,B,X,J⟩:=RowT.own h;subst X
 cases l with
 | nil=>exact ⟨a,B,_,w,rfl,acn _ _ _ i0 Tryz.underlying75 I _ a B,λ_=>⟨rfl,rfl⟩,λh=>absurd rfl h⟩
 | cons x l =>
   obtain ⟨g,rfl,_⟩:=J 0 (by simp)
   rcases h.2 with ⟨e,_⟩ | ⟨g2,cap,cur,e,hb,hg,hn,hm,hc,ht⟩
   . cases e
   ·
    cases e
    obtain ⟨F,E,Y,A,U⟩:=run_append_arg_grows (P:=Tryz.prog) (w:=w) 75 75 111 i0 (.agg #[.string ⟨#[]⟩,.int .i64 0]) 2 24 Tryz.underlying75 I N O R rfl (by omega) bb 0 0 [] rfl (by simp)
     ⟨g,0,none⟩ (x :: l).length B (iw (x :: l)) (ai7 _) (λj u hu=>by
      have M:(⟨g,0,none⟩:Addr).add j=⟨g,j,none⟩:=by unfold Addr.add; split <;> simp_all
      rw [M,Lib.cell_of_heap hg];rw [<- ht] at hu;rw [List.getElem?_take] at hu
      split at hu
      . simpa using hu
      . cases hu) (by simp) (by unfold maxLen; simp at hl ⊢; omega) (by simp at hl ⊢; omega)
    rw [Nat.zero_add,List.nil_append] at A;exact ⟨_,B,F,E,rfl,Y,λh=>absurd h (by simp),λ_=>⟨A,(Below.refl _ _).grown U (Nat.le_refl _) (by simp)⟩⟩
theorem ahd (a:Option Addr) (n c:Nat) (w:World):Sem.run Tryz.prog (binOp .eql 75 (.slice a n c) (.slice none 0 0)) w=.ok (.bool a.isNone) w :=
 Lib.run_eql_slice_nil w _ 111 a n c 0 0 Tryz.underlying75
theorem ady {base:Nat} (v:Value) (l:List (List UInt8×Nat)) (w:World) (h:w.ownsRow base 111 2 v l.length (iw l)) (hl:l.length<=1048576) :
 Calls Tryz.prog 46 #[v] w λe w'=>∃ B,e=.returned B/\w'.ownsRow w.heap.size 111 2 B l.length (iw l)/\Below w.heap.size w w':=by
 rcases h.2 with ⟨hv,h0⟩ | ⟨g,cap,cur,hv,_⟩
 ·
  subst hv;obtain rfl:l=[]:=List.eq_nil_of_length_eq_zero h0;have E:Sem.run Tryz.prog (binOp .eql 75 (.slice none 0 0) (.slice none 0 0)) w=.ok (.bool true) w:=ahd none 0 0 w;go_enter Tryz.func46,Tryz.ntmps46;go_wp2_with fail;go_ret;exact ⟨_,rfl,⟨rfl,.inl ⟨rfl,rfl⟩⟩,Below.refl _ _⟩
 ·
  have A:Zq (Below w.heap.size w (w.alloc (.cells #[] 111))):=(Below.refl _ _).alloc (Nat.le_refl _) _;have J:(w.alloc (.cells #[] 111)).ownsRow base 111 2 v l.length (iw l):=OctW.ownsRow_mod h (Mod.of_below (M:=λ_=>False) A.o) (λ_ x=>x.elim);obtain ⟨a,cp,B,N,F,O,R,U⟩:=aef J hl ⟨w.heap.size,0,none⟩;have X:(w.alloc (.cells #[] 111)).ownsRow w.heap.size 111 2 (.slice (some ⟨w.heap.size,0,none⟩) 0 0) 0 []:=⟨rfl,.inr ⟨w.heap.size,0,#[],rfl,Nat.le_refl _,heap_alloc_new w _,Nat.le_refl _,by unfold maxLen; omega,rfl,rfl⟩⟩
  have Z:Zq (N.ownsRow w.heap.size 111 2 B l.length (iw l)/\Below w.heap.size w N):=by
   by_cases hl0:l=[]
   . obtain ⟨rfl,rfl⟩:=R hl0
     subst hl0;exact ⟨X,A.o⟩
   . obtain ⟨Y,h4⟩:=U hl0
     refine ⟨⟨Y.1,Y.2.imp (λh=>h) λ⟨g,cap,cur,e1,e2,rest⟩=>⟨g,cap,cur,e1,by rw [World.size_alloc] at e2; omega,rest⟩⟩,A.o.trans (h4.mono (by rw [World.size_alloc]; omega))⟩
  have I:=zq O;subst hv
  cases F
  have E:Sem.run Tryz.prog (binOp .eql 75 (.slice (some ⟨g,0,none⟩) l.length cap) (.slice none 0 0)) w=.ok (.bool false) w:=ahd _ _ _ w;clear h J O R U X A;go_enter Tryz.func46,Tryz.ntmps46;go_wp2_with (at_builtin; refine Lib.wpList_append_run _ rfl (.tmp 5) (.tmp 6) 75 75 rfl _ _ rfl rfl _ _ I.o ?_);go_ret;exact ⟨B,rfl,Z.o⟩
open Go.RowKit Go.MapKept OctMath RecMath RecW DskW SegW CacheW StoW NameMath
theorem aol {base:Nat} {X:TabD} (w:World) (h:TabAt base w X) (hl:X.l.length<=1000) :
 Calls Tryz.prog 25 #[.pointer (some ⟨X.blk,0,none⟩)] w λe w'=>∃ A,e=.returned A/\w'.ownsRow w.heap.size 111 2 A X.l.length (iw X.l)/\Below w.heap.size w w':=by
 have c1:w.cell? ⟨X.blk,1,none⟩=some X.v:=by rw [Lib.cell_of_heap h.cells]; rfl
 have B:=zq (ady X.v X.l w h.row (by omega));generalize X.v=v at *
 clear h;go_enter Tryz.func25,Tryz.ntmps25;go_wp2_with fail;refine B.o.mono ?_;rintro e w2 ⟨A,rfl,E,hb⟩;have F:=zq E;have I:=zq hb;clear E hb B c1;go_wp2_with fail;go_ret;exact ⟨A,rfl,F.o,I.o⟩
def qa (l:List (List UInt8×Nat)) (n:List UInt8):Nat:=if (ofL n).isEmpty=true then ((l.find? λx=>decide (x.1=n)).map (·.2)).getD 0 else 1
theorem aom (n:List UInt8) (l:List (List UInt8×Nat)) (k:Nat) (h:k < l.length) (hn:∀ x∈l.take k,x.1≠n) (he:l[k].1=n):(l.find? λx=>decide (x.1=n))=some l[k]:=by
 have h1:(l.take k++l.drop k).find? (λx=>decide (x.1=n))=some l[k]:=by
  rw [List.find?_append,List.find?_eq_none.2 (λx A=>by simpa using hn x A),Option.none_or,List.drop_eq_getElem_cons h,List.find?_cons_of_pos (by simpa using he)]
 rw [List.take_append_drop] at h1;exact h1
theorem aon (n:List UInt8) (l:List (List UInt8×Nat)) (hn:∀ x∈l,x.1≠n):(l.find? λx=>decide (x.1=n))=none:=List.find?_eq_none.2 (λx A=>by simpa using hn x A)
theorem ahe {base:Nat} {X:TabD} (n:List UInt8) (hn:n.length<=1099511627776) (W:World) (h:TabAt base W X) (hl:X.l.length<=1000) :
 Calls Tryz.prog 112 #[.pointer (some ⟨X.blk,0,none⟩),.string (S n)] W λe w'=>e=.returned (.int .i64 (qa X.l n:Int))/\Below W.heap.size W w':=by
 obtain ⟨tb,dk,v,l⟩:=X;have HC:=zq h.cells;obtain ⟨a,cp,hv,B⟩:=RowT.own h.row;dsimp only at hv B HC hl ⊢;subst hv;have HR:=zq B;have HO:=zq (λw=>NameW.of_any n hn w);have HQ:Zq (qa l n=if (ofL n).isEmpty=true then ((l.find? λx=>decide (x.1=n)).map (·.2)).getD 0 else 1):=rfl;generalize hob:(ofL n).isEmpty=ob at *
 clear h B hob;go_enter Tryz.func112,Tryz.ntmps112;go_wp2_with fail;refine (HO.o W).mono ?_;rintro e w1 ⟨rfl,I⟩;have J:=zq I;have N:Zq (w1.heap[tb]?=_):=(I.block tb (Array.getElem?_eq_some_iff.1 HC.o).1).trans HC.o;have c1:w1.cell? ⟨tb,1,none⟩=some (.slice a l.length cp):=by rw [Lib.cell_of_heap N.o]; rfl
 clear I HO
 cases ob with
 | false =>
   go_wp2_with fail;go_ret;rw [HQ.o];exact ⟨rfl,J.o⟩
 | true =>
   go_wp2_with fail;go_loopw [22] (λi wr=>∃ k:Nat,k<=l.length/\i=.int .i64 (k:Int)/\Zq (∀ x∈l.take k,x.1≠n)/\Zq (Below W.heap.size W wr)) (λi _=>l.length+1 - (intOf i).toNat)
   case atStart=>exact ⟨0,by omega,rfl,λx Z=>by simp at Z,J.o⟩
   case round =>
    obtain ⟨k,hk,rfl,HA,O⟩:=hrel;clear J N c1
    by_cases hlt:k < l.length
    ·
     obtain ⟨g,rfl,a1,h1,h2⟩:=(HR.o.below O.o) k hlt;have R:l.take (k+1)=l.take k++[l[k]]:=List.take_succ_eq_append_getElem hlt;have U:Zq (Below wr.heap.size wr (wr.alloc (.cells #[.string (S l[k].1),.int .i64 (l[k].2:Int)] 111))):=(Below.refl _ _).alloc (Nat.le_refl _) _;have F:=heap_alloc_new wr (.cells #[.string (S l[k].1),.int .i64 (l[k].2:Int)] 111);have HF:Zq (l[k].1=n->qa l n=l[k].2):=λE=>by rw [HQ.o,if_pos trivial,aom n l k hlt HA.o E]; rfl
     have HN:Zq (l[k].1≠n->∀ x∈l.take (k+1),x.1≠n):=λE x Z=>by
      rw [R] at Z
      rcases List.mem_append.1 Z with h | h
      . exact HA.o x h
      . rw [List.mem_singleton] at h; subst h; exact E
     clear R;generalize l[k]=x at *
     obtain ⟨m,q⟩:=x;dsimp only at *
     go_upto_region 9 with fail
     generalize wr.alloc (.cells #[.string (S m),.int .i64 (q:Int)] 111)=w2 at *
     obtain ⟨A,hA⟩:∃ A,wr.heap.size=A:=⟨_,rfl⟩;have Y:Zq (Below W.heap.size W w2):=O.o.trans (U.o.mono O.o.size);rw [hA] at F ⊢;have c0:w2.cell? ⟨A,0,none⟩=some (.string (S m)):=by rw [Lib.cell_of_heap F]; rfl
     have d1:w2.cell? ⟨A,1,none⟩=some (.int .i64 (q:Int)):=by rw [Lib.cell_of_heap F]; rfl
     clear hA F U O h1 h2
     by_cases E:m=n
     . have M:=zq (HF.o E)
       subst E;clear HF HN;go_wp2_with fail;go_ret;rw [M.o];exact ⟨rfl,Y.o⟩
     ·
      have a7:((S m).toList == (S n).toList)=false:=by rw [DskW.S_toList,DskW.S_toList]; simp [E]
      have am:=zq (HN.o E);clear HF HN;have HE:=zq E;clear E;go_wp2_with fail;go_roundw
      case rel=>exact ⟨k+1,by omega,by go_num,am,Y⟩
      case measure=>simp [intOf]; omega
    ·
     obtain rfl:k=l.length:=by omega
     have M:Zq (qa l n=0):=by
      have h1:=HA.o;rw [List.take_length] at h1;show _=_;rw [HQ.o,if_pos trivial,aon n l h1]; rfl
     go_wp2_with fail;go_ret;rw [M.o];exact ⟨rfl,O.o⟩
def pg (l:List (List UInt8×Nat)) (n:List UInt8) (q:Int):Int:=if qa l n=0 then 12 else if q < 0\/(qa l n:Int)<=q then 13 else 0
theorem ajk {base:Nat} {X:TabD} (n:List UInt8) (hn:n.length<=1099511627776) (q:Int) (W:World) (h:TabAt base W X) (hl:X.l.length<=1000) :
 Calls Tryz.prog 51 #[.pointer (some ⟨X.blk,0,none⟩),.string (S n),.int .i64 q] W λe w'=>e=.returned (.int .i64 (pg X.l n q))/\Below W.heap.size W w':=by
 have J:=zq (ahe n hn W h hl);have E:Zq (pg X.l n q=if qa X.l n=0 then 12 else if q < 0\/(qa X.l n:Int)<=q then 13 else 0):=rfl;generalize qa X.l n=m at *
 clear h;go_enter Tryz.func51,Tryz.ntmps51;go_wp2_with fail;refine J.o.mono ?_;rintro e w1 ⟨rfl,F⟩;have B:=zq F;clear F J
 by_cases h0:m=0
 ·
  have A:Zq (pg X.l n q=12):=by show _=_; rw [E.o,if_pos h0]
  subst h0;clear E;go_wp2_with fail;go_ret;rw [A.o];exact ⟨rfl,B.o⟩
 have M:((m:Int) == 0)=false:=beq_eq_false_iff_ne.2 (by omega)
 by_cases h1:q < 0
 ·
  have A:Zq (pg X.l n q=13):=by show _=_; rw [E.o,if_neg h0,if_pos (.inl h1)]
  have hd:decide (q < 0)=true:=decide_eq_true h1;clear E h1;go_wp2_with fail;go_ret;rw [A.o];exact ⟨rfl,B.o⟩
 have hd:decide (q < 0)=false:=decide_eq_false h1
 by_cases h2:(m:Int)<=q
 ·
  have A:Zq (pg X.l n q=13):=by show _=_; rw [E.o,if_neg h0,if_pos (.inr h2)]
  have I:decide ((m:Int)<=q)=true:=decide_eq_true h2;clear E h1 h2;go_wp2_with fail;go_ret;rw [A.o];exact ⟨rfl,B.o⟩
 ·
  have A:Zq (pg X.l n q=0):=by show _=_; rw [E.o,if_neg h0,if_neg (by omega)]
  have I:decide ((m:Int)<=q)=false:=decide_eq_false h2;clear E h1 h2;go_wp2_with fail;go_ret;rw [A.o];exact ⟨rfl,B.o⟩
end TopW
namespace SndW
open Go.RowKit Go.MapKept OctMath RecMath RecW DskW SegW TapeW TapeMath PendW CacheW StoW TopW NameMath
theorem ahf (a:Option Addr) (cap:Nat) (ts:List (List UInt8)) (hx:ts.length<=1048576) (W:World) (hS:Strs W a (ts.map S)) :
 Calls Tryz.prog 55 #[.slice a ts.length cap] W λe w'=>e=.returned (.bool (decide ts.Nodup))/\Below W.heap.size W w':=by
 have N:=zq (TagW.adk a ts.length cap W);have B:Zq (Below W.heap.size W (W.alloc (.cells #[.slice a ts.length cap] 40))):=(Below.refl _ _).alloc (Nat.le_refl _) _;have F:=zq (SeqW.aaf W.heap.size cap a ts hx (W.alloc (.cells #[.slice a ts.length cap] 40)) (Strs.below hS B.o) (by simp) (by rw [World.cell?_alloc_new]; rfl));have A:(ts.mergeSort (λx y=>decide (x<=y))).length=ts.length:=List.length_mergeSort _
 have I:Zq (decide ts.Nodup=!decide ((Lib.compact (ts.mergeSort (λx y=>decide (x<=y)))).length < ts.length)):=by
  have h1:=DupMath.aez ts;unfold TagW.apl at h1;rw [decide_eq_true_eq] at h1;show _=_
  by_cases h:ts.Nodup
  . rw [decide_eq_true h,decide_eq_false (λR=>h1.1 R h)]; rfl
  . rw [decide_eq_false h,decide_eq_true (h1.2 h)]; rfl
 have U:(Lib.compact (ts.mergeSort (λx y=>decide (x<=y)))).length<=ts.length:=by
  rw [<- A];unfold Lib.compact Lib.compactUpTo;rw [List.length_map];exact Nat.le_trans (List.length_filter_le _ _) (by simp)
 generalize ts.mergeSort (λx y=>decide (x<=y))=ss at *
 clear hS;go_enter Tryz.func55,Tryz.ntmps55;go_wp2_with fail;refine N.o.mono ?_;rintro e w2 ⟨rfl,rfl⟩;clear N;go_wp2_with fail;refine F.o.mono ?_;rintro e w3 ⟨v,rfl,E,hb⟩;have M:=zq (B.o.trans (hb.mono B.o.size));have O:=zq (TagW.acd W.heap.size v ss (by omega) W w3 M.o (by rw [A]; exact SeqW.own_base E B.o.size));generalize (Lib.compact ss).length=cn at *
 generalize ts.length=tn at *
 clear E hb F A;go_wp2_with fail;refine O.o.mono ?_;rintro e w4 ⟨⟨a4,c4,rfl⟩,hb⟩;have J:=zq hb;clear hb O
 by_cases h:cn=tn
 ·
  subst h;go_wp2_with fail;go_ret;exact ⟨ax (by rw [I.o]; simp),J.o⟩
 ·
  have X:¬ (cn:Int)=(tn:Int):=by omega
  go_wp2_with fail;go_ret;exact ⟨ax (by rw [I.o,decide_eq_true (by omega:cn < tn)]; first | rfl | (simp; omega)),J.o⟩
structure lu where
 topic:List UInt8
 queue:Int
 tag:List UInt8
 keys:List (List UInt8)
 body:List UInt8
def gp (x:lu) (a:Option Addr) (c:Nat):Array Value:=#[.string (S x.topic),.int .i64 x.queue,.string (S x.tag),.slice a x.keys.length c,.string (S x.body)]
structure xu (x:lu):Prop where
 queue:inI x.queue
 topic:x.topic.length<=1073741824
 tag:x.tag.length<=1073741824
 body:x.body.length<=1073741824
 keys:x.keys.length<=1048576
 key:∀ t∈x.keys,t.length<=1073741824
def pq (l:List (List UInt8×Nat)) (x:lu):Int :=
 if (ofL x.topic).isEmpty=false then 12 else if pg l x.topic x.queue≠0 then pg l x.topic x.queue else
 if (apa x.tag && x.keys.all og)=false then 11 else if 3 < x.keys.length\/200 < x.body.length then 6 else if x.keys.Nodup then 0 else 10
theorem adz {base:Nat} {S0:StoD} {X:TabD} (x:lu) (hx:xu x) (a:Option Addr) (c:Nat) (W:World) (h:StoTab base W S0 X) (hl:X.l.length<=1000) (hS:Strs W a (x.keys.map S)) :
 Calls Tryz.prog 27 #[.pointer (some ⟨S0.blk,0,none⟩),.agg (gp x a c)] W λe w'=>e=.returned (.int .i64 (pq X.l x))/\Below W.heap.size W w':=by
 have Z:Zq (Below W.heap.size W (W.alloc (.cells (gp x a c) 42))):=(Below.refl _ W).alloc (Nat.le_refl _) _;have ab:Zq (RecW.Boxed (W.alloc (.cells (gp x a c) 42)) W.heap.size (gp x a c)):=RecW.Boxed.new W _ _;have a1:=zq (h.below Z.o);have a6:=zq (Strs.below hS Z.o);have bs:(gp x a c).size=5:=rfl;have HO:=zq (λw=>NameW.of_any x.topic (by have:=hx.topic; omega) w);have a7:=zq (λw (hw:StoTab base w S0 X)=>ajk x.topic (by have:=hx.topic; omega) x.queue w hw.tab hl);have ba:=zq (λw=>NameW.aj0 x.tag (by have:=hx.tag; omega) w);have bb:=zq (λw (hs:Strs w a (x.keys.map S))=>agd a c x.keys hx.keys (λt ht=>by have:=hx.key t ht; omega) w hs);have bc:=zq (λw (hs:Strs w a (x.keys.map S))=>ahf a c x.keys hx.keys w hs)
 have ac:Zq (pq X.l x=if (ofL x.topic).isEmpty=false then 12 else if pg X.l x.topic x.queue≠0 then pg X.l x.topic x.queue else
  if ((x.tag.isEmpty || ig x.tag) && x.keys.all og)=false then 11 else if 3 < x.keys.length\/200 < x.body.length then 6 else if x.keys.Nodup then 0 else 10):=rfl
 have bd:=ah x.body;have b7:=hx.body;have b8:=hx.keys;generalize pq X.l x=R at *
 generalize (ofL x.topic).isEmpty=ob at *
 generalize pg X.l x.topic x.queue=ct at *
 generalize (x.tag.isEmpty || ig x.tag)=tg at *
 generalize x.keys.all og=ak at *
 clear h hS hx;go_enter Tryz.func27,Tryz.ntmps27;go_upto_region 1 with fail
 generalize W.alloc (.cells (gp x a c) 42)=w1 at *
 clear bs;obtain ⟨A,hA⟩:∃ A,W.heap.size=A:=⟨_,rfl⟩;rw [hA] at ab ⊢;have b9:=zq hA;clear hA;have k0:w1.cell? ⟨A,0,none⟩=some (.string (S x.topic)):=ab.o 0 _ rfl;go_wp2_with fail;refine (HO.o w1).mono ?_;rintro e w2 ⟨rfl,hb⟩;have I:Zq (Below W.heap.size W w2):=Z.o.trans (hb.mono Z.o.size);have O:=zq (ab.o.below hb);have U:=zq (a1.o.below hb);have ad:=zq (Strs.below a6.o hb);clear hb HO k0 ab a1 a6 Z
 cases ob with
 | false =>
   have J:R=12:=by rw [ac.o,if_pos rfl]
   clear ac;go_wp2_with fail;go_ret;rw [J];exact ⟨rfl,I.o⟩
 | true =>
 have M:Zq (R=if ct≠0 then ct else if (tg && ak)=false then 11 else if 3 < x.keys.length\/200 < x.body.length then 6 else if x.keys.Nodup then 0 else 10):=by
  show _=_; rw [ac.o,if_neg (by decide)]
 clear ac;have al:w2.cell? ⟨S0.blk,3,none⟩=some S0.top:=U.o.sto.cell 3 _ rfl;rw [U.o.top] at al;have k0:w2.cell? ⟨A,0,none⟩=some (.string (S x.topic)):=O.o 0 _ rfl;have k1:w2.cell? ⟨A,1,none⟩=some (.int .i64 x.queue):=O.o 1 _ rfl
 have HK:Zq (∀ w,RecW.ExtR w2.drew w->w.cell? ⟨S0.blk,3,none⟩=some (.pointer (some ⟨X.blk,0,none⟩))/\w.cell? ⟨A,0,none⟩=some (.string (S x.topic))/\w.cell? ⟨A,1,none⟩=some (.int .i64 x.queue)/\Below w2.heap.size w2 w):=λw hw=>by
  have hb:Below w2.heap.size w2 w:=((Below.refl _ w2).drew).trans hw;exact ⟨by rw [hb.cell (bq al)]; exact al,by rw [hb.cell (bq k0)]; exact k0,by rw [hb.cell (bq k1)]; exact k1,hb⟩
 clear k0 k1 al;go_upto_region 6 with fail
 refine GrowN.au 8 [none,none,none,none,none,none,none,none] RecW.ExtR (by kernel_rfl) (by kernel_rfl) (by kernel_rfl) RecW.ExtR.refl (λ_ _ _=>RecW.ExtR.trans) ?_ ?_
 . exact GrowN.jo rfl
 simp only [List.take_succ_cons,List.take_zero,List.drop_succ_cons,List.drop_zero]
 iterate 8
  refine GrowN.g_det rfl ?_;apply Exists.intro;refine ⟨λw hw hF=>?_,?_⟩
  . clear hF
    obtain ⟨k1,k2,k3,_⟩:=HK.o w hw;go_simp;exact ⟨rfl,RecW.ExtR.refl _⟩
  go_frame
 refine GrowN.g_nil λbj bk hF=>?_
 clear hF;obtain ⟨_,_,_,F⟩:=HK.o bj bk;have I:Zq (Below W.heap.size W bj):=I.o.trans (F.mono I.o.size);have O:=zq (O.o.below F);have U:=zq (U.o.below F);have ad:=zq (Strs.below ad.o F);clear F bk HK;go_wp2_with fail;refine (a7.o _ U.o).mono ?_;rintro e w3 ⟨rfl,hb⟩;have am:Zq (Below W.heap.size W w3):=I.o.trans (hb.mono I.o.size);have ao:=zq (O.o.below hb);have bl:=zq (Strs.below ad.o hb);clear hb a7 O U ad I
 by_cases h0:ct=0
 case neg =>
  have J:R=ct:=by rw [M.o,if_pos h0]
  have ca:(ct != 0)=true:=bne_iff_ne.2 h0;clear M h0;go_wp2_with fail;go_ret;rw [J];exact ⟨rfl,am.o⟩
 case pos =>
 have B:Zq (R=if (tg && ak)=false then 11 else if 3 < x.keys.length\/200 < x.body.length then 6 else if x.keys.Nodup then 0 else 10):=by
  show _=_; rw [M.o,if_neg (by simpa using h0)]
 clear M;subst h0;have k2:w3.cell? ⟨A,2,none⟩=some (.string (S x.tag)):=ao.o 2 _ rfl;go_wp2_with fail;refine (ba.o w3).mono ?_;rintro e w4 ⟨rfl,hb⟩;have an:Zq (Below W.heap.size W w4):=am.o.trans (hb.mono am.o.size);have ap:=zq (ao.o.below hb);have ar:=zq (Strs.below bl.o hb);clear hb ba k2 ao bl am;have k3:w4.cell? ⟨A,3,none⟩=some (.slice a x.keys.length c):=ap.o 3 _ rfl
 cases tg with
 | false =>
   have J:R=11:=by rw [B.o,if_pos (by simp)]
   clear B;go_wp2_with fail;go_ret;rw [J];exact ⟨rfl,an.o⟩
 | true =>
 go_wp2_with fail;refine (bb.o w4 ar.o).mono ?_;rintro e w5 ⟨rfl,hb⟩;have Y:Zq (Below W.heap.size W w5):=an.o.trans (hb.mono an.o.size);have av:=zq (ap.o.below hb);have bm:=zq (Strs.below ar.o hb);clear hb bb k3 ap ar an
 cases ak with
 | false =>
   have J:R=11:=by rw [B.o,if_pos (by simp)]
   clear B;go_wp2_with fail;go_ret;rw [J];exact ⟨rfl,Y.o⟩
 | true =>
 have E:Zq (R=if 3 < x.keys.length\/200 < x.body.length then 6 else if x.keys.Nodup then 0 else 10):=by
  show _=_; rw [B.o,if_neg (by simp)]
 clear B;have k3:w5.cell? ⟨A,3,none⟩=some (.slice a x.keys.length c):=av.o 3 _ rfl;have k4:w5.cell? ⟨A,4,none⟩=some (.string (S x.body)):=av.o 4 _ rfl
 by_cases h3:3 < x.keys.length
 ·
  have J:R=6:=by rw [E.o,if_pos (.inl h3)]
  have b2:(3:Int) < (x.keys.length:Int):=by omega
  clear E h3;go_wp2_with fail;go_ret;rw [J];exact ⟨rfl,Y.o⟩
 have b2:(x.keys.length:Int)<=(3:Int):=by omega
 by_cases h4:200 < x.body.length
 ·
  have J:R=6:=by rw [E.o,if_pos (.inr h4)]
  have b3:(200:Int) < ((S x.body).size:Int):=by omega
  clear E h3 h4 bd;go_wp2_with fail;go_ret;rw [J];exact ⟨rfl,Y.o⟩
 have b3:((S x.body).size:Int)<=(200:Int):=by omega
 have N:Zq (R=if x.keys.Nodup then 0 else 10):=by
  show _=_; rw [E.o,if_neg (by omega)]
 clear E h3 h4 bd;go_wp2_with fail;refine (bc.o w5 bm.o).mono ?_;rintro e w6 ⟨rfl,hb⟩;have bo:Zq (Below W.heap.size W w6):=Y.o.trans (hb.mono Y.o.size);clear hb bc k3 k4 av bm Y
 by_cases hn:x.keys.Nodup
 ·
  have J:R=0:=by rw [N.o,if_pos hn]
  rw [decide_eq_true hn];clear N hn;go_wp2_with fail;go_ret;rw [J];exact ⟨rfl,bo.o⟩
 ·
  have J:R=10:=by rw [N.o,if_neg hn]
  rw [decide_eq_false hn];clear N hn;go_wp2_with fail;go_ret;rw [J];exact ⟨rfl,bo.o⟩
end SndW
namespace TopW
open Go.RowKit Go.MapKept OctMath RecMath RecW DskW SegW CacheW StoW NameMath TapeW
theorem aeg {base:Nat} {w:World} {v:Value} {l:List (List UInt8×Nat)} (h:w.ownsRow base 111 2 v l.length (iw l)) (n:List UInt8) (q b:Nat) (hb:w.heap[b]?=some (.cells #[.string (S n),.int .i64 (q:Int)] 111 (0,0))) (hl:l.length<=1048576) (hbase:base<=w.heap.size) :
 ∃ F A,(Builtin.append_ #[75,75] 75 #[v,.slice (some ⟨b,0,none⟩) 1 1]).run Tryz.prog w=.ok F A /\
  A.ownsRow base 111 2 F (l.length+1) (iw (l++[(n,q)]))/\w.grownBy A v.ownBlock:=by
 obtain ⟨i0,I,J,M,N⟩:=adx
 obtain ⟨F,A,U,B,O,_,X⟩:=run_append_own_at (P:=Tryz.prog) _ base 75 75 111 i0 (.agg #[.string ⟨#[]⟩,.int .i64 0]) 2 24 Tryz.underlying75 I J M N rfl (by omega) _ _ _ h
  ⟨b,0,none⟩ 1 1 [.string (S n),.int .i64 (q:Int)] rfl (λj u hu=>by
   have E:(⟨b,0,none⟩:Addr).add j=⟨b,j,none⟩:=by unfold Addr.add; split <;> simp_all
   rw [E,Lib.cell_of_heap hb]
   match j,hu with
   | 0,hu=>exact hu
   | 1,hu=>exact hu
   | j+2,hu=>cases hu) (λu hu=>by
   simp only [List.mem_cons,List.not_mem_nil,or_false] at hu
   rcases hu with rfl | rfl <;> rfl) (by unfold maxLen; omega) (by omega) hbase
 have R:iw l++[.string (S n),.int .i64 (q:Int)]=iw (l++[(n,q)]):=by unfold iw; simp
 exact ⟨F,A,U,by rw [<- R]; exact B,O⟩
theorem aoo {l:List (List UInt8×Nat)} {n:List UInt8} {q:Int} (h:o9 l n q=0):1<=q/\q<=3:=by
 unfold o9 at h
 split at h
 . cases h
 . split at h
   . cases h
   . rename_i h1 A; omega
theorem arb {base tb:Nat} {D:DiskD} {v:Value} {l:List (List UInt8×Nat)} (n:List UInt8) (q:Nat) (W:World) (h:TabAt base W ⟨tb,D.blk,v,l⟩) (hD:DiskAt base W D)
 (haw:∀ k,D.foot k->k≠tb) (hq:Quiet D) (E:D.waits=[]) (hno:∀ x∈D.files.map (·.1),Lib.hasPrefix x (uz jg)=false) (hfl:D.files.length<=1048576) (hnl:∀ p∈D.files,p.1.length<=maxLen)
 (hok:o9 l n q=0) (hn:n.length<=1000) (hl:∀ x∈l,x.1.length<=1000/\x.2<=255) (hroom:((CrcMath.ag (ug (l++[(n,q)]))).length:Int)<=D.room) (hbase:base<=W.heap.size) :
 Calls Tryz.prog 26 #[.pointer (some ⟨tb,0,none⟩),.string (S n),.int .i64 (q:Int)] W λe w'=>e=.returned (.int .i64 0)/\∃ v' b wv m,TabAt base w' ⟨tb,D.blk,v',l++[(n,q)]⟩/\DiskAt base w' (DiskD.saved D jg b (CrcMath.ag (ug (l++[(n,q)]))) wv) /\
  Mod (λk=>D.foot k\/k=tb) W w'/\W.heap.size<=m/\m<=b/\(∀ k,wv.ownBlock=some k->D.wv.ownBlock=some k\/m<=k)/\∀ k,v'.ownBlock=some k->W.heap.size<=k/\k < m:=by
 obtain ⟨a,Z,hv,b6⟩:=RowT.own h.row;dsimp only at hv;subst hv;have dv:l.length < 6:=ag1 hok;have cv:=aoo hok;have J:Zq (Below W.heap.size W (W.alloc (.cells #[.string (S n),.int .i64 (q:Int)] 111))):=(Below.refl _ W).alloc (Nat.le_refl _) _;have I:Zq ((W.alloc (.cells #[.string (S n),.int .i64 (q:Int)] 111)).heap[W.heap.size]?=_):=heap_alloc_new W (.cells #[.string (S n),.int .i64 (q:Int)] 111);have HX:=zq h;have HD:=zq hD
 have bl:∀ x∈l++[(n,q)],x.1.length<=1000/\x.2<=255:=λx hx=>by
  rcases List.mem_append.1 hx with h1 | h1
  . exact hl x h1
  . rw [List.mem_singleton.1 h1]; exact ⟨hn,by omega⟩
 have bm:=zq (λ(w:World) (hr:RowT w a l)=>right_any a Z l (by omega) n (by omega) (q:Int) w hr);rw [hok] at bm;have b7:=zq (λ(w:World) (h:w.ownsRow base 111 2 (.slice a l.length Z) l.length (iw l))=>ady _ l w h (by omega));have b8:=zq (λ(a:Option Addr) (Z:Nat) (w:World) (h:RowT w a (l++[(n,q)]))=>aok a Z (l++[(n,q)]) (by simp; omega) bl w h)
 have b9:(ug (l++[(n,q)])).length<=100000:=by
  have h1:=ab5 _ bl;have h2:(l++[(n,q)]).length * 1003<=6 * 1003:=Nat.mul_le_mul_right _ (by simp; omega);unfold ug;rw [List.length_append,bf];omega
 have bp:=zq (λ(w:World) (hd:DiskAt base w D) (hb:base<=w.heap.size)=>aq9 jg (ug (l++[(n,q)])) w hd hq E hno hfl hnl (by decide) b9 hroom hb);rw [show S jg=⟨#[116,111,112,105,99,115]⟩ from rfl] at bp;have cx:=zq haw;have ca:=zq hbase;have cb:=zq (λ(v:Value) (s b:Nat) (w:World) (h:w.ownsRow s 111 2 v l.length (iw l)) (hb:w.heap[b]?=some (.cells #[.string (S n),.int .i64 (q:Int)] 111 (0,0))) (hz:s<=w.heap.size)=>aeg h n q b hb (by omega) hz);have bd:(l++[(n,q)]).length=l.length+1:=by simp
 clear h hD haw hq E hno hfl hnl hok hn hl hroom hbase b6 bl cv b9;generalize ug (l++[(n,q)])=pt at *
 generalize l++[(n,q)]=l2 at *
 have cy:=zq bd;clear bd;go_enter Tryz.func26,Tryz.ntmps26;go_upto_region 4 with fail
 generalize W.alloc (.cells #[.string (S n),.int .i64 (q:Int)] 111)=w1 at *
 have X:Zq (TabAt base w1 ⟨tb,D.blk,.slice a l.length Z,l⟩):=HX.o.below J.o;obtain ⟨A,hA⟩:∃ A,W.heap.size=A:=⟨_,rfl⟩;rw [hA] at I ⊢;have dz:=zq hA;clear hA;have c1:w1.cell? ⟨tb,1,none⟩=some (.slice a l.length Z):=by rw [Lib.cell_of_heap X.o.cells]; rfl
 have d0:w1.cell? ⟨A,0,none⟩=some (.string (S n)):=by rw [Lib.cell_of_heap I.o]; rfl
 have d1:w1.cell? ⟨A,1,none⟩=some (.int .i64 (q:Int)):=by rw [Lib.cell_of_heap I.o]; rfl
 have av:Zq (RowT w1 a l):=by
  obtain ⟨a2,d5,e2,h2⟩:=RowT.own X.o.row
  cases e2
  exact h2
 have br:Zq (∀ w,RecW.ExtR w1.drew w->w.cell? ⟨tb,1,none⟩=some (.slice a l.length Z)/\w.cell? ⟨A,0,none⟩=some (.string (S n))/\w.cell? ⟨A,1,none⟩=some (.int .i64 (q:Int))/\Below w1.heap.size w1 w):=λw E=>by
  have hb:Below w1.heap.size w1 w:=((Below.refl _ w1).drew).trans E;exact ⟨by rw [hb.cell (bq c1)]; exact c1,by rw [hb.cell (bq d0)]; exact d0,by rw [hb.cell (bq d1)]; exact d1,hb⟩
 refine GrowN.au 5 [none,none,none,none,none] RecW.ExtR (by kernel_rfl) (by kernel_rfl) (by kernel_rfl) RecW.ExtR.refl (λ_ _ _=>RecW.ExtR.trans) ?_ ?_
 . exact GrowN.jo rfl
 simp only [List.take_succ_cons,List.take_zero,List.drop_succ_cons,List.drop_zero]
 iterate 5
  refine GrowN.g_det rfl ?_;apply Exists.intro;refine ⟨λw E F=>?_,?_⟩
  . clear F
    obtain ⟨k1,k2,k3,_⟩:=br.o w E;go_simp;exact ⟨rfl,RecW.ExtR.refl _⟩
  go_frame
 refine GrowN.g_nil λab cc F=>?_
 clear F;obtain ⟨_,_,_,ac⟩:=br.o ab cc;have J:Zq (Below W.heap.size W ab):=J.o.trans (ac.mono J.o.size);have X:Zq (TabAt base ab ⟨tb,D.blk,.slice a l.length Z,l⟩):=X.o.below ac;have I:Zq (ab.heap[A]?=_):=(ac.block A (Array.getElem?_eq_some_iff.1 I.o).1).trans I.o;have av:Zq (RowT ab a l):=av.o.below ac;clear c1 d0 d1 ac cc br;go_wp2_with fail;refine (bm.o _ (av.o)).mono ?_;rintro e w2 ⟨rfl,hb⟩;have bs:Zq (Below W.heap.size W w2):=J.o.trans (hb.mono J.o.size);have cd:Zq (TabAt base w2 ⟨tb,D.blk,.slice a l.length Z,l⟩):=X.o.below hb;have ce:Zq (w2.heap[A]?=_):=(hb.block A (Array.getElem?_eq_some_iff.1 I.o).1).trans I.o;clear hb bm av X I J;go_upto_region 7 with fail
 have HK:Zq (∀ w,RecW.ExtR w2.drew w->w.cell? ⟨tb,1,none⟩=some (.slice a l.length Z)/\w.cell? ⟨A,0,none⟩=some (.string (S n))/\w.cell? ⟨A,1,none⟩=some (.int .i64 (q:Int))/\TabAt base w ⟨tb,D.blk,.slice a l.length Z,l⟩/\w2.heap.size<=w.heap.size):=λw E=>by
  have hb:Below w2.heap.size w2 w:=((Below.refl _ w2).drew).trans E;have hx:=cd.o.below hb;have hc:w.heap[A]?=_:=(hb.block A (Array.getElem?_eq_some_iff.1 ce.o).1).trans ce.o;exact ⟨by rw [Lib.cell_of_heap hx.cells]; rfl,by rw [Lib.cell_of_heap hc]; rfl,by rw [Lib.cell_of_heap hc]; rfl,hx,hb.size⟩
 refine GrowN.au 7 [none,none,none,none,some (.inr (λ_ v w=>w.ownsRow w2.heap.size 111 2 v l.length (iw l))),none,some (.inr (λ_ v w=>∃ b,v=.slice (some ⟨b,0,none⟩) 1 1/\w.heap[b]?=some (.cells #[.string (S n),.int .i64 (q:Int)] 111 (0,0))))] RecW.ExtR (by kernel_rfl) (by kernel_rfl) (by kernel_rfl) RecW.ExtR.refl (λ_ _ _=>RecW.ExtR.trans) ?_ ?_
 ·
  intro K hK Y hY l v w w' hR h;simp only [List.mem_cons,List.not_mem_nil,or_false] at hK
  rcases hK with rfl | rfl | rfl | rfl | rfl | rfl | rfl <;> simp only [reduceCtorEq,Option.some.injEq,Sum.inr.injEq] at hY
  . subst hY; exact OctW.ownsRow_mod h (Mod.of_below (M:=λ_=>False) hR) (λ_ x=>x.elim)
  . subst hY; obtain ⟨b,e,hh⟩:=h; exact ⟨b,e,(hR.block b (Array.getElem?_eq_some_iff.1 hh).1).trans hh⟩
 simp only [List.take_succ_cons,List.take_zero,List.drop_succ_cons,List.drop_zero]
 iterate 4
  refine GrowN.g_det rfl ?_;apply Exists.intro;refine ⟨λw E F=>?_,?_⟩
  . clear F
    obtain ⟨k1,k2,k3,_,_⟩:=HK.o w E;go_simp;exact ⟨rfl,RecW.ExtR.refl _⟩
  go_frame
 refine GrowN.g_new rfl (λw E F=>?_) (λv4=>?_)
 ·
  clear F;obtain ⟨_,_,_,k4,k5⟩:=HK.o w E;have da:=zq (b7.o w k4.row);have K5:=zq k5;clear k4 k5;go_simp;exact da.o.mono λe w3 ⟨v,h1,h2,h3⟩=>⟨_,h1,agq h2 K5.o,h3⟩
 go_frame;refine GrowN.g_det rfl ?_;apply Exists.intro;refine ⟨λw E F=>?_,?_⟩
 ·
  clear F;obtain ⟨k1,k2,k3,_,_⟩:=HK.o w E;go_simp;exact ⟨rfl,RecW.ExtR.refl _⟩
 go_frame;refine GrowN.g_new rfl (λw E F=>?_) (λv6=>?_)
 . clear F
   go_simp;exact ⟨⟨_,rfl,heap_alloc_new w _⟩,(Below.refl _ w).alloc (Nat.le_refl _) _⟩
 go_frame;refine GrowN.g_nil λw3 a1 F=>?_
 obtain ⟨b,rfl,bw⟩:=F _ (.head _);have a6:=F _ (.tail _ (.head _));clear F;dsimp only at a6 bw;obtain ⟨v8,w8,cf,cg,ci⟩:=cb.o v4 _ b w3 a6 bw (HK.o w3 a1).2.2.2.2;have cj:=zq cf;have ck:Zq (Below w2.heap.size w2 w8):=(((Below.refl _ w2).drew).trans a1).trans ((Below.refl _ w3).grown ci (HK.o w3 a1).2.2.2.2 (ay a6));have bz:Zq (w8.ownsRow w2.heap.size 111 2 v8 l2.length (iw l2)):=by rw [cy.o]; exact cg
 clear a6 bw cf cg ci a1 HK cb b7;go_wp2_with (at_builtin; refine Lib.wpList_append_run _ rfl (.tmp 29) (.tmp 31) 75 75 rfl _ _ rfl rfl _ _ cj.o ?_);obtain ⟨a8,ad,db,ak⟩:=RowT.own bz.o;subst db;have cm:=zq ak;clear ak cj;have b0:Zq (Below W.heap.size W w8):=bs.o.trans (ck.o.mono bs.o.size);have b1:=zq (cd.o.below ck.o)
 have ba:Zq (∀ w,RecW.ExtR w8.drew w->w.cell? ⟨tb,0,none⟩=some (.pointer (some ⟨D.blk,0,none⟩))/\RowT w a8 l2/\Below w8.heap.size w8 w):=λw E=>by
  have hb:Below w8.heap.size w8 w:=((Below.refl _ w8).drew).trans E;exact ⟨by rw [Lib.cell_of_heap (b1.o.below hb).cells]; rfl,cm.o.below hb,hb⟩
 refine GrowN.au 6 [none,none,none,none,none,some (.inl (.string (S pt)))] RecW.ExtR (by kernel_rfl) (by kernel_rfl) (by kernel_rfl) RecW.ExtR.refl (λ_ _ _=>RecW.ExtR.trans) ?_ ?_
 . exact GrowN.jo rfl
 simp only [List.take_succ_cons,List.take_zero,List.drop_succ_cons,List.drop_zero]
 iterate 5
  refine GrowN.g_det rfl ?_;apply Exists.intro;refine ⟨λw E F=>?_,?_⟩
  . clear F
    obtain ⟨k1,_,_⟩:=ba.o w E;go_simp;exact ⟨rfl,RecW.ExtR.refl _⟩
  go_frame
 refine GrowN.g_con rfl (λw E F=>?_) ?_
 ·
  clear F;have dc:=zq (b8.o a8 ad w (ba.o w E).2.1);go_simp;exact dc.o.mono λe w3 ⟨h1,h2⟩=>⟨_,h1,rfl,h2⟩
 go_frame;refine GrowN.g_nil λw9 cn F=>?_
 clear F;obtain ⟨_,_,bc⟩:=ba.o w9 cn;have O:Zq (Below W.heap.size W w9):=b0.o.trans (bc.mono b0.o.size);have co:=zq (b1.o.below bc);have b2:Zq (w9.ownsRow w2.heap.size 111 2 (.slice a8 l2.length ad) l2.length (iw l2)):=OctW.ownsRow_mod bz.o (Mod.of_below (M:=λ_=>False) bc) (λ_ x=>x.elim);clear cn bc ba b0 b1 bz b8 cm;go_wp2_with fail;refine (bp.o w9 (HD.o.below O.o) (Nat.le_trans ca.o O.o.size)).mono ?_;rintro e al ⟨rfl,b,wv,bh,am,bj,an⟩;have b3:tb < W.heap.size:=HX.o.lt (.inl rfl);have ao:¬ D.foot tb:=λh=>cx.o tb h rfl
 have R:al.heap[tb]?=_:=(am.block tb (co.o.lt (.inl rfl)) ao).trans co.o.cells;have cq:=zq R;have cr:=zq bh;have bk:=zq am;have U:Zq (w9.heap.size<=b/\∀ k,wv.ownBlock=some k->D.wv.ownBlock=some k\/w9.heap.size<=k):=⟨bj,an⟩;have HZ:Zq (tb < W.heap.size/\¬ D.foot tb):=⟨b3,ao⟩;have k1:al.cell? ⟨tb,1,none⟩=some (.slice a l.length Z):=by rw [Lib.cell_of_heap R]; rfl
 have f1:al.frozen? ⟨tb,1,none⟩=false:=Lib.frozen_of_heap R 1;clear R bh am bj an bp b3 ao;go_wp2_with fail;go_ret;obtain ⟨b3,ao⟩:=HZ.o;have ap:Mod (λk=>k=tb) al (al.setCell ⟨tb,1,none⟩ (.slice a8 l2.length ad)):=jm _ _ _ _;have dd:=O.o.size;have de:=bs.o.size;have ar:∀ k,(Value.slice a8 l2.length ad).ownBlock=some k->w2.heap.size<=k:=ay b2.o
 have dj:∀ k,(Value.slice a8 l2.length ad).ownBlock=some k->k < w9.heap.size:=λk hk=>by
  rcases b2.o.2 with ⟨e,_⟩ | ⟨g,cap,cur,e,_,hg,_⟩
  . rw [e] at hk; cases hk
  . rw [e] at hk; cases hk; exact (Array.getElem?_eq_some_iff.1 hg).1
 refine ⟨rfl,_,b,wv,w9.heap.size,⟨DskW.heap_set1 cq.o _ rfl,agq (SegW.ownsRow_mod (SegW.ownsRow_mod b2.o bk.o (λk hk h=>by have h1:=ar k hk; have h2:=HD.o.lt h; omega)) ap (λk hk h=>by have h1:=ar k hk; omega)) (Nat.le_trans ca.o de),HX.o.low⟩,
  cr.o.mod ap (λk hk e=>by
   subst e
   rcases aaz (B:=w9.heap.size) U.o.1 U.o.2 _ hk with h | h
   . exact ao h
   . omega),?_,dd,U.o.1,U.o.2,λk hk=>⟨by have:=ar k hk; omega,dj k hk⟩⟩
 exact ((Mod.of_below O.o).trans (bk.o.mono (N:=λk=>D.foot k\/k=tb) λk _ h=>.inl h)).trans (ap.mono λk _ h=>.inr h)
end TopW
end Go.Proofs.YtcgonejkkpbepaaGreatDoor
