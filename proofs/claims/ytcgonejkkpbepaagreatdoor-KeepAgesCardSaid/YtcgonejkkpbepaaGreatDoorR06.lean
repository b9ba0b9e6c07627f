/- rec: Get, of a record's bytes, whatever stands behind. And what follows. -/
import Derived.Test.YtcgonejkkpbepaaGreatDoorR05
set_option linter.unusedVariables false
set_option linter.unusedSimpArgs false
set_option maxHeartbeats 25600000
set_option maxRecDepth 100000
namespace Go.Proofs.YtcgonejkkpbepaaGreatDoor
namespace RecW
open Go.RowKit OctMath RecMath NameMath
open OctW (Rd One Texts fw bn j5 rq)
structure Mid1 (W:World) (Bt Br:Nat) (r:RS) (w:World):Prop where
 t:w.heap[Bt]?=some (.cells (ae mf none 0) 69 (0,0))
 r:Rd Br r w
 b:Below W.heap.size W w
 ne:Bt≠Br
 le:W.heap.size<=Br
 lt:W.heap.size<=Bt
theorem Mid1.one {W w w':World} {Bt Br:Nat} {r r':RS} (h:Mid1 W Bt Br r w) (hr:Rd Br r' w') (hm:One Br w w'):Mid1 W Bt Br r' w' :=
 ⟨(hm.block Bt (Array.getElem?_eq_some_iff.1 h.t).1 h.ne).trans h.t,hr,h.b.trans (hm.to_below _ h.b.size (λk e=>e ▸ h.le)),h.ne,h.le,h.lt⟩
theorem Mid1.ext {W w w':World} {Bt Br:Nat} {r:RS} (h:Mid1 W Bt Br r w) (hb:Below w.heap.size w w'):Mid1 W Bt Br r w' :=
 ⟨(hb.block _ (Array.getElem?_eq_some_iff.1 h.t).1).trans h.t,h.r.mod (Mod.of_below (M:=λ_=>False) hb) (λh=>h),h.b.trans (hb.mono h.b.size),h.ne,h.le,h.lt⟩
theorem alh (m:Msg) (h:df m=true) (h0:m.kind≠0) (rest:List UInt8):∃ n:Nat,n=(bg m).length/\7<=n/\n<=507/\di 1 ⟨bg m++rest,0⟩=([165],⟨be 2 n++(CrcMath.ag (ai m)++rest),0⟩) /\
 dw 2 ⟨be 2 n++(CrcMath.ag (ai m)++rest),0⟩=(n,⟨CrcMath.ag (ai m)++rest,0⟩)/\di ((n:Int) - 3) ⟨CrcMath.ag (ai m)++rest,0⟩=(CrcMath.ag (ai m),⟨rest,0⟩)/\(CrcMath.ag (ai m)).length=n - 3:=by
 have F:=wy h h0;have B:=CrcMath.jf (ai m);obtain ⟨E,A⟩:=qo h h0;refine ⟨3+(CrcMath.ag (ai m)).length,by omega,by omega,by omega,?_,?_,?_,by omega⟩
 . unfold di bg
   rw [if_neg (by simp),if_neg (by omega),if_neg (by simp <;> omega)];simp
 . exact OctW.aco 2 _ _ (by omega) (by omega) (by omega)
 ·
  unfold di;rw [if_neg (by simp),if_neg (by omega),if_neg (by simp <;> omega)];have:(((3+(CrcMath.ag (ai m)).length:Nat):Int) - 3).toNat=(CrcMath.ag (ai m)).length:=by omega
  rw [this];simp
theorem aps (B:Nat) (m:Msg) (I:df m=true) (h0:m.kind≠0) (rest:List UInt8) (M:rest.length<=1048576) (W:World) (hB:B < W.heap.size) (hT:CrcW.Tabs W B) :
 Calls Tryz.prog 39 #[.pointer (some ⟨B,0,none⟩),.string (S (bg m++rest))] W λe w'=>∃ a c,e=.returned (.tuple #[.agg (ae m a c),.int .i64 ((bg m).length:Int),.int .i64 0])/\Strs w' a (m.keys.map S)/\Below W.heap.size W w'/\∀ Y,a=some Y->W.heap.size<=Y.block:=by
 obtain ⟨n,hn,bk,bl,e1,e2,e3,e4⟩:=alh m I h0 rest;rw [<- hn];have av:=wy I h0;have R:=ah4 m I h0
 have Z:aa4 (ai m)=true:=by
  unfold aa4;rw [R];simp [abn,h0,I]
 have C1:=zq (λ(Br:Nat) (w:World) (h:Rd Br ⟨bg m++rest,0⟩ w)=>OctW.ve Br ⟨bg m++rest,0⟩ 1 (by omega) (by omega) (by show (bg m++rest).length<=_; rw [List.length_append]; omega) w h);have C2:=zq (λ(Br:Nat) (w:World) (h:Rd Br ⟨be 2 n++(CrcMath.ag (ai m)++rest),0⟩ w)=>OctW.pz Br ⟨be 2 n++(CrcMath.ag (ai m)++rest),0⟩ 2 (by omega) (by omega) (by simp only [List.length_append,bf]; omega) w h);have C3:=zq (λ(Br:Nat) (w:World) (h:Rd Br ⟨CrcMath.ag (ai m)++rest,0⟩ w)=>OctW.ve Br ⟨CrcMath.ag (ai m)++rest,0⟩ ((n:Int) - 3) (by omega) (by omega) (by simp only [List.length_append]; omega) w h);have C4:=zq (λ(Br:Nat) (w:World) (h:Rd Br ⟨rest,0⟩ w)=>OctW.zo Br ⟨rest,0⟩ w h);rw [e1] at C1;rw [e2] at C2;rw [e3] at C3;simp only at C1 C2 C3 C4;have C5:=zq (λ(w:World) (hb:Below W.heap.size W w)=>CrcW.ald B (S (CrcMath.ag (ai m))) (by rw [ah]; omega) (by rw [ah]; omega) w (by have:=hb.size; omega) (aaq hT hB hb));have ab:(S (CrcMath.ag (ai m))).data.toList=CrcMath.ag ((S (CrcMath.ag (ai m))).data.toList.drop 4):=by rw [jv,CrcMath.ab8]
 have hex:(S (CrcMath.ag (ai m))).extract 4 (S (CrcMath.ag (ai m))).size=S (ai m):=by rw [amk,CrcMath.ab8]
 rw [if_pos ab,hex] at C5;have C6:=zq (λ(w:World)=>aiy (ai m) (by omega) w);rw [R,Z] at C6;simp only at C6;have bm:=ah;have bj:(bg m++rest).length=n+rest.length:=by rw [List.length_append]; omega
 have bo:¬ ((n:Int)+(rest.length:Int) < 3):=by omega
 have bp:max ((n:Int) - 3) 0=(n:Int) - 3:=by omega
 have br:=S_toList;clear ab hex R Z av e1 e2 e3 I hT hB M hn;generalize CrcMath.ag (ai m)=sl at *
 generalize ai m=il at *
 generalize bg m++rest=rr at *
 unfold ae at C6;go_enter Tryz.func39,Tryz.ntmps39;go_wp2_with fail;refine (OctW.new_any _ _).mono ?_;rintro e w1 ⟨rfl,U,hb⟩;obtain ⟨Bt,N⟩:∃ B,W.heap.size=B:=⟨_,rfl⟩;obtain ⟨Br,X⟩:∃ B,W.heap.size+1=B:=⟨_,rfl⟩
 have M0:Zq (Mid1 W Bt Br ⟨rr,0⟩ w1):=by
  rw [World.size_alloc,X] at U;refine ⟨?_,U,((Below.refl _ _).alloc (Nat.le_refl _) _).trans (hb.mono (by rw [World.size_alloc]; omega)),by omega,by omega,by omega⟩;rw [<- N,hb.block _ (by rw [World.size_alloc]; omega)];exact heap_alloc_new W _
 clear U hb;rw [World.size_alloc,X,N];have a1:=zq N;clear X N;go_wp2_with fail;refine (C1.o Br _ M0.o.r).mono ?_;rintro e w2 ⟨rfl,M,I⟩;have M1:=zq (M0.o.one M I);clear M I M0 C1;go_wp2_with fail;refine (C2.o Br _ M1.o.r).mono ?_;rintro e w3 ⟨rfl,M,I⟩;have M2:=zq (M1.o.one M I);clear M I M1 C2;go_wp2_with fail;refine (C3.o Br _ M2.o.r).mono ?_;rintro e w4 ⟨rfl,M,I⟩;have M3:=zq (M2.o.one M I);clear M I M2 C3;go_wp2_with fail;refine (C4.o Br _ M3.o.r).mono ?_;rintro e w5 ⟨rfl,rfl⟩;go_wp2_with fail;refine (C5.o _ M3.o.b).mono ?_;rintro e w6 ⟨rfl,hb⟩;have M4:=zq (M3.o.ext hb);clear hb M3 C5 C4;go_wp2_with fail;refine (C6.o w6).mono ?_;rintro e J ⟨a,c,rfl,ac,hb,ak⟩;have M5:=zq (M4.o.ext hb);have al:=zq ac;have am:=zq ak;have an:Zq (Bt < w6.heap.size/\W.heap.size<=w6.heap.size):=⟨(Array.getElem?_eq_some_iff.1 M4.o.t).1,M4.o.b.size⟩;clear hb M4 C6 ac ak;go_upto_region 22 with fail
 have O:Zq (Below J.heap.size J (J.alloc (.cells #[.int .i64 m.kind,.int .i64 m.queue,.int .i64 m.due,.int .i64 m.retry,.int .i64 m.ref,.int .i64 m.born,.string (S m.topic),.string (S m.tag),.string (S m.body),.slice a m.keys.length c] 69))):=(Below.refl J.heap.size J).alloc (Nat.le_refl _) _
 have A:Zq ((J.alloc (.cells #[.int .i64 m.kind,.int .i64 m.queue,.int .i64 m.due,.int .i64 m.retry,.int .i64 m.ref,.int .i64 m.born,.string (S m.topic),.string (S m.tag),.string (S m.body),.slice a m.keys.length c] 69)).heap[Bt]?=some (.cells (ae mf none 0) 69 (0,0))):=by
  show _=_;rw [O.o.block _ (Array.getElem?_eq_some_iff.1 M5.o.t).1]; exact M5.o.t
 have E:Zq ((J.alloc (.cells #[.int .i64 m.kind,.int .i64 m.queue,.int .i64 m.due,.int .i64 m.retry,.int .i64 m.ref,.int .i64 m.born,.string (S m.topic),.string (S m.tag),.string (S m.body),.slice a m.keys.length c] 69)).heap[J.heap.size]?=some (.cells #[.int .i64 m.kind,.int .i64 m.queue,.int .i64 m.due,.int .i64 m.retry,.int .i64 m.ref,.int .i64 m.born,.string (S m.topic),.string (S m.tag),.string (S m.body),.slice a m.keys.length c] 69 (0,0))):=heap_alloc_new J _;have a7:=zq (Strs.below al.o O.o);generalize hw8:J.alloc (.cells #[.int .i64 m.kind,.int .i64 m.queue,.int .i64 m.due,.int .i64 m.retry,.int .i64 m.ref,.int .i64 m.born,.string (S m.topic),.string (S m.tag),.string (S m.body),.slice a m.keys.length c] 69)=w8 at *
 obtain ⟨Bn,ao⟩:∃ B,J.heap.size=B:=⟨_,rfl⟩;rw [ao] at E ⊢;have ap:Zq (Below W.heap.size W w8):=M5.o.b.trans (O.o.mono M5.o.b.size);clear ao hw8 M5 al O;have k0:w8.cell? ⟨Bt,0,none⟩=some (.int .i64 0):=by rw [Lib.cell_of_heap A.o]; rfl
 have k1:w8.cell? ⟨Bt,1,none⟩=some (.int .i64 0):=by rw [Lib.cell_of_heap A.o]; rfl
 have k2:w8.cell? ⟨Bt,2,none⟩=some (.int .i64 0):=by rw [Lib.cell_of_heap A.o]; rfl
 have k3:w8.cell? ⟨Bt,3,none⟩=some (.int .i64 0):=by rw [Lib.cell_of_heap A.o]; rfl
 have k4:w8.cell? ⟨Bt,4,none⟩=some (.int .i64 0):=by rw [Lib.cell_of_heap A.o]; rfl
 have k5:w8.cell? ⟨Bt,5,none⟩=some (.int .i64 0):=by rw [Lib.cell_of_heap A.o]; rfl
 have k6:w8.cell? ⟨Bt,6,none⟩=some (.string ⟨#[]⟩):=by rw [Lib.cell_of_heap A.o]; rfl
 have k7:w8.cell? ⟨Bt,7,none⟩=some (.string ⟨#[]⟩):=by rw [Lib.cell_of_heap A.o]; rfl
 have k8:w8.cell? ⟨Bt,8,none⟩=some (.string ⟨#[]⟩):=by rw [Lib.cell_of_heap A.o]; rfl
 have k9:w8.cell? ⟨Bt,9,none⟩=some (.slice none 0 0):=by rw [Lib.cell_of_heap A.o]; rfl
 have n0:w8.cell? ⟨Bn,0,none⟩=some (.int .i64 m.kind):=by rw [Lib.cell_of_heap E.o]; rfl
 have n1:w8.cell? ⟨Bn,1,none⟩=some (.int .i64 m.queue):=by rw [Lib.cell_of_heap E.o]; rfl
 have n2:w8.cell? ⟨Bn,2,none⟩=some (.int .i64 m.due):=by rw [Lib.cell_of_heap E.o]; rfl
 have n3:w8.cell? ⟨Bn,3,none⟩=some (.int .i64 m.retry):=by rw [Lib.cell_of_heap E.o]; rfl
 have n4:w8.cell? ⟨Bn,4,none⟩=some (.int .i64 m.ref):=by rw [Lib.cell_of_heap E.o]; rfl
 have n5:w8.cell? ⟨Bn,5,none⟩=some (.int .i64 m.born):=by rw [Lib.cell_of_heap E.o]; rfl
 have n6:w8.cell? ⟨Bn,6,none⟩=some (.string (S m.topic)):=by rw [Lib.cell_of_heap E.o]; rfl
 have n7:w8.cell? ⟨Bn,7,none⟩=some (.string (S m.tag)):=by rw [Lib.cell_of_heap E.o]; rfl
 have n8:w8.cell? ⟨Bn,8,none⟩=some (.string (S m.body)):=by rw [Lib.cell_of_heap E.o]; rfl
 have n9:w8.cell? ⟨Bn,9,none⟩=some (.slice a m.keys.length c):=by rw [Lib.cell_of_heap E.o]; rfl
 have a8:∀ j,w8.frozen? ⟨Bt,j,none⟩=false:=λj=>Lib.frozen_of_heap A.o j
 have HH:=zq (mi (z:=ae mf none 0) rfl A.o (.int .i64 m.kind) (.int .i64 m.queue) (.int .i64 m.due) (.int .i64 m.retry) (.int .i64 m.ref) (.int .i64 m.born) (.string (S m.topic)) (.string (S m.tag)) (.string (S m.body)) (.slice a m.keys.length c));have ar:=zq (oz w8 Bt (.int .i64 m.kind) (.int .i64 m.queue) (.int .i64 m.due) (.int .i64 m.retry) (.int .i64 m.ref) (.int .i64 m.born) (.string (S m.topic)) (.string (S m.tag)) (.string (S m.body)) (.slice a m.keys.length c));go_wp2_with fail;clear k0 k1 k2 k3 k4 k5 k6 k7 k8 k9 a8 n0 n1 n2 n3 n4 n5 n6 n7 n8 n9;change bodyPost _ _ _ _ _ (yh w8 Bt (.int .i64 m.kind) (.int .i64 m.queue) (.int .i64 m.due) (.int .i64 m.retry) (.int .i64 m.ref) (.int .i64 m.born) (.string (S m.topic)) (.string (S m.tag)) (.string (S m.body)) (.slice a m.keys.length c));generalize yh w8 Bt (.int .i64 m.kind) (.int .i64 m.queue) (.int .i64 m.due) (.int .i64 m.retry) (.int .i64 m.ref) (.int .i64 m.born) (.string (S m.topic)) (.string (S m.tag)) (.string (S m.body)) (.slice a m.keys.length c)=w9 at *
 have F:=HH.o;have c0:w9.cell? ⟨Bt,0,none⟩=some (.int .i64 m.kind):=by rw [Lib.cell_of_heap F]; rfl
 have c1:w9.cell? ⟨Bt,1,none⟩=some (.int .i64 m.queue):=by rw [Lib.cell_of_heap F]; rfl
 have c2:w9.cell? ⟨Bt,2,none⟩=some (.int .i64 m.due):=by rw [Lib.cell_of_heap F]; rfl
 have c3:w9.cell? ⟨Bt,3,none⟩=some (.int .i64 m.retry):=by rw [Lib.cell_of_heap F]; rfl
 have c4:w9.cell? ⟨Bt,4,none⟩=some (.int .i64 m.ref):=by rw [Lib.cell_of_heap F]; rfl
 have c5:w9.cell? ⟨Bt,5,none⟩=some (.int .i64 m.born):=by rw [Lib.cell_of_heap F]; rfl
 have c6:w9.cell? ⟨Bt,6,none⟩=some (.string (S m.topic)):=by rw [Lib.cell_of_heap F]; rfl
 have c7:w9.cell? ⟨Bt,7,none⟩=some (.string (S m.tag)):=by rw [Lib.cell_of_heap F]; rfl
 have c8:w9.cell? ⟨Bt,8,none⟩=some (.string (S m.body)):=by rw [Lib.cell_of_heap F]; rfl
 have c9:w9.cell? ⟨Bt,9,none⟩=some (.slice a m.keys.length c):=by rw [Lib.cell_of_heap F]; rfl
 have ba:Below W.heap.size W w9:=ap.o.trans (ar.o.to_below _ ap.o.size (λk e=>by rw [e,<- a1.o]; exact Nat.le_refl _));refine bodyPost_ret (v:=.tuple #[.agg #[.int .i64 m.kind,.int .i64 m.queue,.int .i64 m.due,.int .i64 m.retry,.int .i64 m.ref,.int .i64 m.born,.string (S m.topic),.string (S m.tag),.string (S m.body),.slice a m.keys.length c],.int .i64 (n:Int),.int .i64 0]) ?_ rfl ⟨a,c,rfl,?_,ba,λY e=>by have h1:=am.o Y e; have h2:=an.o; omega⟩
 . clear F
   simp [results,Tryz.results39,go_sem,c0,c1,c2,c3,c4,c5,c6,c7,c8,c9]
 . exact zz a7.o ar.o (λY e _=>by have h1:=am.o Y e; have h2:=an.o; omega)
end RecW
namespace TapeW
open Go.RowKit Go.MapKept OctMath RecMath RecW TapeMath DskW SegW MapG
theorem put_ok {m:Msg} (h:df m=true) (h0:m.kind≠0):abt m=(bg m,0):=by unfold abt; rw [if_neg (by rw [h]; decide),if_neg h0]
def bv (e:Nat) (m:Msg):List UInt8:=if ik e=(bg m).length\/(bg m).length+3<=ik e then [] else mg ((ik e:Nat):Int)
theorem apt {base:Nat} {T:TapeD} (m:Msg) (hm:um m) (hr:df m=true) (h0:m.kind≠0) (a:Option Addr) (c:Nat) (W:World) (h:TapeAt base W T) (hS:Strs W a (m.keys.map S)) :
 Calls Tryz.prog 116 #[.pointer (some ⟨T.O.blk,0,none⟩),.agg (ae m a c)] W λe w'=>e=.returned (.tuple #[.string (S (bv T.R.e m)),.string (S (bg m)),.bool true])/\Below W.heap.size W w':=by
 have B:Zq (Below W.heap.size W (W.alloc (.cells (ae m a c) 69))):=(Below.refl _ W).alloc (Nat.le_refl _) _;have X:Zq (RecW.Boxed (W.alloc (.cells (ae m a c) 69)) W.heap.size (ae m a c)):=RecW.Boxed.new W _ _;have I:=zq (h.below B.o);have av:=zq (Strs.below hS B.o);have ak:=aj5 h.whole.seg h.size;have a1:(ae m a c).size=10:=rfl;have J:=put_ok hr h0;have HM:=zq hm;obtain ⟨a6,bd⟩:=qo hr h0;have bh:=ah;have bj:=RecW.S_toList;have E:Zq (bv T.R.e m=if ik T.R.e=(bg m).length\/(bg m).length+3<=ik T.R.e then [] else mg ((ik T.R.e:Nat):Int)):=rfl;have bk:=room_le T.R.e;have Y:=ac8 h.fits (by have:=h.whole.seg.mult; rw [h.size] at this; exact this);rw [<- h.txt] at Y;have Y:3<=ik T.R.e:=Y;clear a6;clear h hS hm;go_enter Tryz.func116,Tryz.ntmps116;go_upto_region 1 with fail
 generalize W.alloc (.cells (ae m a c) 69)=w1 at *
 clear a1;obtain ⟨A,hA⟩:∃ A,W.heap.size=A:=⟨_,rfl⟩;rw [hA] at X ⊢;have F:Zq (∀ w,Below w1.heap.size w1 w->∀ (i:Nat) (v:Value),(ae m a c)[i]?=some v->w.cell? ⟨A,i,none⟩=some v):=λw hb i v hv=>(X.o.below hb) i v hv
 have al:Zq (∀ w,Below w1.heap.size w1 w->w.cell? ⟨T.O.blk,1,none⟩=some (.pointer (some ⟨T.O.sums,0,none⟩))):=λw hb=>(I.o.below hb).own.cell 1 _ rfl
 have HP:Zq (∀ w,Below w1.heap.size w1 w->Calls Tryz.prog 179 #[.pointer (some ⟨T.O.sums,0,none⟩),.agg (ae m a c)] w λe w'=>e=.returned (.tuple #[.string (S (abt m).1),.int .i64 (abt m).2])/\Below w.heap.size w w'):=λw hb =>
  put_any T.O.sums m HM.o a c w (I.o.below hb).own.low.1 (I.o.below hb).own.tabs (Strs.below av.o hb)
 have Z:=zq hA;clear hA X;unfold ae at F HP ⊢;rw [J] at HP;simp only at HP;clear J;generalize J:bg m=pl at *
 have ab:=zq J;have a8:Zq (∀ w,Below w1.heap.size w1 w->w.cell? ⟨A,0,none⟩=some (.int .i64 m.kind)):=λw hb=>F.o w hb 0 _ rfl
 refine GrowN.au 11 [none,none,none,none,some (.inl (.agg #[.int .i64 m.kind,.int .i64 m.queue,.int .i64 m.due,.int .i64 m.retry,.int .i64 m.ref,.int .i64 m.born,.string (S m.topic),.string (S m.tag),.string (S m.body),.slice a m.keys.length c])),some (.inl (.tuple #[.string (S pl),.int .i64 0])),none,none,none,none,none] (RecW.ExtR) (by kernel_rfl) (by kernel_rfl) (by kernel_rfl) (RecW.ExtR.refl) (λ_ _ _=>RecW.ExtR.trans) ?_ ?_
 . exact GrowN.jo rfl
 simp only [List.take_succ_cons,List.take_zero,List.drop_succ_cons,List.drop_zero]
 iterate 3
  refine GrowN.g_det rfl ?_;apply Exists.intro;refine ⟨λw hw M=>?_,?_⟩
  . clear M
    go_simp;exact ⟨rfl,RecW.ExtR.refl _⟩
  go_frame
 refine GrowN.g_det rfl ?_;apply Exists.intro;refine ⟨λw hw M=>?_,?_⟩
 ·
  clear M;have hb:=(Below.refl w1.heap.size w1).drew.trans hw;have c1:=al.o w hb;go_simp;exact ⟨rfl,RecW.ExtR.refl _⟩
 go_frame;refine GrowN.g_con rfl (λw hw M=>?_) ?_
 ·
  clear M;have hb:=(Below.refl w1.heap.size w1).drew.trans hw;have k0:=F.o w hb 0 _ rfl;have k1:=F.o w hb 1 _ rfl;have k2:=F.o w hb 2 _ rfl;have k3:=F.o w hb 3 _ rfl;have k4:=F.o w hb 4 _ rfl;have k5:=F.o w hb 5 _ rfl;have k6:=F.o w hb 6 _ rfl;have k7:=F.o w hb 7 _ rfl;have k8:=F.o w hb 8 _ rfl;have k9:=F.o w hb 9 _ rfl;go_simp;exact RecW.ExtR.refl _
 go_frame;refine GrowN.g_con rfl (λw hw M=>?_) ?_
 ·
  clear M;have hb:=(Below.refl w1.heap.size w1).drew.trans hw;go_simp;exact (HP.o w hb).mono λe w3 h=>⟨_,h.1,rfl,h.2⟩
 iterate 5
  go_frame;refine GrowN.g_det rfl ?_;apply Exists.intro;refine ⟨λw hw M=>?_,?_⟩
  . clear M
    go_simp;exact ⟨rfl,RecW.ExtR.refl _⟩
 go_frame;refine GrowN.g_nil λw2 an M=>?_
 clear M;have N:=zq ((Below.refl w1.heap.size w1).drew.trans an);clear an F al;have k0:w2.cell? ⟨A,0,none⟩=some (.int .i64 m.kind):=a8.o w2 N.o;have c0:w2.cell? ⟨T.O.blk,0,none⟩=some (.pointer (some ⟨T.R.blk,0,none⟩)):=(I.o.below N.o).c0;have ad:=zq (SegW.room_any w2 (I.o.below N.o).whole.seg);rw [ak] at ad;have ao:=zq (λ(w:World)=>agh ((ik T.R.e:Nat):Int) (by omega) (by omega) w);rw [decide_eq_true (by omega)] at ao;generalize ik T.R.e=rm at *
 clear ak J HP;go_wp2_with fail;refine ad.o.mono ?_;rintro e w3 ⟨rfl,hd⟩;have U:=zq (N.o.trans (hd.below _));clear hd ad
 by_cases h1:rm=pl.length
 ·
  have HF:Zq (bv T.R.e m=[]):=by show _=_; rw [E.o,if_pos (.inl h1)]
  clear E;subst h1;go_wp2_with fail;go_ret3;refine ⟨by rw [HF.o,ab.o]; rfl,?_⟩;exact B.o.trans (U.o.mono (by have:=B.o.size; have:=Z.o; omega))
 ·
  by_cases h2:pl.length+3<=rm
  ·
   have HF:Zq (bv T.R.e m=[]):=by show _=_; rw [E.o,if_pos (.inr h2)]
   clear E;have ar:¬ ((rm:Int) - (pl.length:Int)=0):=by omega
   have ba:(3:Int)<=(rm:Int) - (pl.length:Int):=by omega
   go_wp2_with fail;go_ret3;refine ⟨by rw [HF.o,ab.o]; rfl,?_⟩;exact B.o.trans (U.o.mono (by have:=B.o.size; have:=Z.o; omega))
  ·
   have HF:Zq (bv T.R.e m=mg (rm:Int)):=by show _=_; rw [E.o,if_neg (λh=>h.elim h1 h2)]
   clear E;have ar:¬ ((rm:Int) - (pl.length:Int)=0):=by omega
   have ba:¬ (3:Int)<=(rm:Int) - (pl.length:Int):=by omega
   go_wp2_with fail
   . exfalso
     rename_i hc
     rcases hc with hc | hc
     . exact ar (eq_of_beq hc)
     . omega
   refine (ao.o w3).mono ?_;rintro e w4 ⟨rfl,hb⟩;have bb:=zq (U.o.trans (hb.mono U.o.size));clear hb;go_wp2_with fail;go_ret3;refine ⟨by rw [HF.o,ab.o]; rfl,?_⟩;exact B.o.trans (bb.o.mono (by have:=B.o.size; have:=Z.o; omega))
def Few (D0 D:DiskD):Prop:=D.files.length+D0.waits.length<=D0.files.length+D.waits.length/\(∀ p∈D.files,p.1.length<=ol.length+8\/∃ q∈D0.files,q.1=p.1)/\D.cap=D0.cap
theorem Few.refl (D:DiskD):Few D D:=⟨Nat.le_refl _,λp hp=>.inr ⟨p,hp,rfl⟩,rfl⟩
theorem Few.app {D0 D D':DiskD} (h:Few D0 D) (k:Few D D'):Few D0 D' :=
 ⟨by have h1:=h.1; have B:=k.1; omega,λp hp=>(k.2.1 p hp).elim .inl λ⟨q,A,e⟩=>e ▸ h.2.1 q A,k.2.2.trans h.2.2⟩
structure Half (base B:Nat) (w:World) (T:TapeD) (f:List UInt8) (D:DiskD) (R:SegD):Prop where
 own:OwnAt base w T.O
 whole:Whole base w D R
 wait:Waiting D R
 quiet:Quiet D
 away:∀ k,T.O.foot k->¬ D.foot k/\¬ R.foot k
 tab:TabB base w
 big:B<=w.heap.size/\base<=B
 rblk:R.blk=T.R.blk
 dblk:D.blk=T.D.blk
 b:R.b=T.R.b
 syn:R.synced=T.R.synced
 head:R.head=ol
 size:R.size=1024
 txt:R.txt=T.R.txt++f
 room:D.room=T.D.room - (f.length:Int)
 foot:∀ k,D.foot k\/R.foot k->T.D.foot k\/T.R.foot k\/B<=k
 lts:∀ k,T.O.foot k->k < B
 other:∀ n,(∀ p,p<=99999999->n≠af ol p)->D.find n=T.D.find n
 few:Few T.D D
theorem Half.e {base B:Nat} {w:World} {T:TapeD} {f:List UInt8} {D:DiskD} {R:SegD} (h:Half base B w T f D R):R.e=T.R.e+f.length:=by
 unfold SegD.e; rw [h.b,h.txt,List.length_append]; omega
theorem Half.start {base:Nat} {w:World} {T:TapeD} (h:TapeAt base w T) (hq:Quiet T.D) (hT:TabB base w) (hb:base<=w.heap.size):Half base w.heap.size w T [] T.D T.R :=
 ⟨h.own,h.whole,h.wait,hq,h.away,hT,⟨Nat.le_refl _,hb⟩,rfl,rfl,rfl,rfl,h.head,h.size,(List.append_nil _).symm,by simp,λk hk=>hk.elim .inl (λh=>.inr (.inl h)),λk hk=>h.own.lt hk,λ_ _=>rfl,Few.refl _⟩
theorem zg {base B:Nat} {w:World} {T:TapeD} {f:List UInt8} {D:DiskD} {R:SegD} (h:Half base B w T f D R) (s:List UInt8) (h0:s≠[]) (hr:s.length<=ik (T.R.e+f.length)) (hf:(s.length:Int)<=D.room) (hwl:D.waits.length<=1048576) (he:T.R.e+f.length<=99999999) :
 Calls Tryz.prog 118 #[.pointer (some ⟨T.R.blk,0,none⟩),.string (S s)] w λe w'=>e=.returned (.tuple #[.int .i64 ((T.R.e+f.length:Nat):Int),.int .i64 0]) /\
  ∃ D' R',Half base B w' T (f++s) D' R'/\Mod (λk=>T.D.foot k\/T.R.foot k\/B<=k) w w'/\D'.waits.length=D.waits.length+1:=by
 have I:=h.e;have X:=aj5 h.whole.seg h.size;have hA:=append_ok s w h.tab h.whole (Nat.le_trans h.big.2 h.big.1) h.quiet h0 (by rw [X,I]; exact hr) hf hwl (λ_=>by omega);rw [<- h.rblk,<- I];refine hA.mono ?_;rintro e w' ⟨rfl,U,D',R',hW,A,F,J,M⟩;have e1:R'.b=R.b:=by rw [F]
 have e2:R'.size=R.size:=by rw [F]
 have e3:R'.head=R.head:=by rw [F]
 have e4:R'.synced=R.synced:=by rw [F]
 have e5:R'.txt=R.txt++s:=by rw [F]
 have e6:R'.blk=R.blk:=by rw [F]
 have N:0 < R'.n:=by
  rcases Nat.eq_zero_or_pos R'.n with hz | hp
  . exfalso
    have:=(hW.seg.empty hz).2;rw [e5] at this;exact h0 (List.append_eq_nil_iff.1 this).2
  . exact hp
 have O:Mod (λk=>T.D.foot k\/T.R.foot k\/B<=k) w w':=U.mono (λk _ hk=>h.foot k hk);refine ⟨rfl,D',R',⟨?_,hW,h.wait.app h.whole.seg hW.seg A h0 F N,A.quiet,?_,?_,⟨Nat.le_trans h.big.1 U.size,h.big.2⟩,e6.trans h.rblk,A.blk.trans h.dblk,e1.trans h.b,e4.trans h.syn,e3.trans h.head,e2.trans h.size,?_,?_,?_,h.lts,?_,?_⟩,O,?_⟩
 ·
  refine h.own.mod U (λk hk Y=>?_);have:=h.away k hk
  rcases Y with E | E
  . exact this.1 E
  . exact this.2 E
 ·
  intro k hk;have h1:=h.away k hk;have E:=h.lts k hk;have h3:=h.big.1;refine ⟨λhd=>?_,λhd=>?_⟩
  . rcases J k hd with h4 | h4
    . exact h1.1 h4
    . omega
  . rcases M k hd with h4 | h4
    . exact h1.2 h4
    . omega
 ·
  refine h.tab.mod U (λk hk=>?_)
  rcases hk with h1 | h1
  . exact h.whole.dsk.base_le h1
  . rcases h1 with h1 | h1
    . rw [h1]; exact h.whole.seg.above
    . exact ay h.whole.seg.row k h1
 . rw [e5,h.txt,List.append_assoc]
 . rw [A.room,h.room,List.length_append]; omega
 ·
  intro k hk
  rcases hk with h1 | h1
  . rcases J k h1 with E | E
    . exact h.foot k (.inl E)
    . right; right; have:=h.big.1; omega
  . rcases M k h1 with E | E
    . exact h.foot k (.inr E)
    . right; right; have:=h.big.1; omega
 . intro n hn
   rw [A.other n (by rw [h.head]; exact hn)];exact h.other n hn
 ·
  refine h.few.app ⟨?_,λp hp=>by have:=A.names p hp; rw [h.head] at this; exact this,A.cap⟩;obtain ⟨f',o,_,Z⟩:=A.waits;have:=A.files;rw [Z,List.length_append];show _<=D.files.length+(D.waits.length+1);omega
 . obtain ⟨f',o,_,Z⟩:=A.waits
   rw [Z,List.length_append]; rfl
structure Next (T T':TapeD) (x:List TapeMath.Item):Prop where
 blk:T'.O.blk=T.O.blk
 sums:T'.O.sums=T.O.sums
 dblk:T'.D.blk=T.D.blk
 b:T'.R.b=T.R.b
 syn:T'.R.synced=T.R.synced
 its:T'.its=T.its++x
 quiet:Quiet T'.D
 room:T'.D.room=T.D.room - ((fu x).length:Int)
 waits:T'.D.waits≠[]
 wl:T'.D.waits.length<=T.D.waits.length+2
 other:∀ n,(∀ p,p<=99999999->n≠af ol p)->T'.D.find n=T.D.find n
 few:Few T.D T'.D
theorem tq (e:Nat) (m:Msg):fu (lv e m)=bv e m++bg m:=by
 unfold lv bv
 split
 . simp [fu,TapeMath.Item.bytes]
 . simp [fu,TapeMath.Item.bytes]
theorem abz (e:Nat) (m:Msg):gy e (lv e m)=[(e+(bv e m).length,m)]:=by
 unfold lv bv
 split
 . rfl
 . rfl
theorem adn (e:Nat) (m:Msg) (h:3<=ik e):(bv e m=[]/\((bg m).length<=ik e))\/((bv e m).length=ik e/\bv e m≠[]/\ik (e+(bv e m).length)=1024):=by
 unfold bv;have B:=room_le e
 split
 . rename_i h1; exact .inl ⟨rfl,by omega⟩
 ·
  right
  have A:=ac5 h (B.2);refine ⟨A,λh=>?_,?_⟩
  . rw [h] at A; simp at A; omega
  . rw [A]; unfold ik; omega
theorem afq {base:Nat} {w:World} {T:TapeD} (h:TapeAt base w T):3<=ik T.R.e:=by
 have A:=ac8 h.fits (by have:=h.whole.seg.mult; rw [h.size] at this; exact this);rw [<- h.txt] at A;exact A
theorem xh {base:Nat} {w:World} {T:TapeD} (h:TapeAt base w T):T.R.e=T.R.b+(fu T.its).length:=by unfold SegD.e; rw [h.txt]
theorem Half.done {base B:Nat} {w w':World} {T:TapeD} {D:DiskD} {R:SegD} {idv:Value} {m:Msg} (h0:TapeAt base w T) (hr:df m=true) (hk:m.kind≠0) (h:Half base B w' T (bv T.R.e m++bg m) D R)
 {w2:World} (ho:OwnAt base w2 (T.O.add idv (T.R.e+(bv T.R.e m).length) m)) (hm:Mod T.O.foot w' w2) (hi:∀ k,idv.ownBlock=some k->T.O.foot k\/w'.heap.size<=k) :
 TapeAt base w2 ⟨T.O.add idv (T.R.e+(bv T.R.e m).length) m,D,R,T.its++lv T.R.e m⟩/\∀ k,TapeD.foot ⟨T.O.add idv (T.R.e+(bv T.R.e m).length) m,D,R,T.its++lv T.R.e m⟩ k->T.foot k\/B<=k:=by
 have I:=xh h0
 have E:∀ k,(T.O.add idv (T.R.e+(bv T.R.e m).length) m).foot k->T.O.foot k\/w'.heap.size<=k:=λk hk=>by
  rcases hk with hk | hk | hk | hk
  . exact .inl (.inl hk)
  . exact .inl (.inr (.inl hk))
  . exact .inl (.inr (.inr (.inl hk)))
  . exact hi k hk
 refine ⟨⟨ho,h0.rb.trans h.rblk.symm,?_,λk hk=>?_,h.whole.mod hm (λk hk F=>(h.away k F).1 hk) (λk hk F=>(h.away k F).2 hk),h.head,h.size,?_,?_,?_,h.wait⟩,λk hk=>?_⟩
 . show T.O.recs++[_]=gy R.b (T.its++lv T.R.e m)
   rw [h.b,ac6,<- I,abz,h0.recs]
 . rcases E k hk with h1 | h1
   . exact h.away k h1
   . exact ⟨λA=>by have:=h.whole.dsk.lt A; omega,λA=>by have:=h.whole.seg.lt A; omega⟩
 . show R.txt=fu (T.its++lv T.R.e m)
   rw [h.txt,ru,tq,h0.txt]
 . show Fits R.b (T.its++lv T.R.e m)
   rw [h.b,I];exact akp h0.fits (by have:=h0.whole.seg.mult; rw [h0.size] at this; exact this) hr hk
 ·
  intro p hp;have e:(T.O.recs++[(T.R.e+(bv T.R.e m).length,m)]).getLast?=some p:=hp;rw [List.getLast?_append] at e;simp at e;rw [<- e]; rfl
 ·
  rcases hk with h1 | h1 | h1
  . rcases E k h1 with A | A
    . exact .inl (.inl A)
    . right; have:=h.big.1; omega
  . rcases h.foot k (.inl h1) with A | A | A
    . exact .inl (.inr (.inl A))
    . exact .inl (.inr (.inr A))
    . exact .inr A
  . rcases h.foot k (.inr h1) with A | A | A
    . exact .inl (.inr (.inl A))
    . exact .inl (.inr (.inr A))
    . exact .inr A
theorem aqz {base:Nat} {w:World} {T:TapeD} (h:TapeAt base w T) (n:Nat):∀ p∈T.O.recs,p.1≠T.R.e+n:=by
 intro p hp e;rw [h.recs] at hp;obtain ⟨id,m⟩:=p;obtain ⟨a,c,h1,A⟩:=ac7 h.fits hp;have B:=ajv h.fits hp;have E:=xh h;have F:0 < (bg m).length:=by unfold bg; rw [List.cons_append,List.length_cons]; omega
 simp only at e;omega
theorem append_ok {base:Nat} {T:TapeD} (m:Msg) (hm:um m) (hr:df m=true) (h0:m.kind≠0) (a:Option Addr) (c:Nat) (W:World) (h:TapeAt base W T) (hS:Strs W a (m.keys.map S)) (hq:Quiet T.D) (hT:TabB base W) (hbase:base<=W.heap.size)
 (hroom:(((bv T.R.e m).length+(bg m).length:Nat):Int)<=T.D.room) (hwl:T.D.waits.length<=1000000) (hfar:T.R.e<=90000000) (hrl:T.O.recs.length<=1000000) :
 Calls Tryz.prog 56 #[.pointer (some ⟨T.O.blk,0,none⟩),.agg (ae m a c)] W λe w'=>e=.returned (.tuple #[.int .i64 ((T.R.e+(bv T.R.e m).length:Nat):Int),.int .i64 0]) /\
  ∃ T',TapeAt base w' T'/\Next T T' (lv T.R.e m)/\Mod T.foot W w'/\∀ k,T'.foot k->T.foot k\/W.heap.size<=k:=by
 have E:Zq (Below W.heap.size W (W.alloc (.cells (ae m a c) 69))):=(Below.refl _ W).alloc (Nat.le_refl _) _;have ad:Zq (RecW.Boxed (W.alloc (.cells (ae m a c) 69)) W.heap.size (ae m a c)):=RecW.Boxed.new W _ _;have ce:W.heap.size < (W.alloc (.cells (ae m a c) 69)).heap.size:=by rw [World.size_alloc]; omega
 have ar:=zq (h.below E.o);have cf:=zq (Strs.below hS E.o);have ao:=zq (hT.below E.o);have cg:Zq (∀ k,T.foot k->k < W.heap.size):=λk hk=>h.lt hk
 have ci:(ae m a c).size=10:=rfl;have bl:=afq h;obtain ⟨av,dp⟩:=qo hr h0;have bm:=adn T.R.e m bl;have ap:=room_le T.R.e;have bo:=zq (aqz h (bv T.R.e m).length);have HM:=zq hm;have HR:=zq hr;have H0:=zq h0;have HH:=zq h;have HQ:=zq hq;have ds:=ah;have dt:=RecW.S_toList;have a1:bg m≠[]:=λe=>by rw [e] at av; simp at av; omega
 have dl:(bg m).isEmpty=false:=by cases B:bg m with | nil=>exact absurd B a1 | cons _ _=>rfl
 clear h hS hm hT hr h0 hq av bl;go_enter Tryz.func56,Tryz.ntmps56;go_upto_region 1 with fail
 generalize W.alloc (.cells (ae m a c) 69)=w1 at *
 clear ci;obtain ⟨A,hA⟩:∃ A,W.heap.size=A:=⟨_,rfl⟩;rw [hA] at ad ce ⊢;have cn:=zq hA;have a6:=zq (apt m HM.o HR.o H0.o a c w1 ar.o cf.o);have a7:Zq (ae m a c=#[.int .i64 m.kind,.int .i64 m.queue,.int .i64 m.due,.int .i64 m.retry,.int .i64 m.ref,.int .i64 m.born,.string (S m.topic),.string (S m.tag),.string (S m.body),.slice a m.keys.length c]):=rfl;rw [a7.o] at a6;obtain ⟨k0,k1,k2,k3,k4,k5,k6,k7,k8,k9⟩:=RecW.mr ad.o;clear hA;go_wp2_with fail;refine a6.o.mono ?_;rintro e w2 ⟨rfl,hb⟩;have a8:=zq hb;have J:=zq (ar.o.below hb);have c0:w2.cell? ⟨T.O.blk,0,none⟩=some (.pointer (some ⟨T.R.blk,0,none⟩)):=J.o.c0;have s0:w2.cell? ⟨T.R.blk,0,none⟩=some (.pointer (some ⟨T.D.blk,0,none⟩)):=J.o.whole.seg.cell 0 _ (by rw [<- J.o.whole.db]; rfl);have ba:=zq (aa6 w2 J.o.whole.dsk);rw [HQ.o.up] at ba;have br:=zq (DskW.room_any w2 J.o.whole.dsk);clear hb a6 k0 k1 k2 k3 k4 k5 k6 k7 k8 k9;generalize hpl:bg m=pl at *
 generalize hfo:bv T.R.e m=fo at *
 have co:¬ T.D.room < (fo.length:Int)+(pl.length:Int):=by omega
 have cp:=zq co;have M:=zq hroom;generalize hdr:T.D.room=dr at *
 have Y:=zq hdr;clear hdr hroom cp;go_wp2_with fail;refine ba.o.mono ?_;rintro e d8 ⟨rfl,rfl⟩;go_wp2_with fail;refine br.o.mono ?_;rintro e w3 ⟨rfl,hb⟩;have F:=zq (a8.o.trans (hb.mono a8.o.size));have bs:=zq (J.o.below hb);have bw:=zq (ao.o.below F.o);have bb:A < w3.heap.size:=by have:=F.o.size; omega
 have bz:Zq (RecW.Boxed w3 A (ae m a c)):=ad.o.below F.o;have b0:=zq (Half.start bs.o HQ.o bw.o (by have:=F.o.size; have:=E.o.size; omega));have cq:w3.cell? ⟨T.O.blk,0,none⟩=some (.pointer (some ⟨T.R.blk,0,none⟩)):=bs.o.c0;clear hb ba br a8 J ar ad c0 s0 ao
 have dn:fo.length<=1024:=by
  rcases bm with ⟨hz,_⟩ | ⟨hz,_⟩
  . rw [hz]; exact Nat.zero_le _
  . omega
 have bc:Zq (¬ (T.D.foot A\/T.R.foot A\/w3.heap.size<=A)):=λhk=>by
  have h1:=cg.o A;have h2:=cn.o
  rcases hk with hk | hk | hk
  . have:=h1 (.inr (.inl hk)); omega
  . have:=h1 (.inr (.inr hk)); omega
  . omega
 rcases bm with ⟨hfe,hfit⟩ | ⟨hf1,hf2,hf3⟩
 ·
  have b1:fo.isEmpty=true:=by rw [hfe]; rfl
  have Z:Zq (Calls Tryz.prog 118 #[.pointer (some ⟨T.R.blk,0,none⟩),.string (S pl)] w3 λe w'=>e=.returned (.tuple #[.int .i64 ((T.R.e:Nat):Int),.int .i64 0]) /\
   ∃ D' R',Half base w3.heap.size w' T pl D' R'/\Mod (λk=>T.D.foot k\/T.R.foot k\/w3.heap.size<=k) w3 w'/\D'.waits.length=T.D.waits.length+1) :=
   zg b0.o pl a1 (by simpa using hfit) (by rw [Y.o]; have:=M.o; omega) (by omega) (by simp; omega)
  have ak:=zq hfe;have ab:=zq hpl;have N:=zq hfo;clear hfe hpl hfo ap hwl hfit;go_wp2_with fail
  any_goals (exfalso; rename_i bd; rw [IntWalk.wrap64_in _ (by omega)] at bd; omega)
  refine Z.o.mono ?_;rintro e w4 ⟨rfl,D',R',B,I,ac⟩
  have b2:∀ (i:Nat) (v:Value),(ae m a c)[i]?=some v->w4.cell? ⟨A,i,none⟩=some v:=λi v hv=>by
   rw [I.cell (p:=⟨A,i,none⟩) bb (λhk=>bc.o hk)];exact bz.o i v hv
  obtain ⟨m0,m1,m2,m3,m4,m5,m6,m7,m8,m9⟩:=RecW.mr b2;have U:=zq (agp T.R.e m a c w4 B.own H0.o (by have:=bo.o; rw [ak.o] at this; exact this) (by omega) (Nat.le_trans B.big.2 B.big.1));rw [a7.o,ab.o] at U;have cr:=zq B;have bh:=zq I;have al:=zq ac;clear B I ac b2 Z;go_wp2_with fail;refine U.o.mono ?_;rintro e w5 ⟨rfl,idv,ho,X,hi⟩;have cs:=zq ho;have an:=zq X;have cv:=zq hi;clear ho X hi U m0 m1 m2 m3 m4 m5 m6 m7 m8 m9;go_wp2_with fail;go_ret2;refine ⟨by rw [N.o,ak.o]; rfl,?_⟩;have B:Half base w3.heap.size w4 T (bv T.R.e m++bg m) D' R':=by rw [N.o,ak.o,ab.o]; exact cr.o
  have ho:OwnAt base w5 (T.O.add idv (T.R.e+(bv T.R.e m).length) m):=by rw [N.o,ak.o]; exact cs.o
  obtain ⟨q1,q2⟩:=Half.done HH.o HR.o H0.o B ho an.o cv.o;have cy:W.heap.size<=w3.heap.size:=by have h1:=E.o.size; have h2:=F.o.size; omega
  have bj:Mod T.foot W w3:=Mod.of_below (E.o.trans (F.o.mono E.o.size));refine ⟨_,q1,⟨rfl,rfl,B.dblk,B.b,B.syn,rfl,B.quiet,by rw [tq]; exact B.room,λe=>?_,?_,B.other,B.few⟩,?_,λk hk=>(q2 k hk).imp_right λh=>by omega⟩
  . have h1:=al.o
    have h2:D'.waits=[]:=e;rw [h2] at h1; simp at h1
  . have h1:=al.o
    show D'.waits.length<=_;omega
  . refine jb (jb bj bh.o (λk hk=>hk.elim (λh=>.inl (.inr (.inl h))) λh=>h.elim (λh=>.inl (.inr (.inr h))) λh=>.inr (by omega))) an.o (λk hk=>.inl (.inl hk))
 ·
  have b1:fo.isEmpty=false:=by cases B:fo with | nil=>exact absurd B hf2 | cons _ _=>rfl
  have Z:Zq (Calls Tryz.prog 118 #[.pointer (some ⟨T.R.blk,0,none⟩),.string (S fo)] w3 λe w'=>e=.returned (.tuple #[.int .i64 ((T.R.e:Nat):Int),.int .i64 0]) /\
   ∃ D' R',Half base w3.heap.size w' T fo D' R'/\Mod (λk=>T.D.foot k\/T.R.foot k\/w3.heap.size<=k) w3 w'/\D'.waits.length=T.D.waits.length+1) :=
   zg b0.o fo hf2 (by show fo.length<=ik T.R.e; omega) (by rw [Y.o]; have:=M.o; omega) (by omega) (by simp; omega)
  have ab:=zq hpl;have N:=zq hfo;have c6:=zq hf3;have c7:=zq hwl;clear hpl hfo ap hf1 hf2 hf3 hwl;go_wp2_with fail
  any_goals (exfalso; rename_i bd; rw [IntWalk.wrap64_in _ (by omega)] at bd; omega)
  refine Z.o.mono ?_;rintro e w4 ⟨rfl,D1,R1,B,I,ac⟩
  have b6:∀ (i:Nat) (v:Value),(ae m a c)[i]?=some v->w4.cell? ⟨A,i,none⟩=some v:=λi v hv=>by
   rw [I.cell (p:=⟨A,i,none⟩) bb (λhk=>bc.o hk)];exact bz.o i v hv
  have c8:=zq b6;have da:Zq (A < w4.heap.size):=Nat.lt_of_lt_of_le bb I.size;have dc:w4.cell? ⟨T.O.blk,0,none⟩=some (.pointer (some ⟨T.R.blk,0,none⟩)):=B.own.cell 0 _ (by rw [<- HH.o.rb]; rfl);have b7:=zq (zg B pl a1 (by rw [c6.o]; omega) (by rw [B.room,Y.o]; have:=M.o; omega) (by have:=c7.o; omega) (by omega));have bh:=zq I;have al:=zq ac;clear B I ac b6 Z cq;generalize hee:T.R.e+fo.length=ee at *
  have b8:=zq hee;clear hee;go_wp2_with fail;refine b7.o.mono ?_;rintro e w5 ⟨rfl,D',R',B,X,b9⟩
  have ca:∀ (i:Nat) (v:Value),(ae m a c)[i]?=some v->w5.cell? ⟨A,i,none⟩=some v:=λi v hv=>by
   rw [X.cell (p:=⟨A,i,none⟩) da.o (λhk=>bc.o hk)];exact c8.o i v hv
  obtain ⟨m0,m1,m2,m3,m4,m5,m6,m7,m8,m9⟩:=RecW.mr ca;have U:=zq (agp ee m a c w5 B.own H0.o bo.o (by omega) (Nat.le_trans B.big.2 B.big.1));rw [a7.o,ab.o] at U;have dd:=zq B;have an:=zq X;have cb:=zq b9;clear B X b9 ca b7 dc;go_wp2_with fail;refine U.o.mono ?_;rintro e w6 ⟨rfl,idv,ho,cc,hi⟩;have de:=zq ho;have cd:=zq cc;have dj:=zq hi;clear ho cc hi U m0 m1 m2 m3 m4 m5 m6 m7 m8 m9;go_wp2_with fail;go_ret2;refine ⟨by rw [N.o,b8.o]; rfl,?_⟩;have B:Half base w3.heap.size w5 T (bv T.R.e m++bg m) D' R':=by rw [N.o,ab.o]; exact dd.o
  have ho:OwnAt base w6 (T.O.add idv (T.R.e+(bv T.R.e m).length) m):=by rw [N.o,b8.o]; exact de.o
  obtain ⟨q1,q2⟩:=Half.done HH.o HR.o H0.o B ho cd.o dj.o;have cy:W.heap.size<=w3.heap.size:=by have h1:=E.o.size; have h2:=F.o.size; omega
  have bj:Mod T.foot W w3:=Mod.of_below (E.o.trans (F.o.mono E.o.size));refine ⟨_,q1,⟨rfl,rfl,B.dblk,B.b,B.syn,rfl,B.quiet,by rw [tq]; exact B.room,λe=>?_,?_,B.other,B.few⟩,?_,λk hk=>(q2 k hk).imp_right λh=>by omega⟩
  . have h1:=cb.o
    have h2:D'.waits=[]:=e;rw [h2] at h1; simp at h1
  . have h1:=cb.o
    have h3:=al.o;show D'.waits.length<=_;omega
  . refine jb (jb (jb bj bh.o (λk hk=>hk.elim (λh=>.inl (.inr (.inl h))) λh=>h.elim (λh=>.inl (.inr (.inr h))) λh=>.inr (by omega))) an.o (λk hk=>hk.elim (λh=>.inl (.inr (.inl h))) λh=>h.elim (λh=>.inl (.inr (.inr h))) λh=>.inr (by omega))) cd.o (λk hk=>.inl (.inl hk))
theorem sync_any {base:Nat} {T:TapeD} (w:World) (h:TapeAt base w T) (hq:Quiet T.D) (hT:TabB base w) (hbase:base<=w.heap.size) (hwl:T.D.waits.length<=1048576) (hn:T.R.n<=1048576) :
 Calls Tryz.prog 58 #[.pointer (some ⟨T.O.blk,0,none⟩)] w λe w'=>e=.returned (.int .i64 0)/\∃ wv,TapeAt base w' { T with D:=T.R.syncD T.D wv,R:={ T.R with synced:=T.R.e } }/\Mod T.foot w w'/\(T.R.syncD T.D wv).waits=[]/\Quiet (T.R.syncD T.D wv)/\(∀ k,(T.R.syncD T.D wv).foot k↔T.D.foot k):=by
 have U:=zq (SegW.sync_any w hT h.whole hq hbase hwl hn);have c0:=h.c0;have Z:=zq h;have I:=zq hq;clear h hq hT;go_enter Tryz.func58,Tryz.ntmps58;go_wp2_with fail;refine U.o.mono ?_;rintro e w' ⟨rfl,wv,B,hW,X⟩;have HW:=zq hW;have Y:=zq X;have J:=zq B;clear hW X B U;go_wp2_with fail;go_ret;have h:=Z.o
 have E:∀ k,(T.R.syncD T.D wv).foot k↔T.D.foot k:=λk=>by
  unfold SegD.syncD
  split
  . exact Iff.rfl
  . exact su J.o k
 have F:=h.wait.sync h.whole.seg h.whole.dsk wv
 have M:Quiet (T.R.syncD T.D wv):=by
  unfold SegD.syncD
  split
  . exact I.o
  . exact ⟨I.o.left,I.o.up⟩
 refine ⟨rfl,wv,⟨h.own.mod Y.o (λk hk N=>?_),h.rb,h.recs,λk hk=>⟨λA=>(h.away k hk).1 ((E k).1 A),λA=>(h.away k hk).2 A⟩,HW.o,h.head,h.size,h.txt,h.fits,h.last,Waiting.none F⟩,Y.o.mono (λk _ hk=>.inr hk),F,M,E⟩;have:=h.away k hk
 rcases N with A | A
 . exact this.1 A
 . exact this.2 A
theorem abe (m:Msg):1<=(bg m).length:=by unfold bg; rw [List.cons_append,List.length_cons]; omega
theorem zh {base:Nat} {w:World} {T:TapeD} (h:TapeAt base w T) {id:Nat} {m:Msg} (hm:(id,m)∈T.O.recs):df m=true/\m.kind≠0/\T.R.b<=id/\id+(bg m).length<=T.R.e/\id % 1024+(bg m).length<=1024/\((T.R.txt.drop (id - T.R.b)).take (bg m).length)=bg m:=by
 rw [h.recs] at hm;obtain ⟨a,c,h1,E⟩:=ac7 h.fits hm;have A:=h.fits;rw [h1] at A;have B:=A.at;rw [<- E] at B;obtain ⟨l1,l2,J⟩:=B;have F:=ajv h.fits hm;have M:=xh h;refine ⟨l1.1,l1.2,F.2,by omega,l2,?_⟩;have I:=ako (a:=a) (c:=c) (x:=TapeMath.Item.one m) (bg m).length (Nat.le_refl _);rw [h.txt,h1,show id - T.R.b=(fu a).length by omega,I];show bg m++(fu c).take ((bg m).length - (bg m).length)=bg m;simp
theorem ant {base:Nat} {w:World} {T:TapeD} (h:TapeAt base w T) (hup:T.D.down=false) {id:Nat} {m:Msg} (hm:(id,m)∈T.O.recs):T.R.readT T.D (id:Int) ((bg m).length:Int)=bg m/\T.R.readE T.D (id:Int) ((bg m).length:Int)=0:=by
 obtain ⟨h1,E,F,I,J,A⟩:=zh h hm;have hp:=abe m
 have B:((bg m).length:Int)<=T.R.left (id:Int):=by
  unfold SegD.left;rw [h.size,if_neg (by omega),Int.toNat_natCast];have:id / 1024 * 1024+1024=id - id % 1024+1024:=by omega
  omega
 have hb:T.R.readB (id:Int) ((bg m).length:Int)=true:=by
  unfold SegD.readB;rw [decide_eq_true (by omega),decide_eq_true B]; rfl
 constructor
 . unfold SegD.readT
   rw [if_pos ⟨hup,hb⟩,Int.toNat_natCast,Int.toNat_natCast];exact A
 . unfold SegD.readE
   rw [if_neg (by rw [hup]; decide),if_neg (by omega),if_pos hb]
theorem ado {l:List (Nat×Msg)} (hn:(l.map (·.1)).Nodup) {id:Nat} {m:Msg} (hm:(id,m)∈l):aag l (id:Int)=((bg m).length:Int):=by
 unfold aag
 cases hf:l.find? (λp=>decide ((p.1:Int)=(id:Int))) with
 | none=>exact absurd (List.find?_eq_none.1 hf _ hm) (by simp)
 | some q =>
   obtain ⟨h1,a,b,A,B⟩:=List.find?_eq_some_iff_append.1 hf
   have E:q.1=id:=by
    have:(q.1:Int)=(id:Int):=by simpa using h1
    omega
   have:q=(id,m):=by
    subst A
    rcases List.mem_append.1 hm with hx | hx
    . have:=B _ hx; simp at this
    . rcases List.mem_cons.1 hx with hx | hx
      . exact hx.symm
      . rw [List.map_append,List.map_cons] at hn
        have:=(List.nodup_cons.1 (List.nodup_append.1 hn).2.1).1;exact absurd (List.mem_map.2 ⟨_,hx,rfl⟩) (by rw [E] at this; exact this)
   rw [this]; rfl
theorem aat {base:Nat} {w:World} {T:TapeD} (h:TapeAt base w T):(T.O.recs.map (·.1)).Nodup:=by
 rw [h.recs];exact (ku h.fits).2.imp (λh=>Nat.ne_of_lt h)
theorem aaa {base:Nat} {T:TapeD} (id:Nat) (m:Msg) (W:World) (h:TapeAt base W T) (hup:T.D.down=false) (hT:TabB base W) (hbase:base<=W.heap.size) (hm:(id,m)∈T.O.recs) :
 Calls Tryz.prog 18 #[.pointer (some ⟨T.O.blk,0,none⟩),.int .i64 (id:Int)] W λe w'=>∃ a c,e=.returned (.tuple #[.agg (ae m a c),.int .i64 0])/\Strs w' a (m.keys.map S)/\Below W.heap.size W w'/\∀ M,a=some M->W.heap.size<=M.block:=by
 obtain ⟨r1,r2⟩:=ant h hup hm;obtain ⟨g1,g2,g3,g4,g5,g6⟩:=zh h hm;obtain ⟨bk,bl⟩:=qo g1 g2;have hp:=abe m;have al:=ado (aat h) hm;have b2:=h.whole.seg.e_le;obtain ⟨w1,Z⟩:∃ w1:World,w1=W.alloc (.cells #[.int .i64 0,.int .i64 0,.int .i64 0,.int .i64 0,.int .i64 0,.int .i64 0,.string ⟨#[]⟩,.string ⟨#[]⟩,.string ⟨#[]⟩,.slice none 0 0] 69):=⟨_,rfl⟩;have ab:Below W.heap.size W w1:=by rw [Z]; exact (Below.refl _ _).alloc (Nat.le_refl _) _
 have A:=zq (h.below ab);have bm:=zq (hT.below ab);have X:Zq (w1.heap[W.heap.size]?=some (.cells (ae mf none 0) 69 (0,0))):=by rw [Z]; exact heap_alloc_new W _
 have am:Zq (Below W.heap.size W w1):=ab;have ao:=zq (SegW.begin_any w1 A.o.whole.seg);have c0:w1.cell? ⟨T.O.blk,0,none⟩=some (.pointer (some ⟨T.R.blk,0,none⟩)):=A.o.c0;have c3:w1.cell? ⟨T.O.blk,3,none⟩=some (.map (some T.O.mB)):=A.o.own.cell 3 _ rfl;have bo:=afp A.o.own (id:Int);rw [al] at bo;have ap:Zq (∀ w,Below w1.heap.size w1 w->w.cell? ⟨T.O.blk,0,none⟩=some (.pointer (some ⟨T.R.blk,0,none⟩))):=λw hb=>(A.o.below hb).c0
 have bp:Zq (∀ w,Below w1.heap.size w1 w->w.cell? ⟨T.O.blk,1,none⟩=some (.pointer (some ⟨T.O.sums,0,none⟩))):=λw hb=>(A.o.below hb).own.cell 1 _ rfl
 have ar:Zq (∀ w,Below w1.heap.size w1 w->w.cell? ⟨T.O.blk,3,none⟩=some (.map (some T.O.mB))):=λw hb=>(A.o.below hb).own.cell 3 _ rfl
 have av:Zq (∀ w,Below w1.heap.size w1 w->(Instr.lookup 97 (.map (some T.O.mB)) (.int .i64 (id:Int)) false).run Tryz.prog w=.ok (.int .i64 ((bg m).length:Int)) w):=λw hb=>by
  have:=afp (A.o.below hb).own (id:Int);rw [al] at this; exact this
 have a1:Zq (∀ w,Below w1.heap.size w1 w->Calls Tryz.prog 38 #[.pointer (some ⟨T.R.blk,0,none⟩),.int .i64 (id:Int),.int .i64 ((bg m).length:Int)] w λe w'=>e=.returned (.tuple #[.string (S (bg m)),.int .i64 0])/\Below w.heap.size w w'):=λw hb=>by
  have:=SegW.read_any (id:Int) ((bg m).length:Int) (by omega) (by omega) w (bm.o.below hb).tab (A.o.below hb).whole.seg (A.o.below hb).whole.dsk h.whole.db h.whole.ok;rw [r1,r2] at this; exact this
 have a6:Zq (∀ w,Below w1.heap.size w1 w->Calls Tryz.prog 39 #[.pointer (some ⟨T.O.sums,0,none⟩),.string (S (bg m))] w λe w'=>∃ a c,e=.returned (.tuple #[.agg #[.int .i64 m.kind,.int .i64 m.queue,.int .i64 m.due,.int .i64 m.retry,.int .i64 m.ref,.int .i64 m.born,.string (S m.topic),.string (S m.tag),.string (S m.body),.slice a m.keys.length c],.int .i64 ((bg m).length:Int),.int .i64 0])/\Strs w' a (m.keys.map S)/\Below w.heap.size w w'/\∀ M,a=some M->w.heap.size<=M.block):=λw hb=>by
  have:=aps T.O.sums m g1 g2 [] (by simp) w (A.o.below hb).own.low.1 (A.o.below hb).own.tabs;rw [List.append_nil] at this; exact this
 have b3:¬ (id:Int) < (T.R.b:Int):=by omega
 have b4:¬ ((bg m).length:Int)=0:=by omega
 clear h hT hm r1 r2 g1 g2 g4 g5 g6 bk al ab bl hup;generalize hpl:bg m=pl at *
 clear hpl;go_enter Tryz.func18,Tryz.ntmps18;go_upto_region 1 with fail
 rw [<- Z];obtain ⟨Bt,an⟩:∃ B,W.heap.size=B:=⟨_,rfl⟩;rw [an] at X ⊢;have br:=zq an;clear Z an;go_wp2_with fail;refine ao.o.mono ?_;rintro e w1 ⟨rfl,rfl⟩;clear ao;go_wp2_with fail;refine GrowN.au 17 [none,none,none,none,none,none,none,none,none,none,none,some (.inl (.tuple #[.string (S pl),.int .i64 0])),none,none,none,none,none] (RecW.ExtR) (by kernel_rfl) (by kernel_rfl) (by kernel_rfl) (RecW.ExtR.refl) (λ_ _ _=>RecW.ExtR.trans) ?_ ?_
 . exact GrowN.jo rfl
 simp only [List.take_succ_cons,List.take_zero,List.drop_succ_cons,List.drop_zero]
 iterate 3
  refine GrowN.g_det rfl ?_;apply Exists.intro;refine ⟨λw Y J=>?_,?_⟩
  . clear J
    go_simp;exact ⟨rfl,RecW.ExtR.refl _⟩
  go_frame
 refine GrowN.g_det rfl ?_;apply Exists.intro;refine ⟨λw Y J=>?_,?_⟩
 ·
  clear J;have hb:=(Below.refl w1.heap.size w1).drew.trans Y;have c0:=ap.o w hb;go_simp;exact ⟨rfl,RecW.ExtR.refl _⟩
 iterate 4
  go_frame;refine GrowN.g_det rfl ?_;apply Exists.intro;refine ⟨λw Y J=>?_,?_⟩
  . clear J
    go_simp;exact ⟨rfl,RecW.ExtR.refl _⟩
 go_frame;refine GrowN.g_det rfl ?_;apply Exists.intro;refine ⟨λw Y J=>?_,?_⟩
 ·
  clear J;have hb:=(Below.refl w1.heap.size w1).drew.trans Y;have c3:=ar.o w hb;go_simp;exact ⟨rfl,RecW.ExtR.refl _⟩
 go_frame;refine GrowN.g_det rfl ?_;apply Exists.intro;refine ⟨λw Y J=>?_,?_⟩
 . clear J
   go_simp;exact ⟨rfl,RecW.ExtR.refl _⟩
 go_frame;refine GrowN.g_det rfl ?_;apply Exists.intro;refine ⟨λw Y J=>?_,?_⟩
 ·
  clear J;have hb:=(Below.refl w1.heap.size w1).drew.trans Y;have hl:=av.o w hb;go_simp;exact ⟨rfl,RecW.ExtR.refl _⟩
 go_frame;refine GrowN.g_con rfl (λw Y J=>?_) ?_
 ·
  clear J;have hb:=(Below.refl w1.heap.size w1).drew.trans Y;go_simp;exact (a1.o w hb).mono λe w3 h=>⟨_,h.1,rfl,h.2⟩
 iterate 5
  go_frame;refine GrowN.g_det rfl ?_;apply Exists.intro;refine ⟨λw Y J=>?_,?_⟩
  . clear J
    go_simp;exact ⟨rfl,RecW.ExtR.refl _⟩
 go_frame;refine GrowN.g_nil λw2 a7 J=>?_
 clear J;have N:=zq ((Below.refl w1.heap.size w1).drew.trans a7);clear a7 ap ar av a1;have c1:=bp.o w2 N.o;go_wp2_with fail;refine (a6.o w2 N.o).mono ?_;rintro e U ⟨a,c,rfl,a8,hb,ba⟩;have ac:=zq (N.o.trans (hb.mono N.o.size));have bb:=zq a8;have bc:Zq (∀ M,a=some M->w1.heap.size<=M.block):=λM e=>Nat.le_trans N.o.size (ba M e)
 clear hb a8 ba a6 c1 N c0 c3;go_upto_region 11 with fail
 have ak:Zq (Below U.heap.size U (U.alloc (.cells #[.int .i64 m.kind,.int .i64 m.queue,.int .i64 m.due,.int .i64 m.retry,.int .i64 m.ref,.int .i64 m.born,.string (S m.topic),.string (S m.tag),.string (S m.body),.slice a m.keys.length c] 69))):=(Below.refl U.heap.size U).alloc (Nat.le_refl _) _
 have E:Zq ((U.alloc (.cells #[.int .i64 m.kind,.int .i64 m.queue,.int .i64 m.due,.int .i64 m.retry,.int .i64 m.ref,.int .i64 m.born,.string (S m.topic),.string (S m.tag),.string (S m.body),.slice a m.keys.length c] 69)).heap[Bt]?=some (.cells (ae mf none 0) 69 (0,0))):=by
  show _=_;have h1:=ac.o.block Bt (Array.getElem?_eq_some_iff.1 X.o).1;rw [ak.o.block Bt (by have:=(Array.getElem?_eq_some_iff.1 X.o).1; have:=ac.o.size; omega),h1]; exact X.o
 have F:Zq ((U.alloc (.cells #[.int .i64 m.kind,.int .i64 m.queue,.int .i64 m.due,.int .i64 m.retry,.int .i64 m.ref,.int .i64 m.born,.string (S m.topic),.string (S m.tag),.string (S m.body),.slice a m.keys.length c] 69)).heap[U.heap.size]?=some (.cells #[.int .i64 m.kind,.int .i64 m.queue,.int .i64 m.due,.int .i64 m.retry,.int .i64 m.ref,.int .i64 m.born,.string (S m.topic),.string (S m.tag),.string (S m.body),.slice a m.keys.length c] 69 (0,0))):=heap_alloc_new U _;have bs:=zq (Strs.below bb.o ak.o);have bd:Zq (Below W.heap.size W (U.alloc (.cells #[.int .i64 m.kind,.int .i64 m.queue,.int .i64 m.due,.int .i64 m.retry,.int .i64 m.ref,.int .i64 m.born,.string (S m.topic),.string (S m.tag),.string (S m.body),.slice a m.keys.length c] 69))):=am.o.trans ((ac.o.trans (ak.o.mono ac.o.size)).mono am.o.size);generalize hw8:U.alloc (.cells #[.int .i64 m.kind,.int .i64 m.queue,.int .i64 m.due,.int .i64 m.retry,.int .i64 m.ref,.int .i64 m.born,.string (S m.topic),.string (S m.tag),.string (S m.body),.slice a m.keys.length c] 69)=w8 at *
 obtain ⟨Bn,bh⟩:∃ B,U.heap.size=B:=⟨_,rfl⟩;rw [bh] at F ⊢;clear bh hw8 bb ak;have k0:w8.cell? ⟨Bt,0,none⟩=some (.int .i64 0):=by rw [Lib.cell_of_heap E.o]; rfl
 have k1:w8.cell? ⟨Bt,1,none⟩=some (.int .i64 0):=by rw [Lib.cell_of_heap E.o]; rfl
 have k2:w8.cell? ⟨Bt,2,none⟩=some (.int .i64 0):=by rw [Lib.cell_of_heap E.o]; rfl
 have k3:w8.cell? ⟨Bt,3,none⟩=some (.int .i64 0):=by rw [Lib.cell_of_heap E.o]; rfl
 have k4:w8.cell? ⟨Bt,4,none⟩=some (.int .i64 0):=by rw [Lib.cell_of_heap E.o]; rfl
 have k5:w8.cell? ⟨Bt,5,none⟩=some (.int .i64 0):=by rw [Lib.cell_of_heap E.o]; rfl
 have k6:w8.cell? ⟨Bt,6,none⟩=some (.string ⟨#[]⟩):=by rw [Lib.cell_of_heap E.o]; rfl
 have k7:w8.cell? ⟨Bt,7,none⟩=some (.string ⟨#[]⟩):=by rw [Lib.cell_of_heap E.o]; rfl
 have k8:w8.cell? ⟨Bt,8,none⟩=some (.string ⟨#[]⟩):=by rw [Lib.cell_of_heap E.o]; rfl
 have k9:w8.cell? ⟨Bt,9,none⟩=some (.slice none 0 0):=by rw [Lib.cell_of_heap E.o]; rfl
 have n0:w8.cell? ⟨Bn,0,none⟩=some (.int .i64 m.kind):=by rw [Lib.cell_of_heap F.o]; rfl
 have n1:w8.cell? ⟨Bn,1,none⟩=some (.int .i64 m.queue):=by rw [Lib.cell_of_heap F.o]; rfl
 have n2:w8.cell? ⟨Bn,2,none⟩=some (.int .i64 m.due):=by rw [Lib.cell_of_heap F.o]; rfl
 have n3:w8.cell? ⟨Bn,3,none⟩=some (.int .i64 m.retry):=by rw [Lib.cell_of_heap F.o]; rfl
 have n4:w8.cell? ⟨Bn,4,none⟩=some (.int .i64 m.ref):=by rw [Lib.cell_of_heap F.o]; rfl
 have n5:w8.cell? ⟨Bn,5,none⟩=some (.int .i64 m.born):=by rw [Lib.cell_of_heap F.o]; rfl
 have n6:w8.cell? ⟨Bn,6,none⟩=some (.string (S m.topic)):=by rw [Lib.cell_of_heap F.o]; rfl
 have n7:w8.cell? ⟨Bn,7,none⟩=some (.string (S m.tag)):=by rw [Lib.cell_of_heap F.o]; rfl
 have n8:w8.cell? ⟨Bn,8,none⟩=some (.string (S m.body)):=by rw [Lib.cell_of_heap F.o]; rfl
 have n9:w8.cell? ⟨Bn,9,none⟩=some (.slice a m.keys.length c):=by rw [Lib.cell_of_heap F.o]; rfl
 have bw:∀ j,w8.frozen? ⟨Bt,j,none⟩=false:=λj=>Lib.frozen_of_heap E.o j
 have HH:=zq (mi (z:=ae mf none 0) rfl E.o (.int .i64 m.kind) (.int .i64 m.queue) (.int .i64 m.due) (.int .i64 m.retry) (.int .i64 m.ref) (.int .i64 m.born) (.string (S m.topic)) (.string (S m.tag)) (.string (S m.body)) (.slice a m.keys.length c));have bj:=zq (oz w8 Bt (.int .i64 m.kind) (.int .i64 m.queue) (.int .i64 m.due) (.int .i64 m.retry) (.int .i64 m.ref) (.int .i64 m.born) (.string (S m.topic)) (.string (S m.tag)) (.string (S m.body)) (.slice a m.keys.length c));go_wp2_with fail;clear k0 k1 k2 k3 k4 k5 k6 k7 k8 k9 bw n0 n1 n2 n3 n4 n5 n6 n7 n8 n9;change bodyPost _ _ _ _ _ (yh w8 Bt (.int .i64 m.kind) (.int .i64 m.queue) (.int .i64 m.due) (.int .i64 m.retry) (.int .i64 m.ref) (.int .i64 m.born) (.string (S m.topic)) (.string (S m.tag)) (.string (S m.body)) (.slice a m.keys.length c));generalize yh w8 Bt (.int .i64 m.kind) (.int .i64 m.queue) (.int .i64 m.due) (.int .i64 m.retry) (.int .i64 m.ref) (.int .i64 m.born) (.string (S m.topic)) (.string (S m.tag)) (.string (S m.body)) (.slice a m.keys.length c)=w9 at *
 have I:=HH.o;have c0:w9.cell? ⟨Bt,0,none⟩=some (.int .i64 m.kind):=by rw [Lib.cell_of_heap I]; rfl
 have c1:w9.cell? ⟨Bt,1,none⟩=some (.int .i64 m.queue):=by rw [Lib.cell_of_heap I]; rfl
 have c2:w9.cell? ⟨Bt,2,none⟩=some (.int .i64 m.due):=by rw [Lib.cell_of_heap I]; rfl
 have c3:w9.cell? ⟨Bt,3,none⟩=some (.int .i64 m.retry):=by rw [Lib.cell_of_heap I]; rfl
 have c4:w9.cell? ⟨Bt,4,none⟩=some (.int .i64 m.ref):=by rw [Lib.cell_of_heap I]; rfl
 have c5:w9.cell? ⟨Bt,5,none⟩=some (.int .i64 m.born):=by rw [Lib.cell_of_heap I]; rfl
 have c6:w9.cell? ⟨Bt,6,none⟩=some (.string (S m.topic)):=by rw [Lib.cell_of_heap I]; rfl
 have c7:w9.cell? ⟨Bt,7,none⟩=some (.string (S m.tag)):=by rw [Lib.cell_of_heap I]; rfl
 have c8:w9.cell? ⟨Bt,8,none⟩=some (.string (S m.body)):=by rw [Lib.cell_of_heap I]; rfl
 have c9:w9.cell? ⟨Bt,9,none⟩=some (.slice a m.keys.length c):=by rw [Lib.cell_of_heap I]; rfl
 have bz:Below W.heap.size W w9:=bd.o.trans (bj.o.to_below _ bd.o.size (λk e=>by rw [e,<- br.o]; exact Nat.le_refl _));refine bodyPost_ret (v:=.tuple #[.agg #[.int .i64 m.kind,.int .i64 m.queue,.int .i64 m.due,.int .i64 m.retry,.int .i64 m.ref,.int .i64 m.born,.string (S m.topic),.string (S m.tag),.string (S m.body),.slice a m.keys.length c],.int .i64 0]) ?_ rfl ⟨a,c,rfl,?_,bz,λM e=>by have h1:=bc.o M e; have h2:=am.o.size; omega⟩
 . clear I
   simp [results,Tryz.results18,go_sem,c0,c1,c2,c3,c4,c5,c6,c7,c8,c9]
 . exact zz bs.o bj.o (λM e _=>by have h1:=bc.o M e; have h2:=(Array.getElem?_eq_some_iff.1 X.o).1; omega)
def idI (l:List (Nat×Msg)):List Int:=l.map λp=>(p.1:Int)
def placeL (l:List (Nat×Msg)) (p:Int):Nat:=(idI l).countP (· < p)
theorem ali (l:List (Nat×Msg)) (p:Int):placeL l p<=l.length:=by
 unfold placeL;have:=List.countP_le_length (p:=λx:Int=>decide (x < p)) (l:=idI l);unfold idI at this ⊢;rw [List.length_map] at this; exact this
theorem ae2 {base:Nat} {T:OwnD} (p:Int) (w:World) (h:OwnAt base w T) (hs:(T.recs.map (·.1)).Pairwise (· < ·)) (hl:T.recs.length<=1073741824) :
 Calls Tryz.prog 60 #[.pointer (some ⟨T.blk,0,none⟩),.int .i64 p] w λe w'=>e=.returned (.int .i64 ((placeL T.recs p:Nat):Int))/\Drawn w w':=by
 have F:Zq (∃ U:Bool,Calls Tryz.prog 122 #[T.idv,.int .i64 p] w λe w'=>e=.returned (.tuple #[.int .i64 ((placeL T.recs p:Nat):Int),.bool U])/\Drawn w w'):=by
  show ∃ U,_
  by_cases h0:T.recs=[]
  . obtain ⟨a,c,R⟩:=kg h.ids
    have hz:placeL T.recs p=0:=by rw [h0]; rfl
    rw [R,hz,h0];exact ⟨false,(Tryz.slices_BinarySearch_int_empty a c p w).mono λe w' h=>⟨h.1,h.2 ▸ Drawn.refl _⟩⟩
  ·
   have I:0 < T.recs.length:=List.length_pos_iff.2 h0
   have J:∀ i (X:i < T.recs.length),∃ g cap,T.idv=.slice (some ⟨g,0,none⟩) T.recs.length cap/\T.recs.length<=cap/\w.cell? ⟨g,i,none⟩=some (.int .i64 ((T.recs[i].1:Nat):Int)):=λi X =>
    SegW.aba h.ids i X _ (by unfold uu; rw [List.getElem?_map,List.getElem?_eq_getElem X]; rfl)
   obtain ⟨g,cap,R,hc,_⟩:=J 0 I
   have A:∀ j,j < (idI T.recs).length->w.cell? ⟨g,0+j,none⟩=some (.int .i64 ((idI T.recs).getD j 0)):=λj Y=>by
    have M:j < T.recs.length:=by unfold idI at Y; rw [List.length_map] at Y; exact Y
    obtain ⟨g',ab,N,_,Z⟩:=J j M;rw [R] at N;injection N with e1
    injection e1 with e1
    injection e1 with e1
    rw [Nat.zero_add,e1,Z];unfold idI;simp [List.getD,M]
   have E:((idI T.recs).take T.recs.length).Pairwise (·<=·):=by
    rw [List.take_of_length_le (by unfold idI; rw [List.length_map]; exact Nat.le_refl _)];unfold idI;rw [List.pairwise_map] at hs ⊢;exact hs.imp λh=>by omega
   have B:(idI T.recs).length=T.recs.length:=by unfold idI; exact List.length_map _
   have:=Tryz.slices_BinarySearch_int g 0 T.recs.length cap (idI T.recs) p w (by rw [B]; exact Nat.le_refl _) (by omega) A E;rw [List.take_of_length_le (by rw [B]; exact Nat.le_refl _)] at this;rw [R];exact ⟨_,this.mono λe w' h=>⟨h.1,h.2⟩⟩
 obtain ⟨U,O⟩:=F.o;have HB:=zq O;have c2:w.cell? ⟨T.blk,2,none⟩=some T.idv:=h.cell 2 _ rfl;clear h hs hl O F;generalize placeL T.recs p=pl at *
 generalize T.idv=iv at *
 go_enter Tryz.func60,Tryz.ntmps60;go_wp2_with fail;refine HB.o.mono ?_;rintro e w' ⟨rfl,hd⟩;have HD:=zq hd;clear hd HB;go_wp2_with fail;go_ret;exact ⟨rfl,HD.o⟩
def jr (l:List (Nat×Msg)) (p:Int):Int×Bool:=match (l.drop (placeL l p)).head? with | some q=>((q.1:Int),true) | none=>(0,false)
theorem next_any {base:Nat} {T:OwnD} (p:Int) (w:World) (h:OwnAt base w T) (hs:(T.recs.map (·.1)).Pairwise (· < ·)) (hl:T.recs.length<=1073741824) :
 Calls Tryz.prog 30 #[.pointer (some ⟨T.blk,0,none⟩),.int .i64 p] w λe w'=>e=.returned (.tuple #[.int .i64 (jr T.recs p).1,.bool (jr T.recs p).2])/\Drawn w w':=by
 have I:=zq (ae2 p w h hs hl);have J:=ali T.recs p;have B:Zq (jr T.recs p=match (T.recs.drop (placeL T.recs p)).head? with | some q=>((q.1:Int),true) | none=>(0,false)):=rfl;have O:=zq h;clear h hs;generalize placeL T.recs p=pl at *
 go_enter Tryz.func30,Tryz.ntmps30;go_wp2_with fail;refine I.o.mono ?_;rintro e w1 ⟨rfl,hd⟩;have N:=zq hd;have h1:OwnAt base w1 T:=O.o.mod (M:=λ_=>False) (Mod.of_below (hd.below _)) (λ_ _ h=>h);clear hd I
 by_cases hlt:pl < T.recs.length
 ·
  obtain ⟨g,cap,A,hc,E⟩:=SegW.aba h1.ids pl hlt (.int .i64 ((T.recs[pl].1:Nat):Int)) (by unfold uu; rw [List.getElem?_map,List.getElem?_eq_getElem hlt]; rfl);have c2:w1.cell? ⟨T.blk,2,none⟩=some (.slice (some ⟨g,0,none⟩) T.recs.length cap):=by rw [<- A]; exact h1.cell 2 _ rfl
  have F:Zq (jr T.recs p=((T.recs[pl].1:Int),true)):=by
   show _=_;rw [B.o,List.head?_drop,List.getElem?_eq_getElem hlt]
  clear h1 A B;generalize T.recs[pl].1=x at *
  generalize T.recs.length=n at *
  go_wp2_with fail;go_ret2;exact ⟨by rw [F.o]; rfl,N.o⟩
 ·
  obtain ⟨a,c,A⟩:=kg h1.ids;have c2:w1.cell? ⟨T.blk,2,none⟩=some (.slice a T.recs.length c):=by rw [<- A]; exact h1.cell 2 _ rfl
  have F:Zq (jr T.recs p=(0,false)):=by
   show _=_;rw [B.o,List.head?_drop,List.getElem?_eq_none (by omega)]
  clear h1 A B;generalize T.recs.length=n at *
  go_wp2_with fail;go_ret2;exact ⟨by rw [F.o]; rfl,N.o⟩
theorem agq {w:World} {base b n sz:Nat} {e:TypeId} {v:Value} {xs:List Value} (h:w.ownsRow b e sz v n xs) (hb:base<=b):w.ownsRow base e sz v n xs :=
 ⟨h.1,h.2.elim .inl λ⟨g,cap,cur,A,B,r⟩=>.inr ⟨g,cap,cur,A,Nat.le_trans hb B,r⟩⟩
theorem aj6 {base:Nat} {T:OwnD} (p:Int) (w1:World) (h:OwnAt base w1 T) (hs:(T.recs.map (·.1)).Pairwise (· < ·)) (hl:T.recs.length<=1073741824) (hp:placeL T.recs p=0) :
 Calls Tryz.prog 36 #[.pointer (some ⟨T.blk,0,none⟩),.int .i64 p] w1 λe w'=>∃ v,e=.returned v/\w'.ownsRow w1.heap.size 3 1 v T.recs.length (uu T.recs)/\Below w1.heap.size w1 w':=by
 have Z:Zq (∀ w,Below w1.heap.size w1 w->Calls Tryz.prog 60 #[.pointer (some ⟨T.blk,0,none⟩),.int .i64 p] w λe w'=>e=.returned (.int .i64 0)/\Drawn w w'):=λw hb=>by
  have:=ae2 p w (h.below hb) hs hl;rw [hp] at this; exact this
 rcases h.ids.2 with ⟨hv,hz⟩ | ⟨g,cap,cur,hv,hbg,hg,hn,hmx,hsz,ht⟩
 ·
  have h0:T.recs=[]:=List.length_eq_zero_iff.1 hz;have N:Zq (∀ w,Below w1.heap.size w1 w->w.cell? ⟨T.blk,2,none⟩=some (.slice none 0 0)):=λw hb=>by rw [<- hv]; exact (h.below hb).cell 2 _ rfl
  have O:Zq (∀ w,Below w1.heap.size w1 w->Calls Tryz.prog 71 #[.slice none 0 0] w λe w'=>∃ v,e=.returned v/\w'.ownsRow w.heap.size 3 1 v T.recs.length (uu T.recs)/\Below w.heap.size w w'):=λw hb=>by
   refine (Tryz.slices_Clone_int_nil 0 0 w).mono λe w' h=>⟨_,h.1,?_,h.2 ▸ Below.refl _ _⟩
   rw [h0]; exact ⟨rfl,.inl ⟨rfl,rfl⟩⟩
  clear h hs hl hp hv hz h0;go_enter Tryz.func36,Tryz.ntmps36;go_wp2_with fail;refine GrowN.au 10 [none,none,none,none,none,none,some (.inl (.int .i64 0)),some (.inl (.slice none 0 0)),some (.inr (λ_ v w=>w.ownsRow w1.heap.size 3 1 v T.recs.length (uu T.recs))),none] (RecW.ExtR) (by kernel_rfl) (by kernel_rfl) (by kernel_rfl) (RecW.ExtR.refl) (λ_ _ _=>RecW.ExtR.trans) ?_ ?_
  ·
   intro K hK Y hY l v w w' hR h;simp only [List.mem_cons,List.not_mem_nil,or_false] at hK
   rcases hK with rfl | rfl | rfl | rfl | rfl | rfl | rfl | rfl | rfl | rfl <;> simp only [reduceCtorEq,Option.some.injEq,Sum.inr.injEq] at hY
   subst hY;exact SegW.ownsRow_mod (M:=λ_=>False) h (Mod.of_below hR) (λ_ _ h=>h)
  simp only [List.take_succ_cons,List.take_zero,List.drop_succ_cons,List.drop_zero]
  iterate 3
   refine GrowN.g_det rfl ?_;apply Exists.intro;refine ⟨λw B A=>?_,?_⟩
   . clear A
     go_simp;exact ⟨rfl,RecW.ExtR.refl _⟩
   go_frame
  refine GrowN.g_det rfl ?_;apply Exists.intro;refine ⟨λw B A=>?_,?_⟩
  ·
   clear A;have hb:=(Below.refl w1.heap.size w1).drew.trans B;have c2:=N.o w hb;go_simp;exact ⟨rfl,RecW.ExtR.refl _⟩
  iterate 2
   go_frame;refine GrowN.g_det rfl ?_;apply Exists.intro;refine ⟨λw B A=>?_,?_⟩
   . clear A
     go_simp;exact ⟨rfl,RecW.ExtR.refl _⟩
  go_frame;refine GrowN.g_con rfl (λw B A=>?_) ?_
  . clear A
    have hb:=(Below.refl w1.heap.size w1).drew.trans B;go_simp;exact (Z.o w hb).mono λe w3 h=>⟨_,h.1,rfl,h.2.below _⟩
  go_frame;refine GrowN.g_con rfl (λw B A=>?_) ?_
  . clear A
    go_simp
    all_goals first | exact RecW.ExtR.refl _ | omega
  go_frame;refine GrowN.g_new rfl (λw B A=>?_) (λv=>?_)
  . clear A
    have hb:=(Below.refl w1.heap.size w1).drew.trans B;go_simp;exact (O.o w hb).mono λe w3 ⟨v,h1,R,h3⟩=>⟨_,h1,agq R hb.size,h3⟩
  go_frame;refine GrowN.g_det rfl ?_;apply Exists.intro;refine ⟨λw B A=>?_,?_⟩
  . clear A
    go_simp;exact ⟨rfl,RecW.ExtR.refl _⟩
  go_frame;refine GrowN.g_nil λw2 I A=>?_
  have E:=A _ (List.mem_singleton.2 rfl);have HO:=zq E;have U:=zq ((Below.refl w1.heap.size w1).drew.trans I);clear I A E;go_wp2_with fail;go_ret;exact ⟨_,rfl,HO.o,U.o⟩
 ·
  have F:(idI T.recs).length=T.recs.length:=by unfold idI; exact List.length_map _
  have N:Zq (∀ w,Below w1.heap.size w1 w->w.cell? ⟨T.blk,2,none⟩=some (.slice (some ⟨g,0,none⟩) T.recs.length cap)):=λw hb=>by rw [<- hv]; exact (h.below hb).cell 2 _ rfl
  have O:Zq (∀ w,Below w1.heap.size w1 w->Calls Tryz.prog 71 #[.slice (some ⟨g,0,none⟩) T.recs.length cap] w λe w'=>∃ v,e=.returned v/\w'.ownsRow w.heap.size 3 1 v T.recs.length (uu T.recs)/\Below w.heap.size w w'):=λw hb=>by
   have J:∀ j,j < (idI T.recs).length->w.cell? ⟨g,0+j,none⟩=some (.int .i64 ((idI T.recs).getD j 0)):=λj hj=>by
    have X:j < T.recs.length:=by rw [F] at hj; exact hj
    obtain ⟨g',ap,ad,_,an⟩:=SegW.aba (h.below hb).ids j X (.int .i64 ((T.recs[j].1:Nat):Int)) (by unfold uu; rw [List.getElem?_map,List.getElem?_eq_getElem X]; rfl);rw [hv] at ad;injection ad with e1
    injection e1 with e1
    injection e1 with e1
    rw [Nat.zero_add,e1,an];unfold idI;simp [List.getD,X]
   have:=Tryz.slices_Clone_int g 0 T.recs.length cap (idI T.recs) w (by rw [F]; exact Nat.le_refl _) (by omega) J;refine this.mono λe w' ⟨v,h1,R,_,h4⟩=>⟨v,h1,?_,h4⟩
   rw [List.take_of_length_le (by rw [F]; exact Nat.le_refl _)] at R;have e:(idI T.recs).map (Value.int .i64)=uu T.recs:=by unfold idI uu; rw [List.map_map]; rfl
   rw [e] at R; exact R
  have ar:=hmx;clear h hs hp hv hbg hg hsz ht F;generalize hnn:T.recs.length=n at *
  go_enter Tryz.func36,Tryz.ntmps36;go_wp2_with fail;refine GrowN.au 10 [none,none,none,none,none,none,some (.inl (.int .i64 0)),some (.inl (.slice (some ⟨g,0,none⟩) n cap)),some (.inr (λ_ v w=>w.ownsRow w1.heap.size 3 1 v n (uu T.recs))),none] (RecW.ExtR) (by kernel_rfl) (by kernel_rfl) (by kernel_rfl) (RecW.ExtR.refl) (λ_ _ _=>RecW.ExtR.trans) ?_ ?_
  ·
   intro K hK Y hY l v w w' hR h;simp only [List.mem_cons,List.not_mem_nil,or_false] at hK
   rcases hK with rfl | rfl | rfl | rfl | rfl | rfl | rfl | rfl | rfl | rfl <;> simp only [reduceCtorEq,Option.some.injEq,Sum.inr.injEq] at hY
   subst hY;exact SegW.ownsRow_mod (M:=λ_=>False) h (Mod.of_below hR) (λ_ _ h=>h)
  simp only [List.take_succ_cons,List.take_zero,List.drop_succ_cons,List.drop_zero]
  iterate 3
   refine GrowN.g_det rfl ?_;apply Exists.intro;refine ⟨λw B A=>?_,?_⟩
   . clear A
     go_simp;exact ⟨rfl,RecW.ExtR.refl _⟩
   go_frame
  refine GrowN.g_det rfl ?_;apply Exists.intro;refine ⟨λw B A=>?_,?_⟩
  ·
   clear A;have hb:=(Below.refl w1.heap.size w1).drew.trans B;have c2:=N.o w hb;go_simp;exact ⟨rfl,RecW.ExtR.refl _⟩
  iterate 2
   go_frame;refine GrowN.g_det rfl ?_;apply Exists.intro;refine ⟨λw B A=>?_,?_⟩
   . clear A
     go_simp;exact ⟨rfl,RecW.ExtR.refl _⟩
  go_frame;refine GrowN.g_con rfl (λw B A=>?_) ?_
  . clear A
    have hb:=(Below.refl w1.heap.size w1).drew.trans B;go_simp;exact (Z.o w hb).mono λe w3 h=>⟨_,h.1,rfl,h.2.below _⟩
  go_frame;refine GrowN.g_con rfl (λw B A=>?_) ?_
  . clear A
    go_simp
    all_goals first | exact RecW.ExtR.refl _ | omega
  go_frame;refine GrowN.g_new rfl (λw B A=>?_) (λv=>?_)
  . clear A
    have hb:=(Below.refl w1.heap.size w1).drew.trans B;go_simp;exact (O.o w hb).mono λe w3 ⟨v,h1,R,h3⟩=>⟨_,h1,agq R hb.size,h3⟩
  go_frame;refine GrowN.g_det rfl ?_;apply Exists.intro;refine ⟨λw B A=>?_,?_⟩
  . clear A
    go_simp;exact ⟨rfl,RecW.ExtR.refl _⟩
  go_frame;refine GrowN.g_nil λw2 I A=>?_
  have E:=A _ (List.mem_singleton.2 rfl);have HO:=zq E;have U:=zq ((Below.refl w1.heap.size w1).drew.trans I);clear I A E;go_wp2_with fail;go_ret;exact ⟨_,rfl,HO.o,U.o⟩
end TapeW
namespace RecW
open Go.RowKit OctMath RecMath NameMath
open OctW (Rd One Texts fw bn j5 rq)
end RecW
namespace TapeW
open Go.RowKit Go.MapKept OctMath RecMath RecW TapeMath DskW SegW MapG
structure arq (base:Nat) (w0 w:World) (O0:OwnD) (D:DiskD) (R:SegD) (its:List TapeMath.Item) (k:Nat):Prop where
 ex:∃ O:OwnD,OwnAt base w O/\O.blk=O0.blk/\O.rb=O0.rb/\O.sums=O0.sums/\O.mB=O0.mB/\O.recs=gy R.b (its.take k)/\(∀ p,O.recs.getLast?=some p->O.last=p.2.born)/\∀ j,O.foot j->O0.foot j\/w0.heap.size<=j
 whole:Whole base w D R
 mod:Mod O0.foot w0 w
structure anu (base:Nat) (w w':World) (D:DiskD) (its:List TapeMath.Item) (b:Nat) (T:TapeD):Prop where
 tape:TapeAt base w' T
 its:T.its=its
 b:T.R.b=b
 syn:T.R.synced=T.R.e
 waits:T.D.waits=[]
 quiet:Quiet T.D
 dblk:T.D.blk=D.blk
 dfoot:∀ k,T.D.foot k↔D.foot k
 find:∀ n,(T.D.find n).isSome=(D.find n).isSome
 room:T.D.room=D.room
 fresh:∀ k,T.O.foot k\/T.R.foot k->w.heap.size<=k
 mod:Mod D.foot w w'
 kept:∀ n f,D.find n=some f->∃ f',T.D.find n=some f'/\f'.now=f.now
theorem alj:S ol=⟨#[116,97,112,101,45]⟩:=rfl
theorem syncD_room (R:SegD) (D:DiskD) (wv:Value):(R.syncD D wv).room=D.room:=by
 unfold SegD.syncD
 split
 . rfl
 ·
  have:(D.lasts R.syncL wv).size=D.size:=by
   unfold DiskD.size DiskD.lasts fe;simp only [List.map_map];congr 1;refine List.map_congr_left λp _=>?_
   simp only [Function.comp]
   split <;> rfl
  unfold DiskD.room;rw [this]; rfl
theorem anv {base:Nat} {O0:OwnD} {D:DiskD} {R:SegD} {its:List TapeMath.Item} (w0:World) (h0:its=[]) (hO:OwnAt base w0 O0) (hrb:O0.rb=R.blk) (hrecs:O0.recs=[]) (hW:Whole base w0 D R) (ht:R.txt=fu its) :
 Calls Tryz.prog 150 #[.pointer (some ⟨O0.blk,0,none⟩)] w0 λe w'=>e=.returned (.int .i64 (R.e:Int))/\arq base w0 w' O0 D R its its.length:=by
 subst h0;have S0:Zq (arq base w0 w0 O0 D R [] 0):=⟨⟨O0,hO,rfl,rfl,rfl,rfl,by rw [hrecs]; rfl,(λp hp=>by rw [hrecs] at hp; cases hp),λj F=>.inl F⟩,hW,Mod.refl _ _⟩;have c0:w0.cell? ⟨O0.blk,0,none⟩=some (.pointer (some ⟨R.blk,0,none⟩)):=hO.cell 0 _ (by rw [<- hrb]; rfl);have A:=zq (SegW.begin_any w0 hW.seg);have B:=zq (SegW.end_any w0 hW.seg);have E:R.b=R.e:=by unfold SegD.e; rw [ht]; rfl
 have I:¬ ((R.e:Int) < (R.e:Int)):=by omega
 rw [E] at A;clear hO hrb hrecs hW ht E;generalize (R.e:Int)=z at *
 go_enter Tryz.func150,Tryz.ntmps150;go_wp2_with fail;refine A.o.mono ?_;rintro e w1 ⟨rfl,rfl⟩;go_wp2_with fail;go_loopw [3] (λi wr=>i=.int .i64 z/\wr=w1) (λ_ _=>0)
 case atStart=>exact ⟨rfl,rfl⟩
 case round =>
  obtain ⟨rfl,rfl⟩:=hrel;go_wp2_with fail;refine B.o.mono ?_;rintro e w2 ⟨rfl,rfl⟩;go_wp2_with fail;go_ret;exact ⟨rfl,S0.o⟩
theorem alk {base:Nat} {D:DiskD} {R:SegD} {its:List TapeMath.Item} (w:World) (h0n:R.n=0) (h0:its=[]) (hL:LaidOn D R) (hD:DiskAt base w D) (hq:Quiet D) (hfl:D.files.length<=1048576) (hnl:∀ p∈D.files,p.1.length<=1073741824) (hbase:base<=w.heap.size) (hT:TabB base w)
 (hh:R.head=ol) (hs:R.size=1024) (ht:R.txt=fu its) (hf:Fits R.b its) (hil:its.length<=1000000) (hwt:D.waits=[]) :
 Calls Tryz.prog 83 #[.pointer (some ⟨D.blk,0,none⟩)] w λe w'=>∃ T,e=.returned (.tuple #[.pointer (some ⟨T.O.blk,0,none⟩),.int .i64 0])/\anu base w w' D its R.b T:=by
 have Y:=zq (agc w h0n hL hD hq hfl hnl hbase);have Z:((R.size:Nat):Int)=1024:=by rw [hs]; rfl
 rw [hh,alj,Z] at Y;have HD:=zq hD;have HQ:=zq hq;have HH:=zq hh;have HS:=zq hs;have ap:=zq ht;have HF:=zq hf;have ar:=zq hwt;have b0:=zq hT;have b1:=zq hL;have cg:∀ w:World,(Instr.makeMap 97 none).run Tryz.prog w=.ok (.map (some w.heap.size)) (w.alloc (.map #[] 0)):=λ_=>rfl
 clear hL hD hq hfl hnl hT hh hs Z ht hf hwt;go_enter Tryz.func83,Tryz.ntmps83;go_wp2_with fail;refine Y.o.mono ?_;rintro e w1 ⟨rb,pv,rfl,hW,hb,av⟩;have N:=zq hW;have ab:=zq hb;have a1:=zq av;clear hW hb av Y;go_wp2_with fail;refine (CrcW.new_any w1).mono ?_;rintro e w2 ⟨B,rfl,hl⟩;have I:=zq hl;clear hl;go_upto_region 5 with fail
 obtain ⟨O0,E⟩:∃ O:OwnD,O=⟨w2.heap.size+1,rb,B,.slice none 0 0,w2.heap.size,0,[]⟩:=⟨_,rfl⟩;have ac:Below w.heap.size w w2:=ab.o.trans (I.o.below.mono ab.o.size);have A:Below w2.heap.size w2 ((w2.alloc (Obj.map #[] 0)).alloc (.cells #[.pointer (some ⟨rb,0,none⟩),.pointer (some ⟨B,0,none⟩),.slice none 0 0,.map (some w2.heap.size),.int .i64 0] 99)):=((Below.refl _ _).alloc (Nat.le_refl _) _).alloc (by rw [World.size_alloc]; omega) _
 have a6:((w2.alloc (Obj.map #[] 0)).alloc (.cells #[.pointer (some ⟨rb,0,none⟩),.pointer (some ⟨B,0,none⟩),.slice none 0 0,.map (some w2.heap.size),.int .i64 0] 99)).heap[w2.heap.size+1]?=some (.cells #[.pointer (some ⟨rb,0,none⟩),.pointer (some ⟨B,0,none⟩),.slice none 0 0,.map (some w2.heap.size),.int .i64 0] 99 (0,0)):=by
  have:=heap_alloc_new (w2.alloc (Obj.map #[] 0)) (.cells #[.pointer (some ⟨rb,0,none⟩),.pointer (some ⟨B,0,none⟩),.slice none 0 0,.map (some w2.heap.size),.int .i64 0] 99);rw [World.size_alloc] at this; exact this
 have a7:PairsAt ((w2.alloc (Obj.map #[] 0)).alloc (.cells #[.pointer (some ⟨rb,0,none⟩),.pointer (some ⟨B,0,none⟩),.slice none 0 0,.map (some w2.heap.size),.int .i64 0] 99)) w2.heap.size []:=(PairsAt.new w2).below ((Below.refl _ _).alloc (Nat.le_refl _) _);generalize (w2.alloc (Obj.map #[] 0)).alloc (.cells #[.pointer (some ⟨rb,0,none⟩),.pointer (some ⟨B,0,none⟩),.slice none 0 0,.map (some w2.heap.size),.int .i64 0] 99)=w3 at *
 have a8:Below w.heap.size w w3:=ac.trans (A.mono ac.size);have ba:Whole base w3 D (R.openR rb pv):=(N.o.below (I.o.below)).below A;have bb:=I.o.size;have b2:=I.o.old;have Z:=ab.o.size;have bc:=I.o.below.size;have bd:=A.size
 have hO:OwnAt base w3 O0:=by
  rw [E];refine ⟨a6,⟨rfl,.inl ⟨rfl,rfl⟩⟩,a7,?_,⟨by show B < w3.heap.size; omega,by show base<=B; omega,by show base<=w2.heap.size+1; omega,by show base<=w2.heap.size; omega⟩,by show w2.heap.size+1≠B; omega,by show w2.heap.size+1≠w2.heap.size; omega,by show B≠w2.heap.size; omega,λk hk=>by cases hk⟩;exact RecW.aaq I.o.tabs bb A
 have J:∀ k,O0.foot k->w1.heap.size<=k:=λk hk=>by
  rw [E] at hk
  rcases hk with hk | hk | hk | hk
  . have:k=w2.heap.size+1:=hk
    omega
  . have:k=B:=hk
    omega
  . have:k=w2.heap.size:=hk
    omega
  . cases hk
 have F:∀ k,O0.foot k->¬ D.foot k/\¬ (R.openR rb pv).foot k:=λk hk=>by
  have h1:=J k hk;exact ⟨λh=>by have:=N.o.dsk.lt h; omega,λh=>by have:=N.o.seg.lt h; omega⟩
 have ad:=zq (anv (R:=R.openR rb pv) w3 h0 hO (by rw [E]; rfl) (by rw [E]) ba ap.o);have ak:O0.blk=w2.heap.size+1:=by rw [E]
 have al:(R.openR rb pv).e=R.e:=rfl;rw [ak,al] at ad;have b3:=zq ak;have ci:=zq F;have am:=zq J;have an:=zq a8;have bh:Zq (w1.heap.size<=w3.heap.size):=by show _<=_; omega
 have b4:Zq (O0.rb=rb):=by show _=_; rw [E]
 clear E ac A a6 a7 a8 ba bb b2 bc bd hO J F ak;go_wp2_with fail;refine ad.o.mono ?_;rintro e w4 ⟨rfl,M⟩;have U:=zq M;have X:=zq (SegW.end_any w4 M.whole.seg);have bj:TabB base w4:=(b0.o.below an.o).mod M.mod (λk hk=>by have:=am.o k hk; omega)
 have ao:=zq (SegW.sync_any w4 bj M.whole HQ.o (by have:=an.o.size; have:=M.mod.size; omega) (by rw [ar.o]; exact Nat.zero_le _) (by
  show R.n<=_
  rcases Nat.eq_zero_or_pos R.n with h0 | hp
  . omega
  . have h1:=(b1.o.long hp).2.2
    have h2:=HS.o;rw [h2] at h1;omega))
 rw [al] at X;have bk:(R.openR rb pv).blk=rb:=rfl;rw [bk] at X ao;clear M ad bj bk al;go_wp2_with fail;refine X.o.mono ?_;rintro e w5 ⟨rfl,rfl⟩;go_wp2_with fail;refine ao.o.mono ?_;rintro e w6 ⟨rfl,wv,bl,bm,bo⟩;have b6:=zq bm;have bp:=zq bo;have b7:=zq bl;clear bm bo bl ao X;go_wp2_with fail;go_ret2;obtain ⟨O,o1,o2,o3,o4,o5,o6,o7,o8⟩:=U.o.ex;rw [List.take_length] at o6
 have J:∀ k,O.foot k->w1.heap.size<=k:=λk hk=>by
  rcases o8 k hk with h | h
  . exact am.o k h
  . have:=bh.o; omega
 have br:∀ k,((R.openR rb pv).syncD D wv).foot k↔D.foot k:=λk=>by
  unfold SegD.syncD
  split
  . exact Iff.rfl
  . exact su b7.o k
 have F:∀ k,O.foot k->¬ D.foot k/\¬ (R.openR rb pv).foot k:=λk hk=>by
  have h1:=J k hk;exact ⟨λh=>by have:=N.o.dsk.lt h; omega,λh=>by have:=N.o.seg.lt h; omega⟩
 have bs:((R.openR rb pv).syncD D wv).waits=[]:=Waiting.sync (Waiting.none ar.o) U.o.whole.seg U.o.whole.dsk wv
 have b8:Quiet ((R.openR rb pv).syncD D wv):=by
  unfold SegD.syncD
  split
  . exact HQ.o
  . exact ⟨HQ.o.left,HQ.o.up⟩
 have b9:Mod D.foot w w5:=jb (Mod.of_below an.o) U.o.mod (λk hk=>.inr (by have:=am.o k hk; omega))
 refine ⟨⟨O,(R.openR rb pv).syncD D wv,{ R.openR rb pv with synced:=(R.openR rb pv).e },its⟩,by show _=Ending.returned (.tuple #[.pointer (some ⟨O.blk,0,none⟩),.int .i64 0]); rw [o2,b3.o]; rfl,
  ⟨⟨o1.mod bp.o (λk hk ca=>?_),o3.trans b4.o,o6,λk hk=>⟨λh=>(F k hk).1 ((br k).1 h),(F k hk).2⟩,b6.o,HH.o,HS.o,ap.o,HF.o,o7,Waiting.none bs⟩,rfl,rfl,rfl,bs,b8,?_,br,λn=>?_,syncD_room _ _ _,λk hk=>?_,?_,λn f hf=>?_⟩⟩
 . rcases ca with h | h
   . exact (F k hk).1 h
   . exact (F k hk).2 h
 . show ((R.openR rb pv).syncD D wv).blk=D.blk
   unfold SegD.syncD; split <;> rfl
 . obtain ⟨g,h1,_⟩:=ow (R.openR rb pv) D wv n
   show (((R.openR rb pv).syncD D wv).find n).isSome=_;rw [h1]; cases D.find n <;> rfl
 . rcases hk with h | h
   . have:=J k h; omega
   . exact a1.o k h
 . exact jb b9 bp.o (λk hk=>hk.elim .inl (λh=>.inr (a1.o k h)))
 . obtain ⟨g,h1,h2⟩:=ow (R.openR rb pv) D wv n
   exact ⟨g f,by show ((R.openR rb pv).syncD D wv).find n=_; rw [h1,hf]; rfl,(h2 f).2⟩
end TapeW
namespace PendW
open Go.RowKit Go.MapKept OctMath RecMath MapG
structure PendD where
 blk:Nat
 mB:Nat
 all:List (Int×Int×Int)
def aau (v:Int×Int):Value:=.agg #[.int .i64 v.1,.int .i64 v.2]
def aed (p:Int×Int×Int):Value×Value:=(.int .i64 p.1,aau p.2)
structure PendAt (base:Nat) (w:World) (P:PendD):Prop where
 cells:w.heap[P.blk]?=some (.cells #[.map (some P.mB)] 150 (0,0))
 map:PairsAt w P.mB (P.all.map aed)
 low:base<=P.blk/\base<=P.mB
 ne:P.blk≠P.mB
def PendD.foot (P:PendD) (k:Nat):Prop:=k=P.blk\/k=P.mB
theorem PendAt.lt {base:Nat} {w:World} {P:PendD} (h:PendAt base w P) {k:Nat} (hk:P.foot k):k < w.heap.size:=by
 rcases hk with hk | hk
 . rw [hk]; exact (Array.getElem?_eq_some_iff.1 h.cells).1
 . rw [hk]; exact h.map.lt
theorem PendAt.mod {base:Nat} {w w':World} {P:PendD} {M:Nat->Prop} (h:PendAt base w P) (hm:Mod M w w') (hM:∀ k,P.foot k->¬ M k):PendAt base w' P :=
 ⟨(hm.block _ (h.lt (.inl rfl)) (hM _ (.inl rfl))).trans h.cells,h.map.mod hm (hM _ (.inr rfl)),h.low,h.ne⟩
theorem PendAt.below {base:Nat} {w w':World} {P:PendD} (h:PendAt base w P) (hb:Below w.heap.size w w'):PendAt base w' P :=
 h.mod (M:=λ_=>False) (Mod.of_below hb) (λ_ _ h=>h)
theorem PendAt.cell {base:Nat} {w:World} {P:PendD} (h:PendAt base w P):w.cell? ⟨P.blk,0,none⟩=some (.map (some P.mB)):=by
 unfold World.cell?; rw [show w.heap[(⟨P.blk,0,none⟩:Addr).block]?=_ from h.cells]; rfl
/-! what is kept of a number -/
def ab0 (all:List (Int×Int×Int)) (id:Int):Int×Int:=((all.find? λp=>decide (p.1=id)).map (·.2)).getD (0,0)
def alm (all:List (Int×Int×Int)) (id:Int) (v:Int×Int):List (Int×Int×Int) :=
 if all.any (λp=>decide (p.1=id)) then all.map (λp=>if p.1=id then (id,v) else p) else all++[(id,v)]
theorem keyedI:Keyed Tryz.prog 3 (IsKey (.int .i64)):=Keyed.of_isKey Tryz.underlying3
theorem aj7 (all:List (Int×Int×Int)):∀ p∈all.map aed,IsKey (.int .i64) p.1:=λp hp=>by
 obtain ⟨q,_,rfl⟩:=List.mem_map.1 hp; rfl
theorem anw (w:World):(zeroValue 198).run Tryz.prog w=.ok (aau (0,0)) w:=by kernel_rfl
theorem adp {all:List (Int×Int×Int)} {id:Int} {q:Int×Int×Int} (h:all.find? (λp=>decide (p.1=id))=some q):∃ a b,all=a++q :: b/\q.1=id/\∀ p∈a,p.1≠id:=by
 obtain ⟨h1,a,b,A,B⟩:=List.find?_eq_some_iff_append.1 h;exact ⟨a,b,A,by simpa using h1,λp hp=>by simpa using B p hp⟩
theorem aj8 {all:List (Int×Int×Int)} {id:Int} (h:all.find? (λp=>decide (p.1=id))=none):∀ p∈all,p.1≠id:=λp hp=>by
 have:=List.find?_eq_none.1 h p hp
 simpa using this
theorem aj9 {base:Nat} {w:World} {P:PendD} (h:PendAt base w P) (id:Int) :
 (Instr.lookup 148 (.map (some P.mB)) (.int .i64 id) false).run Tryz.prog w=.ok (aau (ab0 P.all id)) w:=by
 have A:=Tryz.underlying148;unfold ab0
 cases hf:P.all.find? (λp=>decide (p.1=id)) with
 | none =>
   have B:=aj8 hf
   have:=aas A keyedI h.map (aj7 _) (k:=.int .i64 id) rfl (λp hp=>by
    obtain ⟨q,E,rfl⟩:=List.mem_map.1 hp;intro e;exact B q E (by unfold aed at e; simpa using e)) anw false
   exact this
 | some q =>
   obtain ⟨a,b,h1,F,I⟩:=adp hf;have:=aar A keyedI h.map (aj7 _) (k:=.int .i64 id) (v:=aau q.2) rfl (List.mem_map.2 ⟨q,by rw [h1]; simp,by unfold aed; rw [F]⟩) false;exact this
theorem aka {base:Nat} {w:World} {P:PendD} (h:PendAt base w P) (id:Int) (v:Int×Int) :
 ∃ w',(Instr.mapUpdate 148 (.map (some P.mB)) (.int .i64 id) (aau v)).run Tryz.prog w=.ok () w'/\PendAt base w' { P with all:=alm P.all id v }/\Mod (λk=>k=P.mB) w w':=by
 have M:=Tryz.underlying148;have A:∀ w',Mod (λk=>k=P.mB) w w'->w'.heap[P.blk]?=some (.cells #[.map (some P.mB)] 150 (0,0)):=λw' E=>(E.block _ (h.lt (.inl rfl)) h.ne).trans h.cells
 have F:=h.map.nodup;unfold alm
 cases hf:P.all.find? (λp=>decide (p.1=id)) with
 | none =>
   have N:=aj8 hf
   obtain ⟨w',h1,B,I⟩:=sw M keyedI h.map (aj7 _) (k:=.int .i64 id) rfl (λp hp=>by
    obtain ⟨q,R,rfl⟩:=List.mem_map.1 hp;intro e;exact N q R (by unfold aed at e; simpa using e)) (aau v)
   have J:P.all.any (λp=>decide (p.1=id))=false:=by
    rw [List.any_eq_false];intro p hp; simpa using N p hp
   refine ⟨w',h1,⟨A w' I,?_,h.low,h.ne⟩,I⟩;rw [if_neg (by rw [J]; decide),List.map_append];exact B
 | some q =>
   obtain ⟨a,b,h1,B,I⟩:=adp hf;obtain ⟨w',k1,U,O⟩:=aiw M keyedI h.map (aj7 _) (k:=.int .i64 id) (v0:=aau q.2) (l1:=a.map aed) (l2:=b.map aed) rfl (by rw [h1,List.map_append,List.map_cons]; unfold aed; rw [B]) (aau v)
   have J:P.all.any (λp=>decide (p.1=id))=true:=by
    rw [List.any_eq_true];exact ⟨q,by rw [h1]; simp,by simpa using B⟩
   refine ⟨w',k1,⟨A w' O,?_,h.low,h.ne⟩,O⟩;rw [if_pos J]
   have hb:∀ p∈b,p.1≠id:=by
    intro p hp e;rw [h1,List.map_append,List.map_cons,List.map_append,List.map_cons] at F;have:=(List.nodup_cons.1 (List.nodup_append.1 F).2.1).1;exact this (List.mem_map.2 ⟨aed p,List.mem_map.2 ⟨p,hp,rfl⟩,by unfold aed; rw [B,e]⟩)
   have X:a.map (λp=>if p.1=id then (id,v) else p)=a:=by
    conv=>rhs; rw [<- List.map_id a]
    exact List.map_congr_left λp hp=>if_neg (I p hp)
   have Y:b.map (λp=>if p.1=id then (id,v) else p)=b:=by
    conv=>rhs; rw [<- List.map_id b]
    exact List.map_congr_left λp hp=>if_neg (hb p hp)
   rw [h1,List.map_append,List.map_cons,X,Y,if_pos B,List.map_append,List.map_cons];exact U
theorem aln (a b:Value) (w:World):(Instr.field 198 (.agg #[a,b]) 0).run Tryz.prog w=.ok a w:=by kernel_rfl
theorem new_any (base:Nat) (w:World) (hb:base<=w.heap.size) :
 Calls Tryz.prog 41 #[] w λe w'=>∃ P,e=.returned (.pointer (some ⟨P.blk,0,none⟩))/\PendAt base w' P/\P.all=[]/\Below w.heap.size w w'/\w.heap.size<=P.blk/\w.heap.size<=P.mB:=by
 have A:Zq (PendAt base ((w.alloc (.map #[] 0)).alloc (.cells #[.map (some w.heap.size)] 150)) ⟨w.heap.size+1,w.heap.size,[]⟩):=by
  refine ⟨?_,?_,⟨by show base<=w.heap.size+1; omega,hb⟩,by show w.heap.size+1≠w.heap.size; omega⟩
  . have:=heap_alloc_new (w.alloc (.map #[] 0)) (.cells #[.map (some w.heap.size)] 150)
    rw [World.size_alloc] at this; exact this
  . exact (PairsAt.new w).below ((Below.refl _ _).alloc (Nat.le_refl _) _)
 have B:Zq (Below w.heap.size w ((w.alloc (.map #[] 0)).alloc (.cells #[.map (some w.heap.size)] 150))):=((Below.refl _ _).alloc (Nat.le_refl _) _).alloc (by rw [World.size_alloc]; omega) _;have E:∀ w:World,(Instr.makeMap 148 none).run Tryz.prog w=.ok (.map (some w.heap.size)) (w.alloc (.map #[] 0)):=λ_=>rfl
 go_enter Tryz.func41,Tryz.ntmps41;go_wp2_with fail;go_ret;exact ⟨⟨w.heap.size+1,w.heap.size,[]⟩,rfl,A.o,rfl,B.o,Nat.le_succ _,Nat.le_refl _⟩
theorem alo {base:Nat} {P:PendD} (id:Int) (w:World) (h:PendAt base w P) :
 Calls Tryz.prog 184 #[.pointer (some ⟨P.blk,0,none⟩),.int .i64 id] w λe w'=>e=.returned (.int .i64 (ab0 P.all id).1)/\w'=w:=by
 have c0:=h.cell;have A:=aj9 h id;clear h;unfold aau at A;generalize ab0 P.all id=g at *
 have B:=aln (.int .i64 g.1) (.int .i64 g.2);go_enter Tryz.func184,Tryz.ntmps184;go_wp2_with fail;go_ret;exact ⟨rfl,rfl⟩
def ae3 (all:List (Int×Int×Int)) (id s:Int):List (Int×Int×Int):=if (ab0 all id).1=1 then alm all id (s,0) else all
theorem ags {base:Nat} {P:PendD} (id s:Int) (w:World) (h:PendAt base w P) :
 Calls Tryz.prog 120 #[.pointer (some ⟨P.blk,0,none⟩),.int .i64 id,.int .i64 s] w λe w'=>∃ v,e=.returned v/\PendAt base w' { P with all:=ae3 P.all id s }/\Mod (λk=>k=P.mB) w w':=by
 have c0:=h.cell;have J:=zq (alo id w h);have M:Zq (ae3 P.all id s=if (ab0 P.all id).1=1 then alm P.all id (s,0) else P.all):=rfl;obtain ⟨w1,E,A,B⟩:=aka h id (s,0);have F:=zq A;have I:=zq B;have N:=zq h;clear h A B;unfold aau at E;generalize ab0 P.all id=g at *
 go_enter Tryz.func120,Tryz.ntmps120;go_wp2_with fail;refine J.o.mono ?_;rintro e w2 ⟨rfl,rfl⟩;clear J
 by_cases h1:g.1=1
 . go_wp2_with fail
   go_ret;exact ⟨_,rfl,by rw [M.o,if_pos h1]; exact F.o,I.o⟩
 . go_wp2_with fail
   go_ret;exact ⟨_,rfl,by rw [M.o,if_neg h1]; exact N.o,Mod.refl _ _⟩
def aah (all:List (Int×Int×Int)) (id:Int) (m:Msg):List (Int×Int×Int) :=
 if id < 0 then all else if m.kind=3 then ae3 all m.ref 2 else if m.kind=4 then ae3 all m.ref 3 else if m.kind=2/\ab0 all id=(0,0) then alm all id (1,m.due) else all
open RecW
theorem apu (a b:Int) (w:World):Sem.run Tryz.prog (binOp .eql 198 (aau (a,b)) (aau (0,0))) w=.ok (.bool (decide ((a,b)=((0,0):Int×Int)))) w   := by
 unfold aau;have A:Tryz.prog.stoodInHeld 198=false:=by kernel_rfl
 have I:∀ a b:Value,(part 3 #[a,b] 0).run Tryz.prog w=.ok a w:=λa b=>by kernel_rfl
 have J:∀ a b:Value,(part 3 #[a,b] 1).run Tryz.prog w=.ok b w:=λa b=>by kernel_rfl
 have F:∀ x y:Int,(Op.equalIn 9999 3 (.int .i64 x) (.int .i64 y)).run Tryz.prog w=.ok (x == y) w:=λx y=>run_equalIn_int _ 9998 _ _ _ _ _ Tryz.underlying3
 have M:(Op.equalIn 10000 198 (.agg #[.int .i64 a,.int .i64 b]) (.agg #[.int .i64 0,.int .i64 0])).run Tryz.prog w=.ok (a == 0 && b == 0) w:=by
  show (Op.equalIn (9999+1) _ _ _).run _ _=_;unfold Op.equalIn;have B:∀ w,Sem.run Tryz.prog program w=.ok Tryz.prog w:=λ_=>rfl
  have E:(isAgg 3).run Tryz.prog w=.ok false w:=by kernel_rfl
  simp [go_sem,run_underlying Tryz.underlying198,Result.andThen,B,A,E,F]
  by_cases h1:a=0 <;> by_cases h2:b=0 <;> simp [h1,h2,F]
 have hb:binOp .eql 198 (.agg #[.int .i64 a,.int .i64 b]) (.agg #[.int .i64 0,.int .i64 0])=(do pure (.bool (<- Op.equal 198 (.agg #[.int .i64 a,.int .i64 b]) (.agg #[.int .i64 0,.int .i64 0])))):=rfl;rw [hb];unfold Op.equal Op.maxDepth;rw [Sem.run_bind,M];simp [Result.andThen]
 by_cases h1:a=0 <;> by_cases h2:b=0 <;> simp [h1,h2]
def ExtP (w w':World):Prop:=∃ n,w'=w.drewN n
theorem ExtP.refl (w:World):ExtP w w:=⟨0,rfl⟩
theorem ExtP.trans {u v w:World} (h:ExtP u v) (k:ExtP v w):ExtP u w:=by obtain ⟨m,rfl⟩:=h; obtain ⟨n,rfl⟩:=k; exact ⟨m+n,World.drewN_drewN ..⟩
theorem anx {base:Nat} {P:PendD} (id:Int) (m:Msg) (a:Option Addr) (c:Nat) (W:World) (h:PendAt base W P) :
 Calls Tryz.prog 57 #[.pointer (some ⟨P.blk,0,none⟩),.int .i64 id,.agg (ae m a c)] W λe w'=>∃ v,e=.returned v/\PendAt base w' { P with all:=aah P.all id m }/\Mod (λk=>k=P.mB) W w':=by
 have J:Zq (Below W.heap.size W (W.alloc (.cells (ae m a c) 69))):=(Below.refl _ W).alloc (Nat.le_refl _) _;have HX:Zq (RecW.Boxed (W.alloc (.cells (ae m a c) 69)) W.heap.size (ae m a c)):=RecW.Boxed.new W _ _;have B:=zq (h.below J.o);have N:Zq (aah P.all id m=if id < 0 then P.all else if m.kind=3 then ae3 P.all m.ref 2 else if m.kind=4 then ae3 P.all m.ref 3 else if m.kind=2/\ab0 P.all id=(0,0) then alm P.all id (1,m.due) else P.all):=rfl;have ad:(ae m a c).size=10:=rfl;have ak:Zq (P.mB < W.heap.size):=h.map.lt;clear h;go_enter Tryz.func57,Tryz.ntmps57;go_upto_region 1 with fail
 generalize W.alloc (.cells (ae m a c) 69)=w1 at *
 clear ad;obtain ⟨A,hA⟩:∃ A,W.heap.size=A:=⟨_,rfl⟩;rw [hA] at HX J ak;have E:Zq (Mod (λk=>k=P.mB) W w1):=Mod.of_below (hA ▸ J.o);have k0:w1.cell? ⟨A,0,none⟩=some (.int .i64 m.kind):=HX.o 0 _ rfl;have k2:w1.cell? ⟨A,2,none⟩=some (.int .i64 m.due):=HX.o 2 _ rfl;have k4:w1.cell? ⟨A,4,none⟩=some (.int .i64 m.ref):=HX.o 4 _ rfl;have c0:=B.o.cell
 by_cases hn:id < 0
 . go_wp2_with fail
   go_ret;exact ⟨_,rfl,by rw [N.o,if_pos hn]; exact B.o,E.o⟩
 by_cases h3:m.kind=3
 ·
  have O:=zq (ags m.ref 2 w1 B.o);rw [h3] at k0;go_wp2_with fail;refine O.o.mono ?_;rintro e w2 ⟨v,rfl,hp,R⟩;have F:=zq hp;have I:=zq R;clear hp R O;go_wp2_with fail;go_ret;exact ⟨_,rfl,by rw [N.o,if_neg (Int.not_lt.2 hn),if_pos h3]; exact F.o,E.o.trans I.o⟩
 by_cases h4:m.kind=4
 ·
  have O:=zq (ags m.ref 3 w1 B.o);rw [h4] at k0;go_wp2_with fail;refine O.o.mono ?_;rintro e w2 ⟨v,rfl,hp,R⟩;have F:=zq hp;have I:=zq R;clear hp R O;go_wp2_with fail;go_ret;exact ⟨_,rfl,by rw [N.o,if_neg (Int.not_lt.2 hn),if_neg h3,if_pos h4]; exact F.o,E.o.trans I.o⟩
 by_cases h2:m.kind=2
 ·
  have hl:=aj9 B.o id;have an:=apu;unfold aau at hl an;rw [h2] at k0
  by_cases hg:ab0 P.all id=(0,0)
  ·
   have HG:=zq hg;rw [hg] at hl;simp only at hl;clear hg;go_wp2_with fail;refine Grow.ja 8 [none,none,none,none,none,none,none,none] ExtP (by kernel_rfl) (by kernel_rfl) (by kernel_rfl) ExtP.refl (λ_ _ _=>ExtP.trans) ?_ ?_
   . intro K hK Y hY v w w' hR h
     simp only [List.mem_cons,List.not_mem_nil,or_false] at hK
     rcases hK with rfl | rfl | rfl | rfl | rfl | rfl | rfl | rfl <;> simp only [reduceCtorEq,Option.some.injEq,Sum.inr.injEq] at hY
   simp only [List.take_succ_cons,List.take_zero,List.drop_succ_cons,List.drop_zero]
   iterate 8 (
    refine Grow.g_det rfl ?_;apply Exists.intro;refine ⟨λw hw hF=>?_,?_⟩
    . clear hF
      obtain ⟨nn,rfl⟩:=hw;go_simp;exact ⟨rfl,ExtP.refl _⟩
    go_frame)
   refine Grow.g_nil λw3 ap hF=>?_
   clear hF;obtain ⟨nn,rfl⟩:=ap;have M:Below w1.heap.size w1 (w1.drew.drewN nn):=(((Drawn.refl w1).drew).drewN nn).below _;have U:=B.o.below M;have ar:=zq (E.o.trans (Mod.of_below M));obtain ⟨w2,av,X,Z⟩:=aka U id (1,m.due);have F:=zq X;have I:=zq Z;unfold aau at av;clear X Z M U;generalize w1.drew.drewN nn=wz at *
   go_wp2_with fail;go_ret;exact ⟨⟨_,rfl⟩,by rw [N.o,if_neg (Int.not_lt.2 hn),if_neg h3,if_neg h4,if_pos ⟨h2,HG.o⟩]; exact F.o,ar.o.trans I.o⟩
  ·
   have bc:¬ ((ab0 P.all id).1=0/\(ab0 P.all id).2=0):=λh=>hg (Prod.ext h.1 h.2)
   have a1:=zq hg;clear hg;generalize ab0 P.all id=g at *
   go_wp2_with fail;go_ret;exact ⟨⟨_,rfl⟩,by rw [N.o,if_neg (Int.not_lt.2 hn),if_neg h3,if_neg h4,if_neg (λh=>a1.o h.2)]; exact B.o,E.o⟩
 . go_wp2_with fail
   go_ret;exact ⟨⟨_,rfl⟩,by rw [N.o,if_neg (Int.not_lt.2 hn),if_neg h3,if_neg h4,if_neg (λh=>h2 h.1)]; exact B.o,E.o⟩
end PendW
namespace StoW
open Go.RowKit Go.MapKept OctMath RecMath RecW TapeMath DskW SegW MapG TapeW PendW
theorem alp (l:List (List UInt8×FileD)) (f:List UInt8×FileD->List UInt8×FileD) (h:∀ p∈l,(f p).2.now=p.2.now):fe (l.map f)=fe l:=by
 unfold fe;rw [List.map_map];congr 1;exact List.map_congr_left λp hp=>by simp [h p hp]
theorem syncD_room (R:SegD) (D:DiskD) (wv:Value):(R.syncD D wv).room=D.room:=by
 unfold SegD.syncD
 split
 . rfl
 ·
  unfold DiskD.room DiskD.size DiskD.lasts;show D.cap - ((fe (D.files.map _):Nat):Int)=_;rw [alp];intro p _;dsimp only
  split <;> rfl
theorem ace (R:SegD) (D:DiskD) (wv:Value):(R.syncD D wv).files=D.files\/∃ f:List UInt8×FileD->List UInt8×FileD,(∀ p,(f p).1=p.1)/\(R.syncD D wv).files=D.files.map f:=by
 unfold SegD.syncD
 split
 . exact .inl rfl
 . refine .inr ⟨_,λp=>?_,rfl⟩
   dsimp only
   split <;> rfl
theorem alq (R:SegD) (D:DiskD) (wv:Value):(R.syncD D wv).files.length=D.files.length:=by
 rcases ace R D wv with e | ⟨f,_,e⟩
 . rw [e]
 . rw [e,List.length_map]
theorem alr {R:SegD} {D:DiskD} {wv:Value} {p:List UInt8×FileD} (h:p∈(R.syncD D wv).files):∃ q∈D.files,q.1=p.1:=by
 rcases ace R D wv with e | ⟨f,hf,e⟩
 . rw [e] at h; exact ⟨p,h,rfl⟩
 . rw [e] at h
   obtain ⟨q,A,rfl⟩:=List.mem_map.1 h;exact ⟨q,A,(hf q).symm⟩
theorem aiz {R:SegD} {D:DiskD} {wv:Value} {n:List UInt8} (h:D.find n=none):(R.syncD D wv).find n=none:=by
 obtain ⟨g,e,_⟩:=SegW.ow R D wv n;rw [e,h];rfl
structure StoD where
 blk:Nat
 T:TapeD
 P:PendD
 cq:Value
 kx:Value
 top:Value
 off:Value
 tl:Value
 dp:Value
 eq:Value
 dq:Value
 dk:Value
 now:Int
def StoD.cells (S:StoD):Array Value:=#[.pointer (some ⟨S.T.O.blk,0,none⟩),S.cq,S.kx,S.top,S.off,S.tl,.pointer (some ⟨S.P.blk,0,none⟩),S.dp,S.eq,S.dq,S.dk,.int .i64 S.now]
def StoD.foot (S:StoD) (k:Nat):Prop:=k=S.blk\/S.T.foot k\/S.P.foot k
structure StoAt (base:Nat) (w:World) (S:StoD):Prop where
 cells:w.heap[S.blk]?=some (.cells S.cells 63 (0,0))
 tape:TapeAt base w S.T
 pend:PendAt base w S.P
 low:base<=S.blk
 away:(∀ k,S.T.foot k->k≠S.blk/\¬ S.P.foot k)/\∀ k,S.P.foot k->k≠S.blk
theorem StoAt.lt {base:Nat} {w:World} {S:StoD} (h:StoAt base w S) {k:Nat} (hk:S.foot k):k < w.heap.size:=by
 rcases hk with hk | hk | hk
 . rw [hk]; exact (Array.getElem?_eq_some_iff.1 h.cells).1
 . exact h.tape.lt hk
 . exact h.pend.lt hk
theorem StoAt.mod {base:Nat} {w w':World} {S:StoD} {M:Nat->Prop} (h:StoAt base w S) (hm:Mod M w w') (hM:∀ k,S.foot k->¬ M k):StoAt base w' S :=
 ⟨(hm.block _ (h.lt (.inl rfl)) (hM _ (.inl rfl))).trans h.cells,h.tape.mod hm (λk hk=>hM k (.inr (.inl hk))),h.pend.mod hm (λk hk=>hM k (.inr (.inr hk))),h.low,h.away⟩
theorem StoAt.below {base:Nat} {w w':World} {S:StoD} (h:StoAt base w S) (hb:Below w.heap.size w w'):StoAt base w' S :=
 h.mod (M:=λ_=>False) (Mod.of_below hb) (λ_ _ h=>h)
theorem StoAt.cell {base:Nat} {w:World} {S:StoD} (h:StoAt base w S) (k:Nat) (v:Value) (hv:S.cells[k]?=some v):w.cell? ⟨S.blk,k,Option.none⟩=some v:=by
 unfold World.cell?; rw [show w.heap[(⟨S.blk,k,Option.none⟩:Addr).block]?=_ from h.cells]; simpa using hv
theorem akb {base:Nat} {S:StoD} (w:World) (h:StoAt base w S) :
 Calls Tryz.prog 20 #[.pointer (some ⟨S.blk,0,none⟩)] w λe w'=>e=.returned (.int .i64 S.now)/\w'=w:=by
 have A:=h.cell 11 _ rfl;clear h;go_enter Tryz.func20,Tryz.ntmps20;go_wp2_with fail;go_ret;exact ⟨rfl,rfl⟩
theorem ar2 {base:Nat} {S0:StoD} (r:Int) (hr:r≠0) (m:Msg) (sy:Bool) (a:Option Addr) (c:Nat) (W:World) (h:StoAt base W S0)
 (HAP:Zq (∀ w,Below W.heap.size W w->Calls Tryz.prog 56 #[.pointer (some ⟨S0.T.O.blk,0,none⟩),.agg (ae m a c)] w λe w'=>e=.returned (.tuple #[.int .i64 0,.int .i64 r])/\Below w.heap.size w w')) :
 Calls Tryz.prog 28 #[.pointer (some ⟨S0.blk,0,none⟩),.agg (ae m a c),.bool sy] W λe w'=>e=.returned (.tuple #[.int .i64 0,.int .i64 r])/\Below W.heap.size W w':=by
 have B:Zq (Below W.heap.size W (W.alloc (.cells (ae m a c) 69))):=(Below.refl _ W).alloc (Nat.le_refl _) _;have I:Zq (RecW.Boxed (W.alloc (.cells (ae m a c) 69)) W.heap.size (ae m a c)):=RecW.Boxed.new W _ _;have M:=zq (h.below B.o);have N:(ae m a c).size=10:=rfl;have Z:(r != 0)=true:=bne_iff_ne.2 hr;clear h hr;go_enter Tryz.func28,Tryz.ntmps28;go_upto_region 3 with fail
 generalize W.alloc (.cells (ae m a c) 69)=w1 at *
 clear N;obtain ⟨A,R⟩:∃ A,W.heap.size=A:=⟨_,rfl⟩;rw [R] at I ⊢;have ab:=zq R;have c0:w1.cell? ⟨S0.blk,0,none⟩=some (.pointer (some ⟨S0.T.O.blk,0,none⟩)):=M.o.cell 0 _ rfl;have J:=zq (HAP.o w1.drew (B.o.trans ((Below.refl _ w1).drew.mono B.o.size)));have U:Zq (ae m a c=#[.int .i64 m.kind,.int .i64 m.queue,.int .i64 m.due,.int .i64 m.retry,.int .i64 m.ref,.int .i64 m.born,.string (S m.topic),.string (S m.tag),.string (S m.body),.slice a m.keys.length c]):=rfl;rw [U.o] at J;obtain ⟨k0,k1,k2,k3,k4,k5,k6,k7,k8,k9⟩:=RecW.mr I.o;clear R;refine GrowM.jh (by kernel_rfl) ?_;refine GrowM.jl 5 [none,none,none,none,none] (λu v=>v=u) (by kernel_rfl) (by kernel_rfl) (λ_=>rfl) (λ_ _ _ h k=>k.trans h) ?_ ?_
 . exact GrowN.jo rfl
 simp only [List.take_succ_cons,List.take_zero,List.drop_succ_cons,List.drop_zero,Nat.reduceSub]
 iterate 5
  refine GrowN.g_det rfl ?_;apply Exists.intro;refine ⟨λw X E=>?_,?_⟩
  . obtain rfl:=X.symm
    clear E;go_simp
    first | exact rfl | exact ⟨rfl,rfl⟩
  go_frame
 refine GrowN.g_nil λwz F E=>?_
 obtain rfl:=F.symm;clear E;refine GrowM.nu (λv w'=>v=.tuple #[.int .i64 0,.int .i64 r]/\Below w1.drew.heap.size w1.drew w') (by kernel_rfl) rfl rfl ?_ ?_
 ·
  go_simp;refine J.o.mono ?_;rintro e w' ⟨rfl,hb⟩;exact ⟨_,rfl,rfl,hb⟩
 rintro v w2 ⟨rfl,hb⟩;go_frame;have Y:=zq hb;clear hb;refine GrowM.jl 11 [none,none,none,none,none] (λu v=>v=u) (by kernel_rfl) (by kernel_rfl) (λ_=>rfl) (λ_ _ _ h k=>k.trans h) ?_ ?_
 . exact GrowN.jo rfl
 simp only [List.take_succ_cons,List.take_zero,List.drop_succ_cons,List.drop_zero,Nat.reduceSub]
 iterate 5
  refine GrowN.g_det rfl ?_;apply Exists.intro;refine ⟨λw X E=>?_,?_⟩
  . obtain rfl:=X.symm
    clear E;go_simp
    first | exact rfl | exact ⟨rfl,rfl⟩
  go_frame
 refine GrowN.g_nil λwz F E=>?_
 obtain rfl:=F.symm;clear E;refine GrowM.qz rfl ?_;go_wp2_with fail;go_ret2;exact ⟨rfl,(B.o.trans ((Below.refl _ w1).drew.mono B.o.size)).trans (Y.o.mono (Nat.le_trans B.o.size (Nat.le_of_eq rfl)))⟩
structure Put (B:Nat) (S0 S1:StoD) (m:Msg) (sy:Bool):Prop where
 same:S1={ S0 with T:=S1.T,P:=S1.P }
 oblk:S1.T.O.blk=S0.T.O.blk
 pblk:S1.P.blk=S0.P.blk
 dblk:S1.T.D.blk=S0.T.D.blk
 b:S1.T.R.b=S0.T.R.b
 its:S1.T.its=S0.T.its++lv S0.T.R.e m
 quiet:Quiet S1.T.D
 room:S1.T.D.room=S0.T.D.room - ((fu (lv S0.T.R.e m)).length:Int)
 waits:if sy then S1.T.D.waits=[]/\S1.T.R.synced=S1.T.R.e else S1.T.D.waits≠[]/\S1.T.R.synced=S0.T.R.synced
 wl:S1.T.D.waits.length<=S0.T.D.waits.length+2
 foot:∀ k,S1.foot k->S0.foot k\/B<=k
 fl:S1.T.D.files.length<=S0.T.D.files.length+2
 nm:∀ p∈S1.T.D.files,p.1.length<=ol.length+8\/∃ q∈S0.T.D.files,q.1=p.1
 find:∀ n,(∀ p,p<=99999999->n≠af ol p)->S0.T.D.find n=none->S1.T.D.find n=none
 pall:S1.P.all=aah S0.P.all ((S0.T.R.e+(bv S0.T.R.e m).length:Nat):Int) m
 cap:S1.T.D.cap=S0.T.D.cap
 keep:∀ n f,(∀ p,p<=99999999->n≠af ol p)->S0.T.D.find n=some f->∃ f',S1.T.D.find n=some f'/\f'.now=f.now
theorem put_ok {base:Nat} {S0:StoD} (m:Msg) (sy:Bool) (hm:um m) (hr:df m=true) (h0:m.kind≠0) (a:Option Addr) (c:Nat) (W:World) (h:StoAt base W S0) (hS:Strs W a (m.keys.map S)) (hq:Quiet S0.T.D) (hT:TabB base W) (hbase:base<=W.heap.size)
 (hroom:(((bv S0.T.R.e m).length+(bg m).length:Nat):Int)<=S0.T.D.room) (hwl:S0.T.D.waits.length<=1000000) (hfar:S0.T.R.e<=80000000) (hrl:S0.T.O.recs.length<=1000000) :
 Calls Tryz.prog 28 #[.pointer (some ⟨S0.blk,0,none⟩),.agg (ae m a c),.bool sy] W λe w'=>e=.returned (.tuple #[.int .i64 ((S0.T.R.e+(bv S0.T.R.e m).length:Nat):Int),.int .i64 0]) /\
  ∃ S1,StoAt base w' S1/\Put W.heap.size S0 S1 m sy/\Mod S0.foot W w':=by
 have I:Zq (Below W.heap.size W (W.alloc (.cells (ae m a c) 69))):=(Below.refl _ W).alloc (Nat.le_refl _) _;have ad:Zq (RecW.Boxed (W.alloc (.cells (ae m a c) 69)) W.heap.size (ae m a c)):=RecW.Boxed.new W _ _;have ak:Zq ((W.alloc (.cells (ae m a c) 69)).heap.size=W.heap.size+1):=by exact Array.size_push _
 have B:=zq (h.below I.o);have b9:=zq (Strs.below hS I.o);have ca:(ae m a c).size=10:=rfl;have bd:=zq (hT.below I.o);have bh:=zq hbase;have HQ:=zq hq;have bj:=zq (λ(w:World) (hb:Below w.heap.size (W.alloc (.cells (ae m a c) 69)) w) (cb:TapeAt base w S0.T) (cc:Strs w a (m.keys.map S)) (cd:TabB base w) (ce:base<=w.heap.size)=>append_ok m hm hr h0 a c w cb cc hq cd ce hroom hwl (by omega) hrl);have av:=zq (λ(id:Int) (P:PendD) (w:World) (hp:PendAt base w P)=>anx id m a c w hp);have U:=zq (λ(k:Nat) (hk:S0.foot k)=>h.lt hk);have cf:=zq hwl;have cq:=zq hfar;have bk:(0:Int)<=((S0.T.R.e+(bv S0.T.R.e m).length:Nat):Int):=by omega
 obtain ⟨id,hid⟩:∃ id:Int,id=((S0.T.R.e+(bv S0.T.R.e m).length:Nat):Int):=⟨_,rfl⟩;have an:=zq hid;rw [<- hid] at bj ⊢;clear h hS hq hT hbase hroom hwl hfar hrl hm hr h0 bk hid;go_enter Tryz.func28,Tryz.ntmps28;go_upto_region 3 with fail
 generalize W.alloc (.cells (ae m a c) 69)=w1 at *
 clear ca;obtain ⟨A,hA⟩:∃ A,W.heap.size=A:=⟨_,rfl⟩;rw [hA] at ad ak U ⊢;have Z:=zq hA;have c0:w1.cell? ⟨S0.blk,0,none⟩=some (.pointer (some ⟨S0.T.O.blk,0,none⟩)):=B.o.cell 0 _ rfl;have a6:=zq (bj.o w1.drew ((Below.refl _ w1).drew) (B.o.tape.below ((Below.refl _ w1).drew)) (Strs.below b9.o ((Below.refl _ w1).drew)) (bd.o.below ((Below.refl _ w1).drew)) (Nat.le_trans bh.o I.o.size));have ci:Zq (ae m a c=#[.int .i64 m.kind,.int .i64 m.queue,.int .i64 m.due,.int .i64 m.retry,.int .i64 m.ref,.int .i64 m.born,.string (S m.topic),.string (S m.tag),.string (S m.body),.slice a m.keys.length c]):=rfl;rw [ci.o] at a6 av;obtain ⟨k0,k1,k2,k3,k4,k5,k6,k7,k8,k9⟩:=RecW.mr ad.o;clear hA;refine GrowM.jh (by kernel_rfl) ?_;refine GrowM.jl 5 [none,none,none,none,none] (λu v=>v=u) (by kernel_rfl) (by kernel_rfl) (λ_=>rfl) (λ_ _ _ h k=>k.trans h) ?_ ?_
 . exact GrowN.jo rfl
 simp only [List.take_succ_cons,List.take_zero,List.drop_succ_cons,List.drop_zero,Nat.reduceSub]
 iterate 5
  refine GrowN.g_det rfl ?_;apply Exists.intro;refine ⟨λw hw hF=>?_,?_⟩
  . obtain rfl:=hw.symm
    clear hF;go_simp
    first | exact rfl | exact ⟨rfl,rfl⟩
  go_frame
 refine GrowN.g_nil λwz ac hF=>?_
 obtain rfl:=ac.symm;clear hF;refine GrowM.nu (λv w'=>v=.tuple #[.int .i64 id,.int .i64 0]/\∃ T',TapeAt base w' T'/\TapeW.Next S0.T T' (lv S0.T.R.e m)/\Mod S0.T.foot w1.drew w'/\∀ k,T'.foot k->S0.T.foot k\/w1.drew.heap.size<=k) (by kernel_rfl) rfl rfl ?_ ?_
 ·
  go_simp;refine a6.o.mono ?_;rintro e w' ⟨rfl,hb⟩;exact ⟨_,rfl,rfl,hb⟩
 rintro v w2 ⟨rfl,hb⟩;go_frame;have HP:=zq hb;clear hb a6;refine GrowM.jl 11 [none,none,none,none,none] (λu v=>v=u) (by kernel_rfl) (by kernel_rfl) (λ_=>rfl) (λ_ _ _ h k=>k.trans h) ?_ ?_
 . exact GrowN.jo rfl
 simp only [List.take_succ_cons,List.take_zero,List.drop_succ_cons,List.drop_zero,Nat.reduceSub]
 iterate 5
  refine GrowN.g_det rfl ?_;apply Exists.intro;refine ⟨λw hw hF=>?_,?_⟩
  . obtain rfl:=hw.symm
    clear hF;go_simp
    first | exact rfl | exact ⟨rfl,rfl⟩
  go_frame
 refine GrowN.g_nil λwz ac hF=>?_
 obtain rfl:=ac.symm;clear hF;refine GrowM.qz rfl ?_;obtain ⟨T',bo,hN,ao,bp⟩:=HP.o;have X:Mod S0.T.foot w1 w2:=(Mod.of_below (M:=S0.T.foot) ((Below.refl _ w1).drew)).trans ao;have br:=zq X;have cj:=zq bo;have E:=zq hN;have bs:=zq bp;have ck:Zq (PendAt base w2 S0.P):=B.o.pend.mod X (λk hk F=>(B.o.away.1 k F).2 hk)
 have bw:Zq (RecW.Boxed w2 A (ae m a c)):=λk v e=>by
  have:=ad.o k v e;rw [<- this];exact X.cell (by have:=ak.o; show A < _; omega) (λF=>by have:=U.o A (.inr (.inl F)); omega)
 have d6:w2.cell? ⟨S0.blk,6,none⟩=some (.pointer (some ⟨S0.P.blk,0,none⟩)):=by
  rw [X.cell (B.o.lt (.inl rfl)) (λF=>(B.o.away.1 _ F).1 rfl)]; exact B.o.cell 6 _ rfl
 have d0:w2.cell? ⟨S0.blk,0,none⟩=some (.pointer (some ⟨S0.T.O.blk,0,none⟩)):=by
  rw [X.cell (B.o.lt (.inl rfl)) (λF=>(B.o.away.1 _ F).1 rfl)]; exact B.o.cell 0 _ rfl
 clear ao X bo hN bp HP c0 k0 k1 k2 k3 k4 k5 k6 k7 k8 k9 ad;obtain ⟨l0,l1,l2,l3,l4,l5,l6,l7,l8,l9⟩:=RecW.mr bw.o;have bz:=zq (av.o id S0.P w2.drew (ck.o.below ((Below.refl _ w2).drew)));go_upto_region 6 with fail
 refine GrowM.jh (by kernel_rfl) ?_;refine GrowM.jl 6 [none,none,none,none,none,none] (λu v=>v=u) (by kernel_rfl) (by kernel_rfl) (λ_=>rfl) (λ_ _ _ h k=>k.trans h) ?_ ?_
 . exact GrowN.jo rfl
 simp only [List.take_succ_cons,List.take_zero,List.drop_succ_cons,List.drop_zero,Nat.reduceSub]
 iterate 6
  refine GrowN.g_det rfl ?_;apply Exists.intro;refine ⟨λw hw hF=>?_,?_⟩
  . obtain rfl:=hw.symm
    clear hF;go_simp
    first | exact rfl | exact ⟨rfl,rfl⟩
  go_frame
 refine GrowN.g_nil λwz ac hF=>?_
 obtain rfl:=ac.symm;clear hF;refine GrowM.nu (λv w'=>PendAt base w' { S0.P with all:=aah S0.P.all id m }/\Mod (λk=>k=S0.P.mB) w2.drew w') (by kernel_rfl) rfl rfl ?_ ?_
 ·
  go_simp;refine bz.o.mono ?_;rintro e w' ⟨v,rfl,hb⟩
  first | exact ⟨⟨_,rfl⟩,hb⟩ | exact ⟨_,hb⟩
 rintro v w3 hb;go_frame;refine GrowM.qz rfl ?_;have a7:=zq hb;clear hb bz av l0 l1 l2 l3 l4 l5 l6 l7 l8 l9 bw;have a8:Mod (λk=>k=S0.P.mB) w2 w3:=(Mod.of_below (M:=λk=>k=S0.P.mB) ((Below.refl _ w2).drew)).trans a7.o.2;have b0:=zq a8
 have e0:w3.cell? ⟨S0.blk,0,none⟩=some (.pointer (some ⟨S0.T.O.blk,0,none⟩)):=by
  rw [a8.cell (Nat.lt_of_lt_of_le (B.o.lt (.inl rfl)) br.o.size) (λF=>B.o.away.2 _ (.inr F) rfl)]; exact d0
 clear a8 d0 d6;have ap:Mod (λk=>S0.T.foot k\/S0.P.foot k) w1 w3:=(br.o.mono (λk _ hk=>.inl hk)).trans (b0.o.mono (λk _ hk=>.inr (.inr hk)));have b1:=zq ap;have J:=zq ((Mod.of_below (M:=λk=>S0.T.foot k\/S0.P.foot k) I.o).trans ap)
 have al:Zq (TapeAt base w3 T'):=cj.o.mod b0.o (λk hk F=>by
  subst F
  rcases bs.o _ hk with Y | Y
  . exact (B.o.away.1 _ Y).2 (.inr rfl)
  . have:=U.o S0.P.mB (.inr (.inr (.inr rfl)))
    have h4:w1.heap.size<=S0.P.mB:=Y;have:=ak.o;omega)
 have KEY:Zq (∀ T2:TapeD,∀ w,TapeAt base w T2->PendAt base w { S0.P with all:=aah S0.P.all id m }->Mod (λk=>S0.T.foot k\/S0.P.foot k) W w->T2.O.blk=S0.T.O.blk->(∀ k,T2.foot k->S0.T.foot k\/A<=k) ->
  StoAt base w { S0 with T:=T2,P:={ S0.P with all:=aah S0.P.all id m } }/\∀ k,StoD.foot { S0 with T:=T2,P:={ S0.P with all:=aah S0.P.all id m } } k->S0.foot k\/A<=k):=λT2 w a1 a2 a3 a4 a5=>by
  have du:=U.o S0.blk (.inl rfl);refine ⟨⟨?_,a1,a2,B.o.low,λk hk=>?_,B.o.away.2⟩,λk hk=>?_⟩
  ·
   have:=(Mod.of_below (M:=λk=>S0.T.foot k\/S0.P.foot k) I.o)
   have h1:w.heap[S0.blk]?=some (.cells S0.cells 63 (0,0)):=by
    rw [a3.block S0.blk (by have:=Z.o; omega) (λF=>F.elim (λY=>(B.o.away.1 _ Y).1 rfl) (λY=>B.o.away.2 _ Y rfl)),<- I.o.block S0.blk (by have:=Z.o; omega)];exact B.o.cells
   rw [show w.heap[S0.blk]?=_ from h1];unfold StoD.cells;rw [a4]
  . rcases a5 k hk with F | F
    . exact B.o.away.1 k F
    . exact ⟨(show k≠S0.blk by omega),λY=>by have:=U.o k (.inr (.inr Y)); omega⟩
  . rcases hk with hk | hk | hk
    . exact .inl (.inl hk)
    . exact (a5 k hk).imp (λh=>.inr (.inl h)) λh=>h
    . exact .inl (.inr (.inr hk))
 have am:Zq (∀ k,T'.foot k->S0.T.foot k\/A<=k):=λk hk=>(bs.o k hk).imp (λh=>h) λF=>by
  have h4:w1.heap.size<=k:=F;have:=ak.o;omega
 have ba:=zq (TapeW.sync_any w3 al.o E.o.quiet (bd.o.mod b1.o (λk hk=>hk.elim (λh=>B.o.tape.base_le h) λh=>h.elim (λe=>e ▸ B.o.pend.low.1) λe=>e ▸ B.o.pend.low.2)) (Nat.le_trans bh.o J.o.size) (by have:=E.o.wl; have:=cf.o; omega) (by
  rcases Nat.eq_zero_or_pos T'.R.n with h0 | hp
  . omega
  . have:=(al.o.whole.seg.long hp).2.2
    rw [al.o.size] at this;omega))
 rw [E.o.blk] at ba
 cases sy
 ·
  go_wp2_with fail;go_ret2;obtain ⟨k1,k2⟩:=KEY.o T' w3 al.o a7.o.1 J.o E.o.blk am.o;exact ⟨rfl,_,k1,⟨rfl,E.o.blk,rfl,E.o.dblk,E.o.b,E.o.its,E.o.quiet,E.o.room,⟨E.o.waits,E.o.syn⟩,E.o.wl,λk hk=>(k2 k hk).imp (λh=>h) λh=>by rw [Z.o]; exact h,by have h1:=E.o.few.1; have F:=E.o.wl; show T'.D.files.length<=_; omega,E.o.few.2.1,λn hn h0=>(E.o.other n hn).trans h0,by show aah S0.P.all id m=_; rw [an.o],E.o.few.2.2,λn f hn hf=>⟨f,(E.o.other n hn).trans hf,rfl⟩⟩,J.o.mono (λk _ hk=>hk.elim (λh=>.inr (.inl h)) λh=>.inr (.inr h))⟩
 ·
  go_wp2_with fail;refine ba.o.mono ?_;rintro e w4 ⟨rfl,wv,b2,b3,b4,b5,b6⟩;have cn:=zq b2;have b7:=zq b3;have b8:=zq b4;have co:=zq b5;have cp:=zq b6;clear b2 b3 b4 b5 b6 ba;go_wp2_with fail;go_ret2;have ar:Mod (λk=>S0.T.foot k\/S0.P.foot k) W w4:=((J.o.mono (N:=λk=>(S0.T.foot k\/S0.P.foot k)\/A<=k) (λk _ h=>.inl h)).trans (b7.o.mono (λk _ h=>(am.o k h).imp (λh=>.inl h) λh=>h))).mono (λk hk h=>h.elim (λh=>h) λh=>by have:=Z.o; omega)
  obtain ⟨k1,k2⟩:=KEY.o _ w4 cn.o (a7.o.1.mod b7.o (λk hk F=>(am.o k F).elim (λY=>(B.o.away.1 k Y).2 hk) λY=>by have:=U.o k (.inr (.inr hk)); omega)) ar E.o.blk (λk hk=>am.o k (by
   rcases hk with h | h | h
   . exact .inl h
   . exact .inr (.inl ((cp.o k).1 h))
   . exact .inr (.inr h)))
  exact ⟨rfl,_,k1,⟨rfl,E.o.blk,rfl,(show (T'.R.syncD T'.D wv).blk=_ from (show (T'.R.syncD T'.D wv).blk=T'.D.blk by unfold SegD.syncD; split <;> rfl).trans E.o.dblk),E.o.b,E.o.its,co.o,(syncD_room _ _ _).trans E.o.room,⟨b8.o,rfl⟩,by show (T'.R.syncD T'.D wv).waits.length<=_; rw [b8.o]; simp,λk hk=>(k2 k hk).imp (λh=>h) λh=>by rw [Z.o]; exact h,by show (T'.R.syncD T'.D wv).files.length<=_; rw [alq]; have h1:=E.o.few.1; have F:=E.o.wl; omega,λp hp=>by obtain ⟨q,hq,e⟩:=alr hp; exact e ▸ E.o.few.2.1 q hq,λn hn h0=>aiz ((E.o.other n hn).trans h0),by show aah S0.P.all id m=_; rw [an.o],(show (T'.R.syncD T'.D wv).cap=T'.D.cap by unfold SegD.syncD; split <;> rfl).trans E.o.few.2.2,λn f hn hf=>by obtain ⟨g,h1,F⟩:=ow T'.R T'.D wv n; exact ⟨g f,by show (T'.R.syncD T'.D wv).find n=_; rw [h1,E.o.other n hn,hf]; rfl,(F f).2⟩⟩,ar.mono (λk _ hk=>hk.elim (λh=>.inr (.inl h)) λh=>.inr (.inr h))⟩
structure apv (W w:World) (B:Nat) (cs:Array Value) (t:TypeId):Prop where
 cells:w.heap[B]?=some (.cells cs t (0,0))
 below:Below W.heap.size W w
 new:W.heap.size<=B
theorem aav (W w:World) (cs:Array Value) (t:TypeId) (h:Below W.heap.size W w):apv W (w.alloc (.cells cs t)) w.heap.size cs t :=
 ⟨heap_alloc_new w _,h.alloc h.size _,h.size⟩
theorem agt {base:Nat} {T:TapeD} (q x:Nat) (W:World) (h:TapeAt base W T) :
 Calls Tryz.prog 91 #[.pointer (some ⟨T.O.blk,0,none⟩),.pointer (some ⟨q,0,none⟩),.pointer (some ⟨x,0,none⟩)] W λe w'=>∃ B,e=.returned (.tuple #[.pointer (some ⟨B,0,none⟩),.int .i64 0]) /\
  apv W w' B #[.pointer (some ⟨T.O.blk,0,none⟩),.pointer (some ⟨q,0,none⟩),.pointer (some ⟨x,0,none⟩),.int .i64 (T.R.b:Int)] 91:=by
 have A:=zq (begin_any W h);clear h;go_enter Tryz.func91,Tryz.ntmps91;go_wp2_with fail;refine A.o.mono ?_;rintro e w2 ⟨rfl,rfl⟩;go_wp2_with fail;go_ret2;exact ⟨_,rfl,aav _ _ _ _ (Below.refl _ _)⟩
theorem ai0 {base:Nat} {T:TapeD} (q x:Nat) (W:World) (h:TapeAt base W T) :
 Calls Tryz.prog 92 #[.pointer (some ⟨T.O.blk,0,none⟩),.pointer (some ⟨q,0,none⟩),.pointer (some ⟨x,0,none⟩)] W λe w'=>∃ B,e=.returned (.tuple #[.pointer (some ⟨B,0,none⟩),.int .i64 0]) /\
  apv W w' B #[.pointer (some ⟨T.O.blk,0,none⟩),.pointer (some ⟨q,0,none⟩),.pointer (some ⟨x,0,none⟩),.int .i64 (T.R.b:Int),.slice none 0 0] 253:=by
 have A:=zq (begin_any W h);clear h;go_enter Tryz.func92,Tryz.ntmps92;go_wp2_with fail;refine A.o.mono ?_;rintro e w2 ⟨rfl,rfl⟩;go_wp2_with fail;go_ret2;exact ⟨_,rfl,aav _ _ _ _ (Below.refl _ _)⟩
theorem ai1 (t q x:Nat) (W:World) :
 Calls Tryz.prog 93 #[.pointer (some ⟨t,0,none⟩),.pointer (some ⟨q,0,none⟩),.pointer (some ⟨x,0,none⟩)] W λe w'=>∃ B,e=.returned (.tuple #[.pointer (some ⟨B,0,none⟩),.int .i64 0]) /\
  apv W w' B #[.pointer (some ⟨t,0,none⟩),.pointer (some ⟨q,0,none⟩),.pointer (some ⟨x,0,none⟩),.slice none 0 0] 255:=by
 go_enter Tryz.func93,Tryz.ntmps93;go_wp2_with fail;go_ret2;exact ⟨_,rfl,aav _ _ _ _ (Below.refl _ _)⟩
theorem anz {B:Nat} {c0 c1 c2 c3:Value} (W:World) (h:W.heap[B]?=some (.cells #[c0,c1,c2,c3,.slice none 0 0] 253 (0,0))) :
 Calls Tryz.prog 97 #[.pointer (some ⟨B,0,none⟩)] W λe w'=>e=.returned (.slice none 0 0)/\w'.heap[B]?=some (.cells #[c0,c1,c2,c3,.slice none 0 0] 253 (0,0))/\Mod (λk=>k=B) W w':=by
 have c4:W.cell? ⟨B,4,none⟩=some (.slice none 0 0):=by unfold World.cell?; rw [show W.heap[(⟨B,4,none⟩:Addr).block]?=_ from h]; rfl
 have f4:W.frozen? ⟨B,4,none⟩=false:=by unfold World.frozen?; rw [show W.heap[(⟨B,4,none⟩:Addr).block]?=_ from h]; rfl
 have H:=zq h;clear h;go_enter Tryz.func97,Tryz.ntmps97;go_wp2_with fail;go_ret;exact ⟨rfl,heap_setCell_same _ B 4 _ _ _ H.o,(Mod.refl (λk=>k=B) W).setCell (.inl rfl) _⟩
theorem an0 {B:Nat} {c0 c1 c2:Value} (W:World) (h:W.heap[B]?=some (.cells #[c0,c1,c2,.slice none 0 0] 255 (0,0))) :
 Calls Tryz.prog 96 #[.pointer (some ⟨B,0,none⟩),.slice none 0 0] W λe w'=>∃ v,e=.returned v/\w'.heap[B]?=some (.cells #[c0,c1,c2,.slice none 0 0] 255 (0,0))/\Mod (λk=>k=B) W w':=by
 have c3:W.cell? ⟨B,3,none⟩=some (.slice none 0 0):=by unfold World.cell?; rw [show W.heap[(⟨B,3,none⟩:Addr).block]?=_ from h]; rfl
 have A:W.frozen? ⟨B,3,none⟩=false:=by unfold World.frozen?; rw [show W.heap[(⟨B,3,none⟩:Addr).block]?=_ from h]; rfl
 have H:=zq h;clear h;go_enter Tryz.func96,Tryz.ntmps96;go_wp2_with fail;go_end0;exact ⟨_,rfl,heap_setCell_same _ B 3 _ _ _ H.o,(Mod.refl (λk=>k=B) W).setCell (.inl rfl) _⟩
def afr (f:Nat) (B:Nat) (Q:World->Prop):Nat->World->Prop
 | 0,w=>Calls Tryz.prog f #[.pointer (some ⟨B,0,none⟩)] w λe w'=>e=.returned (.tuple #[.bool false,.int .i64 0])/\Q w'
 | n+1,w=>Calls Tryz.prog f #[.pointer (some ⟨B,0,none⟩)] w λe w'=>e=.returned (.tuple #[.bool true,.int .i64 0])/\afr f B Q n w'
theorem an1 {B:Nat} {Q:World->Prop} (n:Nat) (hn:n<=1073741824) (w:World) (h:afr 16 B Q n w) :
 Calls Tryz.prog 94 #[.pointer (some ⟨B,0,none⟩)] w λe w'=>e=.returned (.tuple #[.int .i64 (n:Int),.int .i64 0])/\Q w':=by
 have M:=zq h;clear h;go_enter Tryz.func94,Tryz.ntmps94;go_wp2_with fail;go_loopw [4] (λi wr=>∃ k:Nat,k<=n/\i=.int .i64 (k:Int)/\Zq (afr 16 B Q (n - k) wr)) (λi _=>n+1 - (intOf i).toNat)
 case atStart=>exact ⟨0,Nat.zero_le _,rfl,M⟩
 case round =>
  obtain ⟨k,hk,rfl,I⟩:=hrel;clear M
  by_cases hkn:k=n
  ·
   subst hkn;have A:=I.o;rw [Nat.sub_self] at A;have E:Zq _:=zq A;clear A I;unfold afr at E;go_wp2_with fail;refine E.o.mono ?_;rintro e w2 ⟨rfl,F⟩;have J:=zq F;clear F E;go_wp2_with fail;go_ret2;exact ⟨rfl,J.o⟩
  ·
   obtain ⟨j,N⟩:∃ j,n - k=j+1:=⟨n - k - 1,by omega⟩;have A:=I.o;rw [N] at A;have E:Zq _:=zq A;clear A I;unfold afr at E;go_wp2_with fail;refine E.o.mono ?_;rintro e w2 ⟨rfl,F⟩;have J:=zq F;clear F E;go_wp2_with fail;go_roundw
   case rel=>exact ⟨k+1,by omega,by go_num,by rw [show n - (k+1)=j by omega]; exact J.o⟩
   case measure=>simp [intOf]; omega
theorem an2 {B:Nat} {Q:World->Prop} (n:Nat) (hn:n<=1073741824) (w:World) (h:afr 157 B Q n w) :
 Calls Tryz.prog 95 #[.pointer (some ⟨B,0,none⟩)] w λe w'=>e=.returned (.tuple #[.int .i64 (n:Int),.int .i64 0])/\Q w':=by
 have M:=zq h;clear h;go_enter Tryz.func95,Tryz.ntmps95;go_wp2_with fail;go_loopw [4] (λi wr=>∃ k:Nat,k<=n/\i=.int .i64 (k:Int)/\Zq (afr 157 B Q (n - k) wr)) (λi _=>n+1 - (intOf i).toNat)
 case atStart=>exact ⟨0,Nat.zero_le _,rfl,M⟩
 case round =>
  obtain ⟨k,hk,rfl,I⟩:=hrel;clear M
  by_cases hkn:k=n
  ·
   subst hkn;have A:=I.o;rw [Nat.sub_self] at A;have E:Zq _:=zq A;clear A I;unfold afr at E;go_wp2_with fail;refine E.o.mono ?_;rintro e w2 ⟨rfl,F⟩;have J:=zq F;clear F E;go_wp2_with fail;go_ret2;exact ⟨rfl,J.o⟩
  ·
   obtain ⟨j,N⟩:∃ j,n - k=j+1:=⟨n - k - 1,by omega⟩;have A:=I.o;rw [N] at A;have E:Zq _:=zq A;clear A I;unfold afr at E;go_wp2_with fail;refine E.o.mono ?_;rintro e w2 ⟨rfl,F⟩;have J:=zq F;clear F E;go_wp2_with fail;go_roundw
   case rel=>exact ⟨k+1,by omega,by go_num,by rw [show n - (k+1)=j by omega]; exact J.o⟩
   case measure=>simp [intOf]; omega
theorem aa {w:World} {B:Nat} {cs:Array Value} {t:TypeId} (h:w.heap[B]?=some (.cells cs t (0,0))) (k:Nat) (v:Value) (hv:cs[k]?=some v):w.cell? ⟨B,k,Option.none⟩=some v:=by
 unfold World.cell?; rw [show w.heap[(⟨B,k,Option.none⟩:Addr).block]?=_ from h]; simpa using hv
theorem aj {w:World} {B:Nat} {cs:Array Value} {t:TypeId} (h:w.heap[B]?=some (.cells cs t (0,0))) (k:Nat):w.frozen? ⟨B,k,Option.none⟩=false:=by
 unfold World.frozen?; rw [show w.heap[(⟨B,k,Option.none⟩:Addr).block]?=_ from h]; rfl
theorem ai2 {w w':World} (h:Drawn w w') {B:Nat} {o:Obj} (hb:w.heap[B]?=some o):w'.heap[B]?=some o:=by rw [h.heap]; exact hb
theorem adq {base B:Nat} {T:OwnD} {q x:Value} {d:Int} (W:World) (h:OwnAt base W T) (hB:W.heap[B]?=some (.cells #[.pointer (some ⟨T.blk,0,none⟩),q,x,.int .i64 d] 91 (0,0))) (hs:(T.recs.map (·.1)).Pairwise (· < ·)) (hl:T.recs.length<=1073741824) (hn:(jr T.recs d).2=false) :
 Calls Tryz.prog 16 #[.pointer (some ⟨B,0,none⟩)] W λe w'=>e=.returned (.tuple #[.bool false,.int .i64 0])/\Drawn W w':=by
 have c0:=aa hB 0 _ rfl;have c3:=aa hB 3 _ rfl;have A:=zq (next_any d W.drew (h.below ((Below.refl _ W).drew)) hs hl);rw [hn] at A;clear h hs hl hn hB;generalize (jr T.recs d).1=p at *
 go_enter Tryz.func16,Tryz.ntmps16;go_upto_region 3 with fail
 refine GrowM.jh (by kernel_rfl) ?_;refine GrowM.jl 8 [none,none,none,none,none,none,none,none] (λu v=>v=u) (by kernel_rfl) (by kernel_rfl) (λ_=>rfl) (λ_ _ _ h k=>k.trans h) ?_ ?_
 . exact GrowN.jo rfl
 simp only [List.take_succ_cons,List.take_zero,List.drop_succ_cons,List.drop_zero,Nat.reduceSub]
 iterate 8
  refine GrowN.g_det rfl ?_;apply Exists.intro;refine ⟨λw I E=>?_,?_⟩
  . obtain rfl:=I.symm
    clear E;go_simp
    first | exact rfl | exact ⟨rfl,rfl⟩
  go_frame
 refine GrowN.g_nil λJ F E=>?_
 obtain rfl:=F.symm;clear E;refine GrowM.nu (λv w'=>v=.tuple #[.int .i64 p,.bool false]/\Drawn W.drew w') (by kernel_rfl) rfl rfl ?_ ?_
 ·
  go_simp;refine A.o.mono ?_;rintro e w' ⟨rfl,hb⟩;exact ⟨_,rfl,rfl,hb⟩
 rintro v w2 ⟨rfl,hb⟩;go_frame;refine GrowM.jl 14 [none,none,none,none,none] (λu v=>v=u) (by kernel_rfl) (by kernel_rfl) (λ_=>rfl) (λ_ _ _ h k=>k.trans h) ?_ ?_
 . exact GrowN.jo rfl
 simp only [List.take_succ_cons,List.take_zero,List.drop_succ_cons,List.drop_zero,Nat.reduceSub]
 iterate 5
  refine GrowN.g_det rfl ?_;apply Exists.intro;refine ⟨λw I E=>?_,?_⟩
  . obtain rfl:=I.symm
    clear E;go_simp
    first | exact rfl | exact ⟨rfl,rfl⟩
  go_frame
 refine GrowN.g_nil λJ F E=>?_
 obtain rfl:=F.symm;clear E;refine GrowM.qz rfl ?_;have M:=zq hb;clear hb A;go_wp2_with fail;go_ret2;exact ⟨rfl,Drawn.trans (Drawn.refl W).drew M.o⟩
def aq0 (w1:World) (v:Value) (w:World):Prop:=∃ g,v=.pointer (some ⟨g,0,none⟩)/\w.heap[g]?=some (.cells #[.int .i64 0,.int .i64 0,.int .i64 0,.int .i64 0] 136 (0,0))/\w1.heap.size<=g
theorem agu {u v:World} (h:RecW.ExtR u v) {g:Nat} {o:Obj} (hg:u.heap[g]?=some o):v.heap[g]?=some o:=by
 rw [Below.block h g (Array.getElem?_eq_some_iff.1 hg).1]; exact hg
end StoW
end Go.Proofs.YtcgonejkkpbepaaGreatDoor
