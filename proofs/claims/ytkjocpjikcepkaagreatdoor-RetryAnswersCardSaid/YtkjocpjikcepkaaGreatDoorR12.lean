/- retry: Nack. And what follows. -/
import Derived.Test.YtkjocpjikcepkaaGreatDoorR11
import Derived.Shelf.SlIterI.Collect
import Derived.Deep.CutRange
import Derived.Deep.CutBlock
set_option linter.unusedVariables false
set_option linter.unusedSimpArgs false
set_option maxHeartbeats 25600000
set_option maxRecDepth 100000
namespace Go.Proofs.YtkjocpjikcepkaaGreatDoor
namespace RetW
open Go.RowKit Go.MapKept Go.Sort OctMath RecMath RecW DskW SegW MapG TapeW TapeMath PendW CacheW EntW NameW CqW KxW StoW TopW NameMath SndW
theorem an3 (sb cb tb:Nat) (g t:ByteArray) (q p now:Int) (idn len hash born rid:Int) (m n:Msg) (sy:Bool) (hk1:∀ t∈m.keys,t≠[]) (hk2:∀ t∈n.keys,t≠[]) (W:World) (Q:World->World->Prop)
 (HBA:Zq (Calls Tryz.prog 36 #[.pointer (some ⟨sb,0,none⟩),.string g,.string t,.int .i64 q] W λe w'=>e=.returned (.int .i64 0)/\Below W.heap.size W w'))
 (HAT:Zq (∀ w,Below W.heap.size W w->w.cell? ⟨sb,1,none⟩=some (.pointer (some ⟨cb,0,none⟩))/\Calls Tryz.prog 15 #[.pointer (some ⟨cb,0,none⟩),.string t,.int .i64 q,.int .i64 p] w λe w'=>e=.returned (.tuple #[.agg #[.int .i64 idn,.int .i64 len,.int .i64 hash,.int .i64 born],.int .i64 0])/\Below w.heap.size w w'))
 (HRD:Zq (∀ w,Below W.heap.size W w->w.cell? ⟨sb,0,none⟩=some (.pointer (some ⟨tb,0,none⟩))/\Calls Tryz.prog 16 #[.pointer (some ⟨tb,0,none⟩),.int .i64 idn] w λe w'=>∃ a c,e=.returned (.tuple #[.agg #[.int .i64 m.kind,.int .i64 m.queue,.int .i64 m.due,.int .i64 m.retry,.int .i64 m.ref,.int .i64 m.born,.string (S m.topic),.string (S m.tag),.string (S m.body),.slice a m.keys.length c],.int .i64 0])/\Strs w' a (m.keys.map S)/\Below w.heap.size w w'))
 (HNO:Zq (∀ w,Below W.heap.size W w->Calls Tryz.prog 29 #[.pointer (some ⟨sb,0,none⟩)] w λe w'=>e=.returned (.int .i64 now)/\w'=w))
 (HAG:Zq (∀ w a c,Below W.heap.size W w->Strs w a (m.keys.map S)->Calls Tryz.prog 37 #[.agg #[.int .i64 m.kind,.int .i64 m.queue,.int .i64 m.due,.int .i64 m.retry,.int .i64 m.ref,.int .i64 m.born,.string (S m.topic),.string (S m.tag),.string (S m.body),.slice a m.keys.length c],.int .i64 idn,.string g,.int .i64 now] w λe w'=>∃ a2 q2,e=.returned (.tuple #[.agg #[.int .i64 n.kind,.int .i64 n.queue,.int .i64 n.due,.int .i64 n.retry,.int .i64 n.ref,.int .i64 n.born,.string (S n.topic),.string (S n.tag),.string (S n.body),.slice a2 n.keys.length q2],.int .i64 0])/\Strs w' a2 (n.keys.map S)/\Below w.heap.size w w'))
 (HPU:Zq (∀ w a c,Below W.heap.size W w->Strs w a (n.keys.map S)->Calls Tryz.prog 27 #[.pointer (some ⟨sb,0,none⟩),.agg #[.int .i64 n.kind,.int .i64 n.queue,.int .i64 n.due,.int .i64 n.retry,.int .i64 n.ref,.int .i64 n.born,.string (S n.topic),.string (S n.tag),.string (S n.body),.slice a n.keys.length c],.bool sy] w λe w'=>e=.returned (.tuple #[.int .i64 rid,.int .i64 0])/\Q w w')) :
 Calls Tryz.prog 14 #[.pointer (some ⟨sb,0,none⟩),.string g,.string t,.int .i64 q,.int .i64 p,.bool sy] W λe w'=>e=.returned (.tuple #[.int .i64 rid,.int .i64 0])/\∃ w3,Below W.heap.size W w3/\Q w3 w':=by
 have bz:=zq hk1;have b0:=zq hk2;clear hk1 hk2;go_enter Tryz.func14,Tryz.ntmps14;go_wp2_with fail;refine HBA.o.mono ?_;rintro e w1 ⟨rfl,a6⟩;have a7:=zq a6;obtain ⟨k1,bd⟩:=HAT.o w1 a6;have ap:=zq bd;clear a6 bd HBA HAT;go_wp2_with fail;refine ap.o.mono ?_;rintro e w2 ⟨rfl,bh⟩;have bj:Below w2.heap.size w2 (w2.alloc (.cells #[.int .i64 idn,.int .i64 len,.int .i64 hash,.int .i64 born] 61)):=(Below.refl _ w2).alloc (Nat.le_refl _) _;have ak:Zq ((w2.alloc (.cells #[.int .i64 idn,.int .i64 len,.int .i64 hash,.int .i64 born] 61)).heap[w2.heap.size]?=some (.cells #[.int .i64 idn,.int .i64 len,.int .i64 hash,.int .i64 born] 61 (0,0))):=heap_alloc_new w2 _;have X:=a7.o.trans (bh.mono a7.o.size);have Z:=zq (X.trans (bj.mono X.size));clear bh bj X ap k1 a7;go_upto_region 5 with fail
 generalize w2.alloc (.cells #[.int .i64 idn,.int .i64 len,.int .i64 hash,.int .i64 born] 61)=w3 at *
 obtain ⟨PB,bk⟩:∃ PB,w2.heap.size=PB:=⟨_,rfl⟩;rw [bk] at ak ⊢;clear bk;go_upto_region 7 with fail
 have N:Zq (∀ w,ReadG w3.heap.size m w3.drew w->Below w3.heap.size w3 w):=λw B=>((Below.refl _ w3).drew).trans B.below
 have HK:Zq (∀ w,ReadG w3.heap.size m w3.drew w->w.cell? ⟨sb,0,none⟩=some (.pointer (some ⟨tb,0,none⟩))/\w.cell? ⟨PB,0,none⟩=some (.int .i64 idn)/\Below W.heap.size W w):=λw B=>by
  have hb:=N.o w B;have al:=Z.o.trans (hb.mono Z.o.size);exact ⟨(HRD.o w al).1,aa (ag hb ak.o) 0 _ rfl,al⟩
 refine GrowN.au 13 [none,none,none,none,none,none,some (.inr λ_ v w=>∃ a c,v=.tuple #[.agg #[.int .i64 m.kind,.int .i64 m.queue,.int .i64 m.due,.int .i64 m.retry,.int .i64 m.ref,.int .i64 m.born,.string (S m.topic),.string (S m.tag),.string (S m.body),.slice a m.keys.length c],.int .i64 0]/\Strs w a (m.keys.map S)),some (.inr λ_ v w=>∃ a c,v=.tuple #[.agg #[.int .i64 m.kind,.int .i64 m.queue,.int .i64 m.due,.int .i64 m.retry,.int .i64 m.ref,.int .i64 m.born,.string (S m.topic),.string (S m.tag),.string (S m.body),.slice a m.keys.length c],.int .i64 0]/\Strs w a (m.keys.map S)),some (.inr λ_ v w=>∃ a c,v=.agg #[.int .i64 m.kind,.int .i64 m.queue,.int .i64 m.due,.int .i64 m.retry,.int .i64 m.ref,.int .i64 m.born,.string (S m.topic),.string (S m.tag),.string (S m.body),.slice a m.keys.length c]/\Strs w a (m.keys.map S)),some (.inl (.int .i64 0)),some (.inr λ_ v w=>∃ g,v=.pointer (some ⟨g,0,none⟩)/\MadeM (w3.heap.size) m g w),some (.inr λl v w=>∃ g,l.head?=some (some (.pointer (some ⟨g,0,none⟩)))/\w3.heap.size<=g/\acn m g w),none] (ReadG w3.heap.size m) (by kernel_rfl) (by kernel_rfl) (by kernel_rfl) (ReadG.refl _ _) (λ_ _ _=>ReadG.trans) ?_ ?_
 ·
  intro K hK Y hY l v w w' hR h;simp only [List.mem_cons,List.not_mem_nil,or_false] at hK
  rcases hK with rfl | rfl | rfl | rfl | rfl | rfl | rfl | rfl | rfl | rfl | rfl | rfl | rfl <;> simp only [reduceCtorEq,Option.some.injEq,Sum.inr.injEq] at hY
  iterate 3
   . subst hY; obtain ⟨a,c,e,F⟩:=h; exact ⟨a,c,e,hR.strs a F⟩
  . subst hY; obtain ⟨g,e,O⟩:=h; exact ⟨g,e,O.keep hR⟩
  . subst hY; obtain ⟨g,e,O,hf⟩:=h; exact ⟨g,e,O,hR.full g O hf⟩
 simp only [List.take_succ_cons,List.take_zero,List.drop_succ_cons,List.drop_zero]
 iterate 6
  refine GrowN.g_det rfl ?_;apply Exists.intro;refine ⟨λw B A=>?_,?_⟩
  . clear A
    obtain ⟨c0,p0,J⟩:=HK.o w B;go_simp;exact ⟨rfl,ReadG.refl _ _ _⟩
  go_frame
 refine GrowN.g_new rfl (λw B A=>?_) (λv6=>?_)
 ·
  clear A;obtain ⟨c0,p0,J⟩:=HK.o w B;have b3:=zq (HRD.o w J).2;have ba:=B.size;clear c0 p0 J;go_simp;exact b3.o.mono λe w3 ⟨a,c,h1,h2,h3⟩=>⟨_,h1,⟨a,⟨c,rfl⟩,h2⟩,ReadG.of_below h3 ba⟩
 go_frame;refine GrowN.g_new rfl (λw B A=>?_) (λv7=>?_)
 ·
  skip
  obtain ⟨a,c,rfl,F⟩:=A _ (.head _) (by kernel_rfl);clear A;have I:=zq F;clear F;go_simp
  first | exact ⟨⟨a,⟨c,rfl⟩,I.o⟩,ReadG.refl _ _ _⟩ | exact ⟨⟨a,c,rfl,I.o⟩,ReadG.refl _ _ _⟩
 go_frame;refine GrowN.g_new rfl (λw B A=>?_) (λv8=>?_)
 ·
  skip
  obtain ⟨a,c,rfl,F⟩:=A _ (.head _) (by kernel_rfl);clear A;have I:=zq F;clear F;go_simp
  first | exact ⟨⟨a,⟨c,rfl⟩,I.o⟩,ReadG.refl _ _ _⟩ | exact ⟨⟨a,c,rfl,I.o⟩,ReadG.refl _ _ _⟩
 go_frame;refine GrowN.g_con rfl (λw B A=>?_) ?_
 ·
  skip
  obtain ⟨a,c,rfl,F⟩:=A _ (.tail _ (.head _)) (by kernel_rfl);clear A F;go_simp
  first | exact ReadG.refl _ _ _ | exact ⟨rfl,ReadG.refl _ _ _⟩
 go_frame;refine GrowN.g_new rfl (λw B A=>?_) (λv10=>?_)
 . clear A
   go_simp;exact ⟨⟨_,rfl,B.size,.inl (heap_alloc_new w _)⟩,ReadG.of_below ((Below.refl _ w).alloc (Nat.le_refl _) _) B.size⟩
 go_frame;refine GrowN.g_new rfl (λw B A=>?_) (λv11=>?_)
 ·
  skip
  obtain ⟨g,rfl,hG⟩:=A _ (.head _) (by kernel_rfl);obtain ⟨a,c,rfl,F⟩:=A _ (.tail _ (.head _)) (by kernel_rfl);clear A;obtain ⟨c0,c1,c2,c3,c4,c5,c6,c7,c8,c9,hc⟩:=hG.cells;have z0:=aa hc 0 _ rfl;have z1:=aa hc 1 _ rfl;have z2:=aa hc 2 _ rfl;have z3:=aa hc 3 _ rfl;have z4:=aa hc 4 _ rfl;have z5:=aa hc 5 _ rfl;have z6:=aa hc 6 _ rfl;have z7:=aa hc 7 _ rfl;have z8:=aa hc 8 _ rfl;have z9:=aa hc 9 _ rfl;have f0:=ae hc 0;have f1:=ae hc 1;have f2:=ae hc 2;have f3:=ae hc 3;have f4:=ae hc 4;have f5:=ae hc 5;have f6:=ae hc 6;have f7:=ae hc 7;have f8:=ae hc 8;have f9:=ae hc 9;have ab:=zq (hG.store bz.o a c F);have bb:=zq hG.1;clear hc F hG;go_simp;exact ⟨⟨g,rfl,bb.o,ab.o.2⟩,ab.o.1⟩
 go_frame;refine GrowN.g_det rfl ?_;apply Exists.intro;refine ⟨λw B A=>?_,?_⟩
 . clear A
   go_simp;exact ⟨rfl,ReadG.refl _ _ _⟩
 go_frame;refine GrowN.g_nil λw4 B A=>?_
 obtain ⟨g,hl,O,a1,q1,E,R⟩:=A _ (.head _);obtain ⟨g2,hv,_⟩:=A _ (.tail _ (.head _));clear A;subst hv;replace hl:(some (some (Value.pointer (some ⟨g2,0,none⟩))):Option (Option Value))=some (some (.pointer (some ⟨g,0,none⟩))):=hl;obtain rfl:g2=g:=by simpa using hl
 clear hl;have bc:=zq (N.o w4 B);have bm:=zq E;have bo:=zq R;have bp:=zq (ag bc.o ak.o);have M:=zq (Z.o.trans (bc.o.mono Z.o.size));clear B E R O N HK bc ak Z HRD;go_upto_region 10 with fail
 have N:Zq (∀ w,ReadG w4.heap.size n w4.drew w->Below w4.heap.size w4 w):=λw B=>((Below.refl _ w4).drew).trans B.below
 have HK:Zq (∀ w,ReadG w4.heap.size n w4.drew w->(w.cell? ⟨g2,0,none⟩=some (.int .i64 m.kind)/\w.cell? ⟨g2,1,none⟩=some (.int .i64 m.queue)/\w.cell? ⟨g2,2,none⟩=some (.int .i64 m.due)/\w.cell? ⟨g2,3,none⟩=some (.int .i64 m.retry)/\w.cell? ⟨g2,4,none⟩=some (.int .i64 m.ref)/\w.cell? ⟨g2,5,none⟩=some (.int .i64 m.born)/\w.cell? ⟨g2,6,none⟩=some (.string (S m.topic))/\w.cell? ⟨g2,7,none⟩=some (.string (S m.tag))/\w.cell? ⟨g2,8,none⟩=some (.string (S m.body))/\w.cell? ⟨g2,9,none⟩=some (.slice a1 m.keys.length q1))/\w.cell? ⟨PB,0,none⟩=some (.int .i64 idn)/\Below W.heap.size W w/\Strs w a1 (m.keys.map S)):=λw B=>by
  have hb:=N.o w B;have al:=M.o.trans (hb.mono M.o.size);have hh:=ag hb bm.o;exact ⟨⟨aa hh 0 _ rfl,aa hh 1 _ rfl,aa hh 2 _ rfl,aa hh 3 _ rfl,aa hh 4 _ rfl,aa hh 5 _ rfl,aa hh 6 _ rfl,aa hh 7 _ rfl,aa hh 8 _ rfl,aa hh 9 _ rfl⟩,aa (ag hb bp.o) 0 _ rfl,al,Strs.below bo.o hb⟩
 refine GrowN.au 13 [none,none,none,none,none,some (.inl (.int .i64 now)),some (.inr λ_ v w=>∃ a c,v=.tuple #[.agg #[.int .i64 n.kind,.int .i64 n.queue,.int .i64 n.due,.int .i64 n.retry,.int .i64 n.ref,.int .i64 n.born,.string (S n.topic),.string (S n.tag),.string (S n.body),.slice a n.keys.length c],.int .i64 0]/\Strs w a (n.keys.map S)),some (.inr λ_ v w=>∃ a c,v=.tuple #[.agg #[.int .i64 n.kind,.int .i64 n.queue,.int .i64 n.due,.int .i64 n.retry,.int .i64 n.ref,.int .i64 n.born,.string (S n.topic),.string (S n.tag),.string (S n.body),.slice a n.keys.length c],.int .i64 0]/\Strs w a (n.keys.map S)),some (.inr λ_ v w=>∃ a c,v=.agg #[.int .i64 n.kind,.int .i64 n.queue,.int .i64 n.due,.int .i64 n.retry,.int .i64 n.ref,.int .i64 n.born,.string (S n.topic),.string (S n.tag),.string (S n.body),.slice a n.keys.length c]/\Strs w a (n.keys.map S)),some (.inl (.int .i64 0)),some (.inr λ_ v w=>∃ g,v=.pointer (some ⟨g,0,none⟩)/\MadeM (w4.heap.size) n g w),some (.inr λl v w=>∃ g,l.head?=some (some (.pointer (some ⟨g,0,none⟩)))/\w4.heap.size<=g/\acn n g w),none] (ReadG w4.heap.size n) (by kernel_rfl) (by kernel_rfl) (by kernel_rfl) (ReadG.refl _ _) (λ_ _ _=>ReadG.trans) ?_ ?_
 ·
  intro K hK Y hY l v w w' hR h;simp only [List.mem_cons,List.not_mem_nil,or_false] at hK
  rcases hK with rfl | rfl | rfl | rfl | rfl | rfl | rfl | rfl | rfl | rfl | rfl | rfl | rfl <;> simp only [reduceCtorEq,Option.some.injEq,Sum.inr.injEq] at hY
  iterate 3
   . subst hY; obtain ⟨a,c,e,F⟩:=h; exact ⟨a,c,e,hR.strs a F⟩
  . subst hY; obtain ⟨g,e,O⟩:=h; exact ⟨g,e,O.keep hR⟩
  . subst hY; obtain ⟨g,e,O,hf⟩:=h; exact ⟨g,e,O,hR.full g O hf⟩
 simp only [List.take_succ_cons,List.take_zero,List.drop_succ_cons,List.drop_zero]
 iterate 5
  refine GrowN.g_det rfl ?_;apply Exists.intro;refine ⟨λw B A=>?_,?_⟩
  . clear A
    obtain ⟨⟨c0,c1,c2,c3,c4,c5,c6,c7,c8,c9⟩,p0,J,ac⟩:=HK.o w B;go_simp;exact ⟨rfl,ReadG.refl _ _ _⟩
  go_frame
 refine GrowN.g_con rfl (λw B A=>?_) ?_
 ·
  clear A;obtain ⟨_,_,J,_⟩:=HK.o w B;have b8:=zq (HNO.o w J);go_simp;exact b8.o.mono λe w3 h=>⟨_,h.1,rfl,h.2 ▸ ReadG.refl _ _ _⟩
 go_frame;refine GrowN.g_new rfl (λw B A=>?_) (λv6=>?_)
 ·
  clear A;obtain ⟨_,_,J,ac⟩:=HK.o w B;have b9:=zq (HAG.o w a1 q1 J ac);have ba:=B.size;clear J ac;go_simp;exact b9.o.mono λe w3 ⟨a,c,h1,h2,h3⟩=>⟨_,h1,⟨a,⟨c,rfl⟩,h2⟩,ReadG.of_below h3 ba⟩
 go_frame;refine GrowN.g_new rfl (λw B A=>?_) (λv7=>?_)
 ·
  skip
  obtain ⟨a,c,rfl,F⟩:=A _ (.head _) (by kernel_rfl);clear A;have I:=zq F;clear F;go_simp
  first | exact ⟨⟨a,⟨c,rfl⟩,I.o⟩,ReadG.refl _ _ _⟩ | exact ⟨⟨a,c,rfl,I.o⟩,ReadG.refl _ _ _⟩
 go_frame;refine GrowN.g_new rfl (λw B A=>?_) (λv8=>?_)
 ·
  skip
  obtain ⟨a,c,rfl,F⟩:=A _ (.head _) (by kernel_rfl);clear A;have I:=zq F;clear F;go_simp
  first | exact ⟨⟨a,⟨c,rfl⟩,I.o⟩,ReadG.refl _ _ _⟩ | exact ⟨⟨a,c,rfl,I.o⟩,ReadG.refl _ _ _⟩
 go_frame;refine GrowN.g_con rfl (λw B A=>?_) ?_
 ·
  skip
  obtain ⟨a,c,rfl,F⟩:=A _ (.tail _ (.head _)) (by kernel_rfl);clear A F;go_simp
  first | exact ReadG.refl _ _ _ | exact ⟨rfl,ReadG.refl _ _ _⟩
 go_frame;refine GrowN.g_new rfl (λw B A=>?_) (λv10=>?_)
 . clear A
   go_simp;exact ⟨⟨_,rfl,B.size,.inl (heap_alloc_new w _)⟩,ReadG.of_below ((Below.refl _ w).alloc (Nat.le_refl _) _) B.size⟩
 go_frame;refine GrowN.g_new rfl (λw B A=>?_) (λv11=>?_)
 ·
  skip
  obtain ⟨g,rfl,hG⟩:=A _ (.head _) (by kernel_rfl);obtain ⟨a,c,rfl,F⟩:=A _ (.tail _ (.head _)) (by kernel_rfl);clear A;obtain ⟨c0,c1,c2,c3,c4,c5,c6,c7,c8,c9,hc⟩:=hG.cells;have z0:=aa hc 0 _ rfl;have z1:=aa hc 1 _ rfl;have z2:=aa hc 2 _ rfl;have z3:=aa hc 3 _ rfl;have z4:=aa hc 4 _ rfl;have z5:=aa hc 5 _ rfl;have z6:=aa hc 6 _ rfl;have z7:=aa hc 7 _ rfl;have z8:=aa hc 8 _ rfl;have z9:=aa hc 9 _ rfl;have f0:=ae hc 0;have f1:=ae hc 1;have f2:=ae hc 2;have f3:=ae hc 3;have f4:=ae hc 4;have f5:=ae hc 5;have f6:=ae hc 6;have f7:=ae hc 7;have f8:=ae hc 8;have f9:=ae hc 9;have ab:=zq (hG.store b0.o a c F);have bb:=zq hG.1;clear hc F hG;go_simp;exact ⟨⟨g,rfl,bb.o,ab.o.2⟩,ab.o.1⟩
 go_frame;refine GrowN.g_det rfl ?_;apply Exists.intro;refine ⟨λw B A=>?_,?_⟩
 . clear A
   go_simp;exact ⟨rfl,ReadG.refl _ _ _⟩
 go_frame;refine GrowN.g_nil λU B A=>?_
 obtain ⟨g,hl,O,a2,q2,E,R⟩:=A _ (.head _);obtain ⟨g3,hv,_⟩:=A _ (.tail _ (.head _));clear A;subst hv;replace hl:(some (some (Value.pointer (some ⟨g3,0,none⟩))):Option (Option Value))=some (some (.pointer (some ⟨g,0,none⟩))):=hl;obtain rfl:g3=g:=by simpa using hl
 clear hl;have br:=zq (N.o U B);have cp:=zq R;have av:=zq (M.o.trans (br.o.mono M.o.size));have bs:=zq (HPU.o U a2 q2 av.o R);have n0:U.cell? ⟨g3,0,none⟩=_:=aa E 0 _ rfl;have n1:U.cell? ⟨g3,1,none⟩=_:=aa E 1 _ rfl;have n2:U.cell? ⟨g3,2,none⟩=_:=aa E 2 _ rfl;have n3:U.cell? ⟨g3,3,none⟩=_:=aa E 3 _ rfl;have n4:U.cell? ⟨g3,4,none⟩=_:=aa E 4 _ rfl;have n5:U.cell? ⟨g3,5,none⟩=_:=aa E 5 _ rfl;have n6:U.cell? ⟨g3,6,none⟩=_:=aa E 6 _ rfl;have n7:U.cell? ⟨g3,7,none⟩=_:=aa E 7 _ rfl;have n8:U.cell? ⟨g3,8,none⟩=_:=aa E 8 _ rfl;have n9:U.cell? ⟨g3,9,none⟩=_:=aa E 9 _ rfl;clear B E R O N HK br bp M bm bo HNO HAG HPU;go_wp2_with fail;refine bs.o.mono ?_;rintro e w6 ⟨rfl,hq⟩;have HQ:=zq hq;clear hq bs n0 n1 n2 n3 n4 n5 n6 n7 n8 n9;go_wp2_with fail;go_ret2;exact ⟨rfl,U,av.o,HQ.o⟩
theorem aqr {g:List UInt8} (hg:iq g=true):ofL (iy++g)=g:=by
 unfold ofL;have h1:(iy++g).drop 7=g:=rfl;have A:Lib.hasPrefix (iy++g) iy=true:=by simp [Lib.hasPrefix,iy]
 rw [h1,A,hg];rfl
theorem adk {x:ib} {b:Int} (h:bn (jh x 1 0 b)=true):bu (jh x 1 0 b)=true:=by
 unfold bn at h
 split at h
 . cases h
 . first
   | exact (Bool.and_eq_true_iff.1 (Bool.and_eq_true_iff.1 h).1).1
   | (rw [if_pos rfl] at h; exact (Bool.and_eq_true_iff.1 (Bool.and_eq_true_iff.1 h).1).1)
theorem aaz {x:ib} {b now:Int} {idn:Nat} {g:List UInt8} (hg:iq g=true) (hr:bn (jh x 1 0 b)=true) (hid:idn<=99999999) (hn:0<=now/\now<=1000000):bn (kg x idn now g)=true:=by
 have hc:=adk hr
 have A:bu (kg x idn now g)=true:=by
  unfold bu at hc ⊢;simp only [Bool.and_eq_true,decide_eq_true_eq] at hc ⊢;obtain ⟨⟨⟨⟨⟨⟨⟨⟨⟨N,a2⟩,a3⟩,a4⟩,a5⟩,B⟩,E⟩,F⟩,a9⟩,I⟩:=hc;refine ⟨⟨⟨⟨⟨⟨⟨⟨⟨?_,?_⟩,?_⟩,?_⟩,?_⟩,B⟩,E⟩,F⟩,a9⟩,I⟩
  . show j6 (iy++g)=true
    unfold j6;rw [aqr hg,ad5 g hg];simp
  . show (0:Int)<=0; decide
  . show (0:Int) < 3; decide
  . show (0:Int)<=1; decide
  . show (1:Int)<=4; decide
 have h1:gp (kg x idn now g).due=false:=by show gp (now+2)=false; unfold gp; simp; omega
 have J:gp (kg x idn now g).ref=false:=by show gp (idn:Int)=false; unfold gp; simp; omega
 have M:gp (kg x idn now g).born=false:=by show gp now=false; unfold gp; simp; omega
 unfold bn;rw [h1,J,M,A];rfl
theorem aqs {x:ib} (hx:su x) {now:Int} {idn:Nat} {g:List UInt8} (hgl:g.length<=100) (hid:idn<=99999999) (hn:0<=now/\now<=1000000):vv (kg x idn now g) :=
 ⟨by show inI 2; unfold inI; decide,acy,by show inI (now+2); unfold inI; omega,by show inI 1; unfold inI; decide,by show inI (idn:Int); unfold inI; omega,by show inI now; unfold inI; omega,by show (iy++g).length<=1073741824; rw [List.length_append]; show 7+g.length<=_; omega,hx.tag,hx.body,hx.keys,hx.key⟩
theorem alp {x:ib} {b:Int} (hr:bn (jh x 1 0 b)=true):∀ t∈x.keys,t≠[]:=by
 have hc:=adk hr;unfold bu at hc;simp only [Bool.and_eq_true,decide_eq_true_eq,List.all_eq_true] at hc;obtain ⟨⟨⟨⟨⟨⟨⟨⟨⟨E,a2⟩,a3⟩,a4⟩,a5⟩,F⟩,I⟩,A⟩,a9⟩,J⟩:=hc;intro t B e;have:=A t B;rw [e] at this;exact absurd this (by decide)
theorem alq {base:Nat} {S0:StoD} {X:TabD} {C:CqD} {D:DiskD} {Y:KxD} {l:List (Nat×Msg)} {mk:Nat} (g t:List UInt8) (q i:Nat) (hi:i < l.length) (x:ib) (b:Int) (sy:Bool) (hm:l[i].2=jh x 1 0 b) (hx:su x) (hb:inI b) (hr:bn (jh x 1 0 b)=true) (hgl:g.length<=100) (htl:t.length<=100) (hg:iq g=true) (W:World)
 (h:StoTab base W S0 X) (hl:X.l.length<=1000) (hd:DisI base W C D Y l mk) (hcq:S0.cq=.pointer (some ⟨C.blk,0,none⟩)) (hmem:l[i]∈S0.T.O.recs) (hT:TabB base W) (hbase:base<=W.heap.size) (hq:Quiet S0.T.D) (hbar:lm X.l g t (q:Int)=0) (hisq:isQ t (q:Int) l[i]=true) (hll:l.length<=100000) (hid:l[i].1<=99999999) (hn:0<=S0.now/\S0.now<=1000000)
 (hroom:(((bv S0.T.R.e (kg x l[i].1 S0.now g)).length+(bg (kg x l[i].1 S0.now g)).length:Nat):Int)<=S0.T.D.room) (hwl:S0.T.D.waits.length<=1000000) (hfar:S0.T.R.e<=80000000) (hrl:S0.T.O.recs.length<=1000000) :
 Calls Tryz.prog 14 #[.pointer (some ⟨S0.blk,0,none⟩),.string (S g),.string (S t),.int .i64 (q:Int),.int .i64 ((gq t (q:Int) (l.take i):Nat):Int),.bool sy] W λe w'=>e=.returned (.tuple #[.int .i64 ((S0.T.R.e+(bv S0.T.R.e (kg x l[i].1 S0.now g)).length:Nat):Int),.int .i64 0]) /\
  ∃ S1,StoTab base w' S1 X/\Put W.heap.size S0 S1 (kg x l[i].1 S0.now g) sy/\Mod S0.foot W w':=by
 have E:(l[i].1,jh x 1 0 b)∈S0.T.O.recs:=by rw [<- hm]; exact hmem
 have I:=alp hr
 refine (an3 S0.blk C.blk S0.T.O.blk (S g) (S t) (q:Int) ((gq t (q:Int) (l.take i):Nat):Int) S0.now (l[i].1:Int) (((bg l[i].2).length:Nat):Int) ((mq [l[i].2.tag]:Nat):Int) ((l[i].2.born.toNat:Nat):Int) ((S0.T.R.e+(bv S0.T.R.e (kg x l[i].1 S0.now g)).length:Nat):Int) (jh x 1 0 b) (kg x l[i].1 S0.now g) sy I I W
  (λw w'=>∃ S1,StoAt base w' S1/\Put w.heap.size S0 S1 (kg x l[i].1 S0.now g) sy/\Mod S0.foot w w') (zq ?_) (zq λw A=>⟨?_,?_⟩) (zq λw A=>⟨?_,?_⟩) (zq λw A=>?_) (zq λw a c A M=>?_) (zq λw a c A M=>?_)).mono ?_
 . have:=bars_any g t (q:Int) (by omega) (by omega) W h hl
   rw [hbar] at this;exact this
 . have h1:w.cell? ⟨S0.blk,1,none⟩=some S0.cq:=(h.sto.below A).cell 1 _ rfl
   rw [hcq] at h1;exact h1
 . exact aqk t q i w (hd.below A) (hT.below A) hi hll hisq
 . exact (h.sto.below A).cell 0 _ rfl
 . exact (yw l[i].1 (jh x 1 0 b) w (h.sto.below A).tape hq.up (hT.below A) (Nat.le_trans hbase A.size) E).mono λe w' ⟨a,c,h1,Z,h3,_⟩=>⟨a,c,h1,Z,h3⟩
 . exact alf w (h.sto.below A)
 . exact anp x hx b S0.now l[i].1 g hg hgl hr hid hn hb a c w M
 . exact put_ok (kg x l[i].1 S0.now g) sy (aqs hx hgl hid hn) (aaz hg hr hid hn) (by show (2:Int)≠0; decide) a c w (h.sto.below A) M hq (hT.below A) (Nat.le_trans hbase A.size) hroom hwl hfar hrl
 . rintro e w' ⟨rfl,w3,F,S1,N,B,J⟩
   have U:StoTab base w3 S0 X:=h.below F;exact ⟨rfl,S1,StoTab.put U N B J (Nat.le_refl _),Put.mono B F.size,(Mod.of_below F).trans J⟩
theorem aqt {base:Nat} {S0:StoD} {X:TabD} {C:CqD} {D:DiskD} {Y:KxD} {l:List (Nat×Msg)} {mk:Nat} (g t:List UInt8) (q p:Int) (sy:Bool) (hgl:g.length<=100) (htl:t.length<=100) (W:World)
 (h:StoTab base W S0 X) (hl:X.l.length<=1000) (hd:DisI base W C D Y l mk) (hcq:S0.cq=.pointer (some ⟨C.blk,0,none⟩)) (hbar:lm X.l g t q=0) (hp:p < 0\/(gq t q l:Int)<=p) :
 Calls Tryz.prog 14 #[.pointer (some ⟨S0.blk,0,none⟩),.string (S g),.string (S t),.int .i64 q,.int .i64 p,.bool sy] W λe w'=>e=.returned (.tuple #[.int .i64 0,.int .i64 2])/\Below W.heap.size W w':=by
 have N:=zq (bars_any g t q (by omega) (by omega) W h hl);rw [hbar] at N
 have I:Zq (∀ w,Below W.heap.size W w->w.cell? ⟨S0.blk,1,none⟩=some (.pointer (some ⟨C.blk,0,none⟩))/\Calls Tryz.prog 15 #[.pointer (some ⟨C.blk,0,none⟩),.string (S t),.int .i64 q,.int .i64 p] w λe w'=>e=.returned (.tuple #[.agg #[.int .i64 0,.int .i64 0,.int .i64 0,.int .i64 0],.int .i64 2])/\Below w.heap.size w w'):=λw R=>⟨by
  have h1:w.cell? ⟨S0.blk,1,none⟩=some S0.cq:=(h.sto.below R).cell 1 _ rfl;rw [hcq] at h1;exact h1,asr t q p w (hd.below R) hp⟩
 clear h hl hd hcq hbar hp hgl htl;generalize S g=sg at *
 generalize S t=st at *
 go_enter Tryz.func14,Tryz.ntmps14;go_wp2_with fail;refine N.o.mono ?_;rintro e w1 ⟨rfl,E⟩;have F:=zq E;obtain ⟨k1,J⟩:=I.o w1 E;have B:=zq J;clear E J N I;go_wp2_with fail;refine B.o.mono ?_;rintro e w2 ⟨rfl,M⟩;have A:=F.o.trans (M.mono F.o.size);have O:=zq (A.alloc (o:=.cells #[.int .i64 0,.int .i64 0,.int .i64 0,.int .i64 0] 61) A.size);clear M A B k1 F;go_wp2_with fail;go_ret2;exact ⟨rfl,O.o⟩
theorem an4 {base:Nat} {S0:StoD} {X:TabD} {C:CqD} {D:DiskD} {Y:KxD} {l:List (Nat×Msg)} {mk:Nat} (g t:List UInt8) (q:Int) (a:Option Addr) (cp:Nat) (xs:List Int) (hx:xs.length<=1000) (hgl:g.length<=100) (htl:t.length<=100) (W:World) (hxs:OctW.Ints W a xs)
 (h:StoTab base W S0 X) (hl:X.l.length<=1000) (hd:DisI base W C D Y l mk) (hcq:S0.cq=.pointer (some ⟨C.blk,0,none⟩)) (hbar:lm X.l g t q=0) (hbad:xs.any (ny ((gq t q l:Nat):Int))=true) :
 Calls Tryz.prog 17 #[.pointer (some ⟨S0.blk,0,none⟩),.string (S g),.string (S t),.int .i64 q,.slice a xs.length cp] W λe w'=>e=.returned (.int .i64 2)/\Below W.heap.size W w':=by
 have HB:=zq (bars_any g t q (by omega) (by omega) W h hl);rw [hbar] at HB
 have M:Zq (∀ w,Below W.heap.size W w->w.cell? ⟨S0.blk,1,none⟩=some (.pointer (some ⟨C.blk,0,none⟩))/\Calls Tryz.prog 10 #[.pointer (some ⟨C.blk,0,none⟩),.string (S t),.int .i64 q] w λe w'=>e=.returned (.int .i64 ((gq t q l:Nat):Int))/\Below w.heap.size w w'):=λw N=>⟨by
  have h1:w.cell? ⟨S0.blk,1,none⟩=some S0.cq:=(h.sto.below N).cell 1 _ rfl;rw [hcq] at h1;exact h1,acm t q w (hd.below N)⟩
 have E:Zq (∀ (z:Nat) (w:World),Below W.heap.size W w->True/\Calls Tryz.prog 42 #[.slice a xs.length cp,.func (.func 43) #[] #[.pointer (some ⟨w.heap.size,0,none⟩)]] (w.alloc (.cells #[.int .i64 ((gq t q l:Nat):Int)] 3)) λe w'=>e=.returned (.bool (xs.any (ny ((gq t q l:Nat):Int))))/\Below (w.alloc (.cells #[.int .i64 ((gq t q l:Nat):Int)] 3)).heap.size (w.alloc (.cells #[.int .i64 ((gq t q l:Nat):Int)] 3)) w'):=λz w N =>
  ⟨trivial,abx a cp xs (by omega) w.heap.size _ _ (hxs.below (N.trans ((Below.refl _ w).alloc N.size _))) (by rw [World.cell?_alloc_new]; rfl)⟩
 rw [hbad] at E;clear h hl hd hcq hbar hgl htl hxs hbad;generalize S g=sg at *
 generalize S t=st at *
 generalize ((gq t q l:Nat):Int)=nx at *
 go_enter Tryz.func17,Tryz.ntmps17;go_wp2_with fail;refine HB.o.mono ?_;rintro e w1 ⟨rfl,F⟩;have I:=zq F;obtain ⟨k1,O⟩:=M.o w1 F;have B:=zq O;clear F O HB M;go_wp2_with fail;refine B.o.mono ?_;rintro e w2 ⟨rfl,R⟩;have A:=I.o.trans (R.mono I.o.size);have J:=zq (A.alloc (o:=.cells #[.int .i64 nx] 3) A.size);have U:=zq (E.o W.heap.size w2 A);have Z:=zq (U.o.2);clear R A B k1 I E U;go_wp2_with fail;refine Z.o.mono ?_;rintro e w3 ⟨rfl,ab⟩;have ad:=zq (J.o.trans (ab.mono J.o.size));clear ab Z J;go_wp2_with fail;go_ret;exact ⟨rfl,ad.o⟩
theorem aqu {base:Nat} {S0:StoD} {X:TabD} {C:CqD} {D:DiskD} {Y:KxD} {l:List (Nat×Msg)} {mk:Nat} (g t:List UInt8) (q:Int) (a:Option Addr) (cp:Nat) (xs:List Int) (hx:xs.length<=1000) (hgl:g.length<=100) (htl:t.length<=100) (W:World) (hxs:OctW.Ints W a xs)
 (h:StoTab base W S0 X) (hl:X.l.length<=1000) (hd:DisI base W C D Y l mk) (hcq:S0.cq=.pointer (some ⟨C.blk,0,none⟩)) (hbar:lm X.l g t q=0) (hbad:xs.any (ny ((gq t q l:Nat):Int))=false) (h0:xs.length=0) :
 Calls Tryz.prog 17 #[.pointer (some ⟨S0.blk,0,none⟩),.string (S g),.string (S t),.int .i64 q,.slice a xs.length cp] W λe w'=>e=.returned (.int .i64 0)/\Below W.heap.size W w':=by
 have HB:=zq (bars_any g t q (by omega) (by omega) W h hl);rw [hbar] at HB
 have M:Zq (∀ w,Below W.heap.size W w->w.cell? ⟨S0.blk,1,none⟩=some (.pointer (some ⟨C.blk,0,none⟩))/\Calls Tryz.prog 10 #[.pointer (some ⟨C.blk,0,none⟩),.string (S t),.int .i64 q] w λe w'=>e=.returned (.int .i64 ((gq t q l:Nat):Int))/\Below w.heap.size w w'):=λw N=>⟨by
  have h1:w.cell? ⟨S0.blk,1,none⟩=some S0.cq:=(h.sto.below N).cell 1 _ rfl;rw [hcq] at h1;exact h1,acm t q w (hd.below N)⟩
 have B:Zq (∀ (z:Nat) (w:World),Below W.heap.size W w->True/\Calls Tryz.prog 42 #[.slice a xs.length cp,.func (.func 43) #[] #[.pointer (some ⟨w.heap.size,0,none⟩)]] (w.alloc (.cells #[.int .i64 ((gq t q l:Nat):Int)] 3)) λe w'=>e=.returned (.bool (xs.any (ny ((gq t q l:Nat):Int))))/\Below (w.alloc (.cells #[.int .i64 ((gq t q l:Nat):Int)] 3)).heap.size (w.alloc (.cells #[.int .i64 ((gq t q l:Nat):Int)] 3)) w'):=λz w N =>
  ⟨trivial,abx a cp xs (by omega) w.heap.size _ _ (hxs.below (N.trans ((Below.refl _ w).alloc N.size _))) (by rw [World.cell?_alloc_new]; rfl)⟩
 rw [hbad] at B;rw [h0] at B ⊢;clear h hl hd hcq hbar hgl htl hxs hbad h0;generalize S g=sg at *
 generalize S t=st at *
 generalize ((gq t q l:Nat):Int)=nx at *
 go_enter Tryz.func17,Tryz.ntmps17;go_wp2_with fail;refine HB.o.mono ?_;rintro e w1 ⟨rfl,F⟩;have I:=zq F;obtain ⟨k1,O⟩:=M.o w1 F;have E:=zq O;clear F O HB M;go_wp2_with fail;refine E.o.mono ?_;rintro e w2 ⟨rfl,R⟩;have A:=I.o.trans (R.mono I.o.size);have J:=zq (A.alloc (o:=.cells #[.int .i64 nx] 3) A.size);have U:=zq (B.o W.heap.size w2 A);have Z:=zq (U.o.2);clear R A E k1 I B U;go_wp2_with fail;refine Z.o.mono ?_;rintro e w3 ⟨rfl,ab⟩;have ad:=zq (J.o.trans (ab.mono J.o.size));clear ab Z J;go_wp2_with fail;go_ret;exact ⟨rfl,ad.o⟩
theorem at0 {base:Nat} {S0:StoD} {X:TabD} {C:CqD} {D:DiskD} {Y:KxD} {l:List (Nat×Msg)} {mk:Nat} (g t:List UInt8) (q:Int) (a:Option Addr) (cp:Nat) (xs:List Int) (hx:xs.length<=1000) (hgl:g.length<=100) (htl:t.length<=100) (W:World) (hxs:OctW.Ints W a xs)
 (h:StoTab base W S0 X) (hl:X.l.length<=1000) (hd:DisI base W C D Y l mk) (hcq:S0.cq=.pointer (some ⟨C.blk,0,none⟩)) (hbar:lm X.l g t q=0) (hbad:xs.any (ny ((gq t q l:Nat):Int))=false) (h0:0 < xs.length) (hg:iq g=true) (ht:j6 t=true) (hq:0<=q/\q < 3) (hmp:0<=kv xs/\kv xs<=100000) (ob:Nat) (d:Value) (hof:S0.off=.pointer (some ⟨ob,0,none⟩)) (ho:W.heap[ob]?=some (.cells #[d,.slice none 0 0] 117 (0,0))) :
 Calls Tryz.prog 17 #[.pointer (some ⟨S0.blk,0,none⟩),.string (S g),.string (S t),.int .i64 q,.slice a xs.length cp] W λe w'=>e=.returned (.int .i64 0)/\∃ R cap,w'.heap[ob]?=some (.cells #[d,.slice (some ⟨R,0,none⟩) 1 cap] 117 (0,0)) /\
  (w'.cell? ⟨R,0,none⟩=some (.string (S g))/\w'.cell? ⟨R,1,none⟩=some (.string (S t))/\w'.cell? ⟨R,2,none⟩=some (.int .i64 q)/\w'.cell? ⟨R,3,none⟩=some (.int .i64 (kv xs+1)))/\Mod (λk=>k=ob) W w'/\W.heap.size<=R:=by
 have HB:=zq (bars_any g t q (by omega) (by omega) W h hl);rw [hbar] at HB
 have am:Zq (∀ w,Below W.heap.size W w->w.cell? ⟨S0.blk,1,none⟩=some (.pointer (some ⟨C.blk,0,none⟩))/\Calls Tryz.prog 10 #[.pointer (some ⟨C.blk,0,none⟩),.string (S t),.int .i64 q] w λe w'=>e=.returned (.int .i64 ((gq t q l:Nat):Int))/\Below w.heap.size w w'):=λw A=>⟨by
  have h1:w.cell? ⟨S0.blk,1,none⟩=some S0.cq:=(h.sto.below A).cell 1 _ rfl;rw [hcq] at h1;exact h1,acm t q w (hd.below A)⟩
 have ab:Zq (∀ (z:Nat) (w:World),Below W.heap.size W w->True/\Calls Tryz.prog 42 #[.slice a xs.length cp,.func (.func 43) #[] #[.pointer (some ⟨w.heap.size,0,none⟩)]] (w.alloc (.cells #[.int .i64 ((gq t q l:Nat):Int)] 3)) λe w'=>e=.returned (.bool (xs.any (ny ((gq t q l:Nat):Int))))/\Below (w.alloc (.cells #[.int .i64 ((gq t q l:Nat):Int)] 3)).heap.size (w.alloc (.cells #[.int .i64 ((gq t q l:Nat):Int)] 3)) w'):=λz w A =>
  ⟨trivial,abx a cp xs (by omega) w.heap.size _ _ (hxs.below (A.trans ((Below.refl _ w).alloc A.size _))) (by rw [World.cell?_alloc_new]; rfl)⟩
 rw [hbad] at ab
 have O:∀ x∈xs,0<=x:=λx bb=>by
  have h1:=List.any_eq_false.1 hbad x bb;unfold ny at h1;have h2:¬ x < 0:=λh3=>by rw [decide_eq_true h3] at h1; exact h1 rfl
  omega
 have I:Zq (∀ w,Below W.heap.size W w->w.cell? ⟨S0.blk,4,none⟩=some (.pointer (some ⟨ob,0,none⟩))/\w.heap[ob]?=some (.cells #[d,.slice none 0 0] 117 (0,0))):=λw A=>⟨by
  have h1:w.cell? ⟨S0.blk,4,none⟩=some S0.off:=(h.sto.below A).cell 4 _ rfl;rw [hof] at h1;exact h1,ag A ho⟩
 have M:Zq (∀ w,Below W.heap.size W w->Calls Tryz.prog 44 #[.slice a xs.length cp] w λe w'=>e=.returned (.int .i64 (kv xs))/\w'=w):=λw A=>aur a cp xs (by omega) h0 O w (hxs.below A)
 have an:Zq (∀ w,Below W.heap.size W w->Calls Tryz.prog 45 #[.pointer (some ⟨ob,0,none⟩),.agg #[.string (S g),.string (S t),.int .i64 q,.int .i64 (kv xs+1)]] w λe w'=>e=.returned (.int .i64 0)/\∃ R cap,w'.heap[ob]?=some (.cells #[d,.slice (some ⟨R,0,none⟩) 1 cap] 117 (0,0)) /\
  (w'.cell? ⟨R,0,none⟩=some (.string (S g))/\w'.cell? ⟨R,1,none⟩=some (.string (S t))/\w'.cell? ⟨R,2,none⟩=some (.int .i64 q)/\w'.cell? ⟨R,3,none⟩=some (.int .i64 (kv xs+1)))/\Mod (λk=>k=ob) w w'/\w.heap.size<=R):=λw A=>asj g t q (kv xs+1) hg ht hgl htl hq (by omega) ob d w (I.o w A).2
 have bc:Zq (IntKind.i64.wrap (kv xs+1)=kv xs+1):=IntWalk.i64_in _ (by omega);have bd:Zq (max (kv xs+1) 0=kv xs+1):=by show _=_; omega
 have U:¬ ((xs.length:Int)=0):=by omega
 have B:((xs.length:Int) == 0)=false:=beq_eq_false_iff_ne.2 U;have bh:=zq B;clear h hl hd hcq hbar hgl htl hxs hbad h0 hg ht hq hmp hof ho O U B;generalize S g=sg at *
 generalize S t=st at *
 generalize ((gq t q l:Nat):Int)=nx at *
 generalize kv xs=mp at *
 go_enter Tryz.func17,Tryz.ntmps17;go_wp2_with fail;refine HB.o.mono ?_;rintro e w1 ⟨rfl,ac⟩;have ad:=zq ac;obtain ⟨k1,ao⟩:=am.o w1 ac;have Z:=zq ao;clear ac ao HB am;go_wp2_with fail;refine Z.o.mono ?_;rintro e w2 ⟨rfl,ap⟩;have F:=ad.o.trans (ap.mono ad.o.size);have ak:=zq (F.alloc (o:=.cells #[.int .i64 nx] 3) F.size);have ar:=zq (ab.o W.heap.size w2 F);have av:=zq (ar.o.2);clear ap F Z k1 ad ab ar;go_wp2_with fail;refine av.o.mono ?_;rintro e w3 ⟨rfl,a1⟩;have al:=zq (ak.o.trans (a1.mono ak.o.size));clear a1 av ak;have B:=bh.o;go_upto_region 9 with fail
 clear B;have J:Zq (∀ w,RecW.ExtR w3.drew w->Below W.heap.size W w):=λw A=>al.o.trans ((((Below.refl w3.heap.size w3).drew).trans A).mono al.o.size)
 have HK:Zq (∀ w,RecW.ExtR w3.drew w->w.cell? ⟨S0.blk,4,none⟩=some (.pointer (some ⟨ob,0,none⟩))/\Calls Tryz.prog 44 #[.slice a xs.length cp] w (λe w'=>e=.returned (.int .i64 mp)/\w'=w)/\Calls Tryz.prog 18 #[.pointer (some ⟨ob,0,none⟩),.string sg,.string st,.int .i64 q] w λe w'=>e=.returned (.int .i64 0)/\Below w.heap.size w w'):=λw A =>
  ⟨(I.o w (J.o w A)).1,M.o w (J.o w A),aln sg st q ob d w (I.o w (J.o w A)).2⟩
 refine GrowN.au 13 [none,some (.inl (.int .i64 (mp))),some (.inl (.int .i64 (mp+1))),none,none,none,none,none,none,none,some (.inl (.int .i64 0)),some (.inl (.int .i64 (mp+1))),none] (RecW.ExtR) (by kernel_rfl) (by kernel_rfl) (by kernel_rfl) (RecW.ExtR.refl) (λ_ _ _=>RecW.ExtR.trans) ?_ ?_
 . exact GrowN.jy rfl
 simp only [List.take_succ_cons,List.take_zero,List.drop_succ_cons,List.drop_zero];refine GrowN.g_det rfl ?_;apply Exists.intro;refine ⟨λw A E=>?_,?_⟩
 . clear E
   go_simp;exact ⟨rfl,RecW.ExtR.refl _⟩
 go_frame;refine GrowN.g_con rfl (λw A E=>?_) ?_
 ·
  clear E;have M:=zq (HK.o w A).2.1;go_simp;exact M.o.mono λe w3 h=>⟨_,h.1,rfl,h.2 ▸ RecW.ExtR.refl _⟩
 go_frame;refine GrowN.g_con rfl (λw A E=>?_) ?_
 ·
  clear E;have b0:=bc.o;go_simp
  all_goals exact RecW.ExtR.refl _
 iterate 3
  go_frame;refine GrowN.g_det rfl ?_;apply Exists.intro;refine ⟨λw A E=>?_,?_⟩
  . clear E
    go_simp;exact ⟨rfl,RecW.ExtR.refl _⟩
 go_frame;refine GrowN.g_det rfl ?_;apply Exists.intro;refine ⟨λw A E=>?_,?_⟩
 ·
  clear E;have c4:=(HK.o w A).1;go_simp;exact ⟨rfl,RecW.ExtR.refl _⟩
 iterate 3
  go_frame;refine GrowN.g_det rfl ?_;apply Exists.intro;refine ⟨λw A E=>?_,?_⟩
  . clear E
    go_simp;exact ⟨rfl,RecW.ExtR.refl _⟩
 go_frame;refine GrowN.g_con rfl (λw A E=>?_) ?_
 ·
  clear E;have bj:=zq (HK.o w A).2.2;go_simp;exact bj.o.mono λe w3 h=>⟨_,h.1,rfl,h.2⟩
 go_frame;refine GrowN.g_con rfl (λw A E=>?_) ?_
 ·
  clear E;have b1:=bd.o;go_simp
  all_goals exact RecW.ExtR.refl _
 go_frame;refine GrowN.g_det rfl ?_;apply Exists.intro;refine ⟨λw A E=>?_,?_⟩
 . clear E
   go_simp;exact ⟨rfl,RecW.ExtR.refl _⟩
 go_frame;refine GrowN.g_nil λw5 A E=>?_
 clear E;have N:=zq (J.o w5 A);have c4:=(I.o w5 N.o).1;have a6:=zq (an.o w5 N.o);clear A J HK M an I al;go_wp2_with fail;refine a6.o.mono ?_;rintro e w6 ⟨rfl,R,cap,hh,a7,hm,hR⟩;have bl:=zq ((Mod.of_below N.o).trans hm);have bm:=zq hh;have bo:=zq a7;have bp:Zq (W.heap.size<=R):=Nat.le_trans N.o.size hR;clear hh a7 hm hR a6 c4;go_wp2_with fail;go_ret;exact ⟨rfl,R,cap,bm.o,bo.o,bl.o,bp.o⟩
end RetW
namespace StoW
open Go.RowKit Go.MapKept OctMath RecMath RecW TapeMath DskW SegW MapG TapeW PendW CacheW CqW KxW
theorem at1 {p:Nat×Msg} (h:bn p.2=true) (hk:p.2.kind=1) (hid:p.1<=99999999):af5 p:=by
 have h0:p.2.kind≠0:=by omega
 obtain ⟨J,M,F,N,O,R,U,X,Y,I,E⟩:=tu h h0
 have hc:bu p.2=true:=by
  unfold bn at h
  split at h
  . cases h
  . first
    | exact (Bool.and_eq_true_iff.1 (Bool.and_eq_true_iff.1 h).1).1
    | (rw [if_pos hk] at h; exact (Bool.and_eq_true_iff.1 (Bool.and_eq_true_iff.1 h).1).1)
 have A:NameMath.j6 p.2.topic=true/\p.2.keys.all qx=true:=by
  unfold bu at hc;simp only [Bool.and_eq_true,decide_eq_true_eq] at hc;exact ⟨hc.1.1.1.1.1.1.1.1.1,hc.1.1.2⟩
 have Z:=(xh h h0).2;refine ⟨⟨hid,by omega,F,A.1,by omega,⟨p.2.queue.toNat,by omega,by omega⟩⟩,.inl hk,λk B=>⟨List.all_eq_true.1 A.2 k B,by have:=E k B; omega⟩,by omega,by omega⟩
theorem ais:∀ (l:List (Nat×Msg)),(∀ p∈l,p.2.keys.length<=3)->oq l<=3 * l.length
 | [],_=>Nat.le_refl _
 | p :: l,h=>by
   have B:=ais l λx A=>h x (.tail _ A)
   have h1:=h p (.head _);rw [aew,List.length_cons];omega
theorem aqv {base B:Nat} {L:Nat->Prop} {S0:StoD} {C:CqD} {D:DiskD} {X:KxD} {r:Int} (w:World) (hS:StoAt base w S0) (h:DisB base B L w S0 C D X [] 0 0 r) (hT:TabB base w) (hbase:base<=w.heap.size) (hq:Quiet S0.T.D) (hl:S0.T.O.recs.length<=1000) (hk:∀ p∈S0.T.O.recs,p.2.kind=1) (hsy:S0.T.R.synced=S0.T.R.e) (he:S0.T.R.e<=99999999) (hr:100000<=r) :
 Calls Tryz.prog 9 #[.pointer (some ⟨B,0,none⟩)] w λe w'=>e=.returned (.tuple #[.int .i64 (S0.T.O.recs.length:Int),.int .i64 0])/\StoAt base w' S0/\(∃ C' D' X' E mk r',DisB base B (λk=>L k\/w.heap.size<=k) w' S0 C' D' X' S0.T.O.recs mk E r')/\Mod (λk=>lu C D X k\/k=B) w w':=by
 have hp:∀ p∈S0.T.O.recs,bn p.2=true/\p.1+(bg p.2).length<=S0.T.R.e:=λp hp=>by
  obtain ⟨g1,_,_,g4,_⟩:=wh hS.tape (id:=p.1) (m:=p.2) hp;exact ⟨g1,g4⟩
 have F:oq S0.T.O.recs<=3 * S0.T.O.recs.length:=ais _ λp A=>(tu (hp p A).1 (by have:=hk p A; omega)).2.2.2.2.2.2.2.2.2.1
 refine (asc w hS h hT hbase hq (by omega) (λp A=>⟨at1 (hp p A).1 (hk p A) (by have:=(hp p A).2; omega),by have:=(hp p A).2; have:=acd p.2; omega⟩) (by omega) (by omega)).mono ?_;rintro e w' ⟨h1,I,⟨C',D',X',E,J⟩,M⟩;exact ⟨h1,I,⟨C',D',X',E,_,_,J⟩,M⟩
end StoW
namespace RetW
open Go.RowKit Go.MapKept Go.Sort OctMath RecMath RecW DskW SegW MapG TapeW TapeMath PendW CacheW EntW NameW CqW KxW StoW TopW NameMath SndW
theorem asv {base lo lo2:Nat} {w:World} {S:StoD} {X:TabD} {r:Int} (h:DisX base lo w S X r) (hl:lo2<=lo):DisX base lo2 w S X r:=by
 obtain ⟨C,D,Y,B,h1,A,E,d,g1,g2,g3,g4⟩:=h;exact ⟨C,D,Y,B,h1.mono λk hk=>Nat.le_trans hl hk,A,E,d,g1,g2,Nat.le_trans hl g3,g4⟩
structure RetS (W w:World) (sb db ob most k:Nat) (nw:Int) (ws:List ib) (S1:StoD) (X:TabD):Prop where
 si:SentI W.heap.size W w sb db ob most k nw ws S1 X
 dx:DisX W.heap.size W.heap.size w S1 X 4194184
 syn:S1.T.R.synced=S1.T.R.e
theorem RetS.below {W w w':World} {sb db ob most k:Nat} {nw:Int} {ws:List ib} {S1:StoD} {X:TabD} (h:RetS W w sb db ob most k nw ws S1 X) (hb:Below w.heap.size w w'):RetS W w' sb db ob most k nw ws S1 X :=
 ⟨h.si.below hb h.si.low.size,h.dx.below hb,h.syn⟩
theorem RetS.next {W w w2:World} {sb db ob most k:Nat} {nw:Int} {ws:List ib} {S1 S2:StoD} {X:TabD} (h:RetS W w sb db ob most k nw ws S1 X) (hk:k < most) (hkl:k < ws.length) (hr:bn (jh ws[k] 1 0 S1.now)=true) (hs2:StoTab W.heap.size w2 S2 X) (hp2:Put w.heap.size S1 S2 (jh ws[k] 1 0 S1.now) true) (hm2:Mod S1.foot w w2):RetS W w2 sb db ob most (k+1) nw ws S2 X :=
 ⟨h.si.next hk hkl hr h.si.low.size hs2 hp2 hm2,h.dx.next (hm2.mono λk _ hk=>.inl hk) (by rw [hp2.same]) (by rw [hp2.same]) (by rw [hp2.same]) hp2.oblk (by rw [hp2.same]) hp2.foot λ_ h=>.inl h,hp2.waits.2⟩
theorem ait {W w3 w4:World} {D:DiskD} {nw used:Int} {S0:StoD} {X:TabD} (h:MadeI W.heap.size w3 w4 D nw used S0 X) (hb3:Below W.heap.size W w3) (hD:∀ k,D.foot k->W.heap.size<=k) (most:Nat) (hroom:((most * 1531:Nat):Int)<=D.room - used) (ws:List ib):RetS W w4 S0.blk D.blk S0.T.O.blk most 0 nw ws S0 X:=by
 obtain ⟨f1,E,F⟩:=h.fits;have A:Below W.heap.size W w4:=hb3.trans (h.mod.to_below _ hb3.size hD);have B:∀ k,S0.foot k->W.heap.size<=k:=λk hk=>(h.foot k hk).elim (hD k) λh=>by have:=hb3.size; omega
 exact ⟨⟨h.st,h.q,h.now,rfl,h.db,rfl,by have:=h.room; omega,by rw [F]; exact Nat.zero_le _,by rw [f1]; exact Nat.zero_le _,by rw [E]; rfl,B,A⟩,asv h.dis hb3.size,h.syn⟩
structure RetE (W w:World) (sb tb:Nat) (S1:StoD) (X:TabD) (C:CqD) (D:DiskD) (Y:KxD) (l:List (Nat×Msg)) (mk og:Nat) (dv v:Value):Prop where
 st:StoTab W.heap.size w S1 X
 d:DisI W.heap.size w C D Y l mk
 blk:S1.blk=sb
 tb:S1.T.O.blk=tb
 cq:S1.cq=.pointer (some ⟨C.blk,0,none⟩)
 ap:∀ k,S1.foot k->¬ lu C D Y k
 off:S1.off=.pointer (some ⟨og,0,none⟩)
 oc:w.heap[og]?=some (.cells #[dv,v] 117 (0,0))
 oa:¬ S1.foot og/\¬ X.foot og/\¬ lu C D Y og
 lo:W.heap.size<=og
 low:Below W.heap.size W w
 quiet:Quiet S1.T.D
 ft:∀ j,S1.foot j->W.heap.size<=j
theorem RetE.below {W w w':World} {sb tb:Nat} {S1:StoD} {X:TabD} {C:CqD} {D:DiskD} {Y:KxD} {l:List (Nat×Msg)} {mk og:Nat} {dv v:Value} (h:RetE W w sb tb S1 X C D Y l mk og dv v) (hb:Below w.heap.size w w'):RetE W w' sb tb S1 X C D Y l mk og dv v :=
 { h with st:=h.st.below hb,d:=h.d.below hb,oc:=ag hb h.oc,low:=h.low.trans (hb.mono h.low.size) }
theorem RetE.put {W w w':World} {sb tb:Nat} {S1 S2:StoD} {X:TabD} {C:CqD} {D:DiskD} {Y:KxD} {l:List (Nat×Msg)} {mk og:Nat} {dv v:Value} {m:Msg} {sy:Bool} (h:RetE W w sb tb S1 X C D Y l mk og dv v) (hs:StoTab W.heap.size w' S2 X) (hp:Put w.heap.size S1 S2 m sy) (hm:Mod S1.foot w w'):RetE W w' sb tb S2 X C D Y l mk og dv v where
 st:=hs
 d:=h.d.mod hm λk hk A=>h.ap k A hk
 blk:=by rw [hp.same]; exact h.blk
 tb:=hp.oblk.trans h.tb
 cq:=by rw [hp.same]; exact h.cq
 ap:=λk hk=>(hp.foot k hk).elim (h.ap k) λA B=>by have:=h.d.lt B; omega
 off:=by rw [hp.same]; exact h.off
 oc:=di hm h.oc h.oa.1
 oa:=⟨λA=>(hp.foot og A).elim h.oa.1 λB=>by have:=(Array.getElem?_eq_some_iff.1 h.oc).1; omega,h.oa.2⟩
 lo:=h.lo
 low:=h.low.trans (hm.to_below _ h.low.size h.ft)
 quiet:=hp.quiet
 ft:=λj E=>(hp.foot j E).elim (h.ft j) λA=>by have:=h.low.size; omega
theorem RetE.set {W w w':World} {sb tb:Nat} {S1:StoD} {X:TabD} {C:CqD} {D:DiskD} {Y:KxD} {l:List (Nat×Msg)} {mk og:Nat} {dv v v2:Value} (h:RetE W w sb tb S1 X C D Y l mk og dv v) (hm:Mod (λk=>k=og) w w') (hc:w'.heap[og]?=some (.cells #[dv,v2] 117 (0,0))):RetE W w' sb tb S1 X C D Y l mk og dv v2 :=
 { h with st:=h.st.mod hm (λk hk e=>h.oa.1 (e ▸ hk)) (λk hk e=>h.oa.2.1 (e ▸ hk)),d:=h.d.mod hm (λk hk e=>h.oa.2.2 (e ▸ hk)),oc:=hc,low:=h.low.trans (hm.to_below _ h.low.size λk e=>e ▸ h.lo) }
theorem RetS.all {W w:World} {sb db ob most k:Nat} {nw:Int} {ws:List ib} {S1:StoD} {X:TabD} (h:RetS W w sb db ob most k nw ws S1 X) (hT:TabB W.heap.size w) (hk:k<=100) :
 ∃ B:Nat,S1.dp=.pointer (some ⟨B,0,none⟩)/\Calls Tryz.prog 9 #[.pointer (some ⟨B,0,none⟩)] w λe w'=>e=.returned (.tuple #[.int .i64 (S1.T.O.recs.length:Int),.int .i64 0]) /\
  ∃ C D Y mk E F,RetE W w' sb ob S1 X C D Y S1.T.O.recs mk E F (.slice none 0 0):=by
 obtain ⟨C,D,Y,B,h1,N,E,F,g1,g2,g3,g4,g5,g6⟩:=h.dx;refine ⟨B,h1.dp,?_⟩;have R:=h.si.rl
 have I:∀ p∈S1.T.O.recs,p.2.kind=1:=λp hp=>by
  have h1:p.2∈S1.T.O.recs.map (·.2):=List.mem_map.2 ⟨p,hp,rfl⟩;rw [h.si.recs] at h1;obtain ⟨x,_,U⟩:=List.mem_map.1 h1;rw [<- U]; rfl
 have J:DisB W.heap.size B (λk=>lu C D Y k\/k=B) w S1 C D Y [] 0 0 4194184:={ h1 with low:=λk hk=>hk };refine (aqv w h.si.st.sto J hT h.si.low.size h.si.quiet (by omega) I h.syn (by have:=h.si.e; omega) (by decide)).mono ?_;rintro e w' ⟨rfl,hs,⟨C',D',Y',d',mk,r',hd⟩,M⟩;refine ⟨rfl,C',D',Y',mk,E,F,⟨h.si.st.mod M (λj A h=>h.elim (h1.apart j A).1 (h1.apart j A).2) (λj A h=>h.elim (N j A).1 (N j A).2),hd.inv,h.si.blk,h.si.oblk,hd.cq,λk hk=>(hd.apart k hk).1,g1,di M g2 g6,⟨g4,g5,λZ=>?_⟩,g3,h.si.low.trans (M.to_below _ h.si.low.size λj A=>h1.low j A),h.si.quiet,h.si.ft⟩⟩;exact (hd.low E (.inl Z)).elim g6 λh4=>by have:=(Array.getElem?_eq_some_iff.1 g2).1; omega
end RetW
namespace PendW
open Go.RowKit Go.MapKept Go.Shelf OctMath RecMath RecW MapG
theorem aqw {base:Nat} {P:PendD} (id d:Int) (w:World) (h:PendAt base w P) (hg:aav P.all id=(1,d)) :
 Calls Tryz.prog 22 #[.pointer (some ⟨P.blk,0,none⟩),.int .i64 id] w λe w'=>e=.returned (.int .i64 d)/\w'=w:=by
 have A:=zq (ac2 id w h);have B:=agv h id;have c0:=h.cell;rw [hg] at A B;have E:(Instr.field 121 (.agg #[.int .i64 1,.int .i64 d]) 1).run Tryz.prog w=.ok (.int .i64 d) w:=rfl;unfold abd at B;clear h hg;go_enter Tryz.func22,Tryz.ntmps22;go_wp2_with fail;refine A.o.mono ?_;rintro e w' ⟨rfl,F⟩;obtain rfl:=F.symm;clear A;go_wp2_with fail;go_ret;exact ⟨rfl,rfl⟩
end PendW
namespace RetW
open Go.RowKit Go.MapKept Go.Sort OctMath RecMath RecW DskW SegW MapG TapeW TapeMath PendW CacheW EntW NameW CqW KxW StoW TopW NameMath SndW
theorem akw {x:ib} {idn id0:Nat} {g:List UInt8} {now b:Int} (all:List (Int×Int×Int)) (h:all=[]) :
 aav (uj (uj all (id0:Int) (jh x 1 0 b)) (idn:Int) (kg x id0 now g)) (idn:Int)=(1,now+2):=by
 subst h
 have h1:uj [] (id0:Int) (jh x 1 0 b)=[]:=by
  unfold uj;rw [if_neg (by omega),if_neg (show ¬ ((jh x 1 0 b).kind=3) from (by decide:¬ ((1:Int)=3))),if_neg (show ¬ ((jh x 1 0 b).kind=4) from (by decide:¬ ((1:Int)=4))),if_neg (λh=>absurd h.1 (show ¬ ((jh x 1 0 b).kind=2) from (by decide:¬ ((1:Int)=2))))]
 rw [h1]
 have A:uj [] (idn:Int) (kg x id0 now g)=[((idn:Int),(1,now+2))]:=by
  unfold uj;rw [if_neg (by omega),if_neg (show ¬ ((kg x id0 now g).kind=3) from (by decide:¬ ((2:Int)=3))),if_neg (show ¬ ((kg x id0 now g).kind=4) from (by decide:¬ ((2:Int)=4))),if_pos ⟨rfl,rfl⟩];rfl
 rw [A];unfold aav;simp
theorem aiu (W:World) (hT:TabB W.heap.size W) :
 Calls Tryz.prog 4 #[] W λe w'=>e=.returned (.bool true)/\Below W.heap.size W w':=by
 have am:Zq (∀ w,Below W.heap.size W w->TabB W.heap.size w):=λw hb=>hT.below hb
 have U:=zq (DskW.new_any 10000 W.heap.size W (Nat.le_refl _));clear hT;go_enter Tryz.func4,Tryz.ntmps4;go_wp2_with fail;refine U.o.mono ?_;rintro e w3 ⟨D,rfl,hD,an,cb,cc,bc,bd,a1,bh,cd,bj⟩;have bk:D.room=10000:=acj a1 (by rw [bj]; rfl);have HM:=zq (aip 5 w3 hD ⟨bc,bd⟩ a1 bh an.size (am.o w3 an) (by decide) (by omega));rw [show ((5:Nat):Int)=5 from rfl] at HM;have cf:=zq an;have bl:=zq bk;have bm:Zq (∀ k,D.foot k->W.heap.size<=k):=λk hk=>hD.base_le hk
 clear hD an cb cc bc bd a1 bh cd bj bk U;go_wp2_with fail;refine HM.o.mono ?_;rintro e w4 ⟨S0,X,rfl,a6,bo⟩;have M:=zq bo;have A:=zq (ait a6 cf.o bm.o 6 (by have:=bl.o; omega) [za]);have cg:=zq a6.pend;clear a6 bo HM bl bm;have hc:pq X.l za=0:=by rw [M.o]; exact asi
 have J:S0.now=5:=A.o.si.now;have hr:=aaw (ki:=1) (due:=0) (now:=S0.now) (by rw [M.o]; exact wy) hc (.inl ⟨rfl,rfl⟩) rfl (by rw [J]; rfl);have br:=zq hr;have bs:=zq J;have ci:=A.o.si.rl;have cj:=A.o.si.wl;have F:=A.o.si.e
 have ao:=zq (alm za true aiq hc (by rw [M.o]; exact wy) none 0 w4 A.o.si.st (by rw [M.o]; decide) (λi hi=>absurd hi (Nat.not_lt_zero _)) A.o.si.quiet (am.o w4 A.o.si.low) A.o.si.low.size (by rw [J]; rfl)
  (A.o.si.fits (by decide) hr (by show (1:Int)≠0; decide)) (by omega) (by omega) (by omega))
 change Zq (Calls _ _ #[_,.agg #[.string ⟨#[97]⟩,.int .i64 0,.string ⟨#[]⟩,.slice none 0 0,.string ⟨#[]⟩],_] _ _) at ao;obtain ⟨I,Z⟩:∃ I:Nat,I=S0.T.R.e+(bv S0.T.R.e (jh za 1 0 S0.now)).length:=⟨_,rfl⟩;rw [<- Z] at ao;have bw:=zq Z;clear hc J hr ci cj F Z;go_wp2_with fail;refine ao.o.mono ?_;rintro e w6 ⟨rfl,S1,hs,hp,hm⟩;have E:=zq (A.o.next (by decide) (show 0 < [za].length by decide) br.o hs hp hm);have bz:=zq hp.pall;have b0:=zq (ae1 A.o.si.st.sto hs.sto hp);have U:Zq (S1.now=5):=E.o.si.now
 have cm:Zq (S1.T.O.recs=[(I,jh za 1 0 5)]):=by
  have h0:S0.T.O.recs=[]:=List.length_eq_zero_iff.1 (by have:=A.o.si.rl; omega);show S1.T.O.recs=_;rw [b0.o,h0,<- bw.o,bs.o]; rfl
 obtain ⟨B,b1,av⟩:=E.o.all (am.o w6 E.o.si.low) (by decide);have b2:=zq av
 have c7:w6.cell? ⟨S0.blk,7,none⟩=some (.pointer (some ⟨B,0,none⟩)):=by
  have h1:w6.cell? ⟨S1.blk,7,none⟩=some S1.dp:=hs.sto.cell 7 _ rfl;rw [b1,E.o.si.blk] at h1;exact h1
 have cn:Zq (∀ m,bn m=true->m.kind≠0->(((bv S1.T.R.e m).length+(bg m).length:Nat):Int)<=S1.T.D.room):=λm hr h0=>E.o.si.fits (by decide) hr h0
 have b3:Zq (S1.T.R.e<=1531/\S1.T.D.waits.length<=2/\S1.T.O.recs.length<=1):=⟨E.o.si.e,E.o.si.wl,E.o.si.rl⟩;clear hs hp hm b1 av ao E A b0;go_wp2_with fail;refine b2.o.mono ?_;rintro e w7 ⟨rfl,C,D7,Y,mk,og,dv,hE⟩;have HE:=zq hE;clear hE b2 c7;have ar:=cm.o;have ab:0 < S1.T.O.recs.length:=by rw [ar]; exact Nat.one_pos
 have F:S1.T.O.recs[0]=(I,jh za 1 0 5):=by simp only [ar]; rfl
 have b4:=wh HE.o.st.sto.tape (id:=I) (m:=jh za 1 0 5) (by rw [ar]; exact .head _);have ac:I<=99999999:=by have h1:=b4.2.2.2.1; have h2:=b3.o.1; omega
 have a7:bn (jh za 1 0 5)=true:=by have:=br.o; rw [bs.o] at this; exact this
 have a8:0<=S1.now/\S1.now<=1000000:=by rw [U.o]; decide
 have hg:iq [103]=true:=by decide
 have cp:=b3.o
 have N:=zq (alq (base:=W.heap.size) (S0:=S1) (X:=X) (C:=C) (D:=D7) (Y:=Y) (l:=S1.T.O.recs) (mk:=mk) [103] [97] 0 0 ab za 5 true (by rw [F]) aiq (by unfold inI; decide) a7 (by decide) (by decide) hg w7 HE.o.st (by rw [M.o]; decide) HE.o.d HE.o.cq (List.getElem_mem ab) (am.o w7 HE.o.low) HE.o.low.size HE.o.quiet
  (by rw [M.o]; decide) (by rw [F]; rfl) (by omega) (by rw [F]; exact ac) a8
  (by rw [F]; exact cn.o _ (aaz hg a7 ac a8) (by show (2:Int)≠0; decide)) (by omega) (by omega) (by omega))
 rw [F] at N;have hz:((gq [97] ((0:Nat):Int) (S1.T.O.recs.take 0):Nat):Int)=0:=rfl;rw [hz,HE.o.blk,U.o,show ((0:Nat):Int)=0 from rfl] at N;change Zq (Calls _ _ #[_,.string ⟨#[103]⟩,.string ⟨#[97]⟩,.int .i64 0,.int .i64 0,.bool true] _ _) at N;obtain ⟨ad,ak⟩:∃ ad:Nat,ad=S1.T.R.e+(bv S1.T.R.e (kg za I 5 [103])).length:=⟨_,rfl⟩;rw [<- ak] at N;have cr:=zq ak;clear ar ab F b4 ac a7 a8 hg cp hz ak;go_wp2_with fail;refine N.o.mono ?_;rintro e w8 ⟨rfl,S2,al,ba,b5⟩;have b6:=zq (HE.o.put al ba b5)
 have bb:aav S2.P.all (ad:Int)=(1,7):=by
  have h1:=ba.pall;rw [<- cr.o,bz.o,<- bw.o] at h1;rw [h1];exact akw _ cg.o
 have c6:w8.cell? ⟨S0.blk,6,none⟩=some (.pointer (some ⟨S2.P.blk,0,none⟩)):=by
  have h1:w8.cell? ⟨S2.blk,6,none⟩=some (.pointer (some ⟨S2.P.blk,0,none⟩)):=al.sto.cell 6 _ rfl;rw [b6.o.blk] at h1;exact h1
 have b7:=zq (ac2 (ad:Int) w8 al.sto.pend);rw [bb] at b7;have cs:=zq (aqw (ad:Int) 7 w8 al.sto.pend bb);clear al ba b5 bb N;go_wp2_with fail;refine b7.o.mono ?_;rintro e w9 ⟨rfl,he⟩;obtain rfl:=he.symm;go_wp2_with fail;refine cs.o.mono ?_;rintro e dc ⟨rfl,he⟩;obtain rfl:=he.symm;go_wp2_with fail;go_ret;exact ⟨rfl,b6.o.low⟩
theorem RetE.cells {V w:World} {sb tb:Nat} {S1:StoD} {X:TabD} {C:CqD} {D:DiskD} {Y:KxD} {l:List (Nat×Msg)} {mk og:Nat} {dv v:Value} (h:RetE V w sb tb S1 X C D Y l mk og dv v) :
 w.cell? ⟨sb,0,none⟩=some (.pointer (some ⟨tb,0,none⟩))/\w.cell? ⟨sb,1,none⟩=some (.pointer (some ⟨C.blk,0,none⟩))/\w.cell? ⟨sb,4,none⟩=some (.pointer (some ⟨og,0,none⟩)):=by
 have h0:w.cell? ⟨S1.blk,0,none⟩=some (.pointer (some ⟨S1.T.O.blk,0,none⟩)):=h.st.sto.cell 0 _ rfl;have h1:w.cell? ⟨S1.blk,1,none⟩=some S1.cq:=h.st.sto.cell 1 _ rfl;have A:w.cell? ⟨S1.blk,4,none⟩=some S1.off:=h.st.sto.cell 4 _ rfl;rw [h.blk,h.tb] at h0;rw [h.blk,h.cq] at h1;rw [h.blk,h.off] at A;exact ⟨h0,h1,A⟩
def aco (b n p:Int):Int:=if b=0/\(p < 0\/n<=p) then 2 else b
def zw (b n:Int) (xs:List Int):Int:=if b=0/\xs.any (ny n)=true then 2 else b
theorem af9 {l:List (List UInt8×Nat)} {g t:List UInt8} {q:Int} (h:lm l g t q=0):iq g=true/\jb l t≠0/\0<=q/\q < (jb l t:Int):=by
 unfold lm at h
 split at h
 ·
  rename_i A
  unfold ni at h
  split at h
  . cases h
  ·
   rename_i h1
   split at h
   . cases h
   . rename_i B
     exact ⟨A,h1,by omega,by omega⟩
 . cases h
theorem aiv {t:List UInt8} (h:jb ja t≠0):j6 t=true/\jb ja t<=3:=by
 unfold jb at h ⊢;unfold j6
 by_cases ho:(ofL t).isEmpty=true
 ·
  rw [if_pos ho] at h ⊢
  cases hf:ja.find? (λx=>decide (x.1=t)) with
  | none=>rw [hf] at h; exact absurd rfl h
  | some y =>
    have B:=List.mem_of_find?_eq_some hf;have h1:y.1=t:=by simpa using List.find?_some hf
    have A:fu y.1=true/\y.2<=3:=wy y B;rw [<- h1,A.1];exact ⟨rfl,A.2⟩
 ·
  rw [if_neg ho];refine ⟨?_,by decide⟩;have:(ofL t).isEmpty=false:=by simpa using ho
  rw [this]; simp
theorem aqx {V w:World} {sb tb:Nat} {S1:StoD} {X:TabD} {C:CqD} {D:DiskD} {Y:KxD} {l:List (Nat×Msg)} {mk og:Nat} {dv:Value} {v:Value} (g t:List UInt8) (q p:Int) (h:RetE V w sb tb S1 X C D Y S1.T.O.recs mk og dv v) (hX:X.l=ja) (hT:TabB V.heap.size w) (hrc:∀ p∈S1.T.O.recs,∃ x,p.2=jh x 1 0 9/\su x) (hgl:g.length<=100) (htl:t.length<=100)
 (hbd:S1.T.R.e<=61240/\S1.T.D.waits.length<=80/\S1.T.O.recs.length<=40/\S1.now=9) (hfi:∀ m,bn m=true->m.kind≠0->(((bv S1.T.R.e m).length+(bg m).length:Nat):Int)<=S1.T.D.room) :
 Calls Tryz.prog 14 #[.pointer (some ⟨sb,0,none⟩),.string (S g),.string (S t),.int .i64 q,.int .i64 p,.bool true] w λe w'=>∃ (r:Int) (S2:StoD),e=.returned (.tuple #[.int .i64 r,.int .i64 (aco (lm ja g t q) ((gq t q S1.T.O.recs:Nat):Int) p)])/\RetE V w' sb tb S2 X C D Y S1.T.O.recs mk og dv v /\
  (aco (lm ja g t q) ((gq t q S1.T.O.recs:Nat):Int) p≠0->S2=S1)/\(aco (lm ja g t q) ((gq t q S1.T.O.recs:Nat):Int) p=0->∃ (i:Nat) (N:i < S1.T.O.recs.length) (x:ib) (rid:Nat),p=((gq t q (S1.T.O.recs.take i):Nat):Int)/\isQ t q S1.T.O.recs[i]=true/\0<=q/\r=(rid:Int)/\(S1.T.O.recs[i].1,jh x 1 0 9)∈S2.T.O.recs/\S1.T.O.recs[i].2=jh x 1 0 9/\(rid,kg x S1.T.O.recs[i].1 9 g)∈S2.T.O.recs):=by
 have E:X.l.length<=1000:=by rw [hX]; decide
 have ac:=h.blk;subst ac
 by_cases hb:lm ja g t q=0
 ·
  obtain ⟨b1,b2,b3,b4⟩:=af9 hb
  by_cases ho:p < 0\/((gq t q S1.T.O.recs:Nat):Int)<=p
  ·
   have U:aco (lm ja g t q) ((gq t q S1.T.O.recs:Nat):Int) p=2:=if_pos ⟨hb,ho⟩;rw [U];refine (aqt g t q p true hgl htl w h.st E h.d h.cq (by rw [hX]; exact hb) ho).mono ?_;rintro e w' ⟨rfl,F⟩;exact ⟨0,S1,rfl,h.below F,λ_=>rfl,λh=>absurd h (by decide)⟩
  ·
   have U:aco (lm ja g t q) ((gq t q S1.T.O.recs:Nat):Int) p=0:=by unfold aco; rw [if_neg (λh=>ho h.2)]; exact hb
   rw [U];obtain ⟨Z,rfl⟩:∃ Z:Nat,q=(Z:Int):=⟨q.toNat,by omega⟩;obtain ⟨i,N,g1,g2⟩:=ae5 t (Z:Int) S1.T.O.recs p.toNat (by omega);have hp:p=((gq t (Z:Int) (S1.T.O.recs.take i):Nat):Int):=by rw [g2]; omega
   obtain ⟨x,I,ad⟩:=hrc _ (List.getElem_mem N);have B:S1.T.O.recs[i]∈S1.T.O.recs:=List.getElem_mem N;have A:(S1.T.O.recs[i].1,jh x 1 0 9)∈S1.T.O.recs:=by rw [<- I]; exact B
   have hl:=wh h.st.sto.tape A;have hid:S1.T.O.recs[i].1<=99999999:=by have:=hl.2.2.2.1; omega
   have hn:0<=S1.now/\S1.now<=1000000:=by rw [hbd.2.2.2]; decide
   have ab:=alq (base:=V.heap.size) (S0:=S1) (X:=X) (C:=C) (D:=D) (Y:=Y) (l:=S1.T.O.recs) (mk:=mk) g t Z i N x 9 true I ad (by unfold inI; decide) hl.1 hgl htl b1 w h.st E h.d h.cq B hT h.low.size h.quiet (by rw [hX]; exact hb) g1 (by omega) hid hn
    (hfi _ (aaz b1 hl.1 hid hn) (by show (2:Int)≠0; decide)) (by omega) (by omega) (by omega)
   rw [<- hp] at ab;refine ab.mono ?_;rintro e w' ⟨rfl,S2,J,M,al⟩;obtain ⟨r1,_,_⟩:=aio h.st.sto J.sto M;have am:=ae1 h.st.sto J.sto M;refine ⟨_,S2,rfl,h.put J M al,λh=>absurd rfl h,λ_=>⟨i,N,x,_,hp,g1,b3,rfl,by rw [am]; exact List.mem_append_left _ A,I,?_⟩⟩;rw [hbd.2.2.2] at r1;rw [hbd.2.2.2];exact r1
 ·
  have U:aco (lm ja g t q) ((gq t q S1.T.O.recs:Nat):Int) p=lm ja g t q:=if_neg (λh=>hb h.1);rw [U];refine (an2 g t q p true (by omega) (by omega) w h.st E (lm ja g t q) (by rw [hX]) hb).mono ?_;rintro e w' ⟨rfl,F⟩;exact ⟨0,S1,rfl,h.below F,λ_=>rfl,λh=>absurd h hb⟩
theorem alr (xs:List Int) (n:Int) (h:∀ x∈xs,x<=n) (hn : -1<=n):kv xs<=n/\-1<=kv xs:=by
 unfold kv
 have:∀ (l:List Int) (m:Int),(∀ x∈l,x<=n)->m<=n->-1<=m->l.foldl (λm x=>max m x) m<=n/\-1<=l.foldl (λm x=>max m x) m:=by
  intro l
  induction l with
  | nil=>intro m _ h1 A; exact ⟨h1,A⟩
  | cons x l ih =>
    intro m h1 A E;rw [List.foldl_cons];have F:=h1 x (.head _);exact ih (max m x) (λy B=>h1 y (.tail _ B)) (by omega) (by omega)
 exact this xs (-1) h hn (by omega)
theorem asw (xs:List Int) (h:0 < xs.length) (hp:∀ x∈xs,0<=x):0<=kv xs:=by
 have key:∀ k,1<=k->k<=xs.length->0<=kv (xs.take k):=by
  intro k
  induction k with
  | zero=>intro h1; omega
  | succ k ih =>
    intro _ A;rw [abb xs (by omega)];have:=hp _ (List.getElem_mem (show k < xs.length by omega));omega
 have:=key xs.length h (Nat.le_refl _);rw [List.take_length] at this;exact this
theorem aqy {b n:Int} {xs:List Int} (h:zw b n xs=0) (hn:n<=1000) (h0:0<=n) : -1<=kv xs/\kv xs<=1000:=by
 have A:xs.any (ny n)=false:=by
  cases hb:xs.any (ny n) with
  | false=>rfl
  | true =>
    unfold zw at h
    split at h
    . cases h
    . rename_i h1; exact absurd ⟨h,hb⟩ h1
 have B:∀ x∈xs,x<=1000:=λx E=>by
  have h1:=List.any_eq_false.1 A x E;unfold ny at h1;have F:¬ n<=x:=λF=>by rw [decide_eq_true F,Bool.or_true] at h1; exact h1 rfl
  omega
 have:=alr xs 1000 B (by decide);exact ⟨this.2,this.1⟩
theorem asx {V w:World} {sb tb:Nat} {S1:StoD} {X:TabD} {C:CqD} {D:DiskD} {Y:KxD} {l:List (Nat×Msg)} {mk og:Nat} {dv:Value} (g t:List UInt8) (q:Int) (a:Option Addr) (cp:Nat) (xs:List Int) (h:RetE V w sb tb S1 X C D Y l mk og dv (.slice none 0 0)) (hX:X.l=ja) (J:xs.length<=1000) (hgl:g.length<=100) (htl:t.length<=100) (hxs:OctW.Ints w a xs) (hcl:gq t q l<=1000) :
 Calls Tryz.prog 17 #[.pointer (some ⟨sb,0,none⟩),.string (S g),.string (S t),.int .i64 q,.slice a xs.length cp] w λe w'=>e=.returned (.int .i64 (zw (lm ja g t q) ((gq t q l:Nat):Int) xs))/\StoAt V.heap.size w' S1/\Below V.heap.size V w'/\w'.cell? ⟨sb,4,none⟩=some (.pointer (some ⟨og,0,none⟩)) /\
  ∀ w2,Below w'.heap.size w' w2->Calls Tryz.prog 18 #[.pointer (some ⟨og,0,none⟩),.string (S g),.string (S t),.int .i64 q] w2 λe w3=>e=.returned (.int .i64 (if zw (lm ja g t q) ((gq t q l:Nat):Int) xs=0 then kv xs+1 else 0))/\Below w2.heap.size w2 w3:=by
 have F:X.l.length<=1000:=by rw [hX]; decide
 have A:∀ w',Below w.heap.size w w'->∀ r:Int,r=0->StoAt V.heap.size w' S1/\Below V.heap.size V w'/\w'.cell? ⟨sb,4,none⟩=some (.pointer (some ⟨og,0,none⟩))/\∀ w2,Below w'.heap.size w' w2->Calls Tryz.prog 18 #[.pointer (some ⟨og,0,none⟩),.string (S g),.string (S t),.int .i64 q] w2 λe w3=>e=.returned (.int .i64 r)/\Below w2.heap.size w2 w3:=by
  intro w' hb r hr;subst hr;have I:=h.below hb;exact ⟨I.st.sto,I.low,I.cells.2.2,λw2 B=>aln (S g) (S t) q og dv w2 (ag B I.oc)⟩
 have U:=h.blk;subst U
 by_cases hb:lm ja g t q=0
 ·
  obtain ⟨b1,b2,b3,b4⟩:=af9 hb;obtain ⟨t1,t2⟩:=aiv b2
  cases hbad:xs.any (ny ((gq t q l:Nat):Int)) with
  | true =>
    have M:zw (lm ja g t q) ((gq t q l:Nat):Int) xs=2:=if_pos ⟨hb,hbad⟩;rw [M,if_neg (by decide)];refine (an4 g t q a cp xs J hgl htl w hxs h.st F h.d h.cq (by rw [hX]; exact hb) hbad).mono ?_;rintro e w' ⟨rfl,E⟩;exact ⟨rfl,A w' E 0 rfl⟩
  | false =>
    have M:zw (lm ja g t q) ((gq t q l:Nat):Int) xs=0:=by unfold zw; rw [if_neg (λh=>by rw [hbad] at h; exact absurd h.2 (by decide))]; exact hb
    rw [M,if_pos rfl]
    by_cases h0:xs.length=0
    . refine (aqu g t q a cp xs J hgl htl w hxs h.st F h.d h.cq (by rw [hX]; exact hb) hbad h0).mono ?_
      rintro e w' ⟨rfl,E⟩;have Z:kv xs+1=0:=by rw [List.length_eq_zero_iff.1 h0]; rfl
      exact ⟨rfl,A w' E _ Z⟩
    ·
     have N:∀ x∈xs,0<=x/\x<=1000:=λx ab=>by
      have h1:=List.any_eq_false.1 hbad x ab;unfold ny at h1;have I:¬ x < 0:=λO=>by rw [decide_eq_true O] at h1; exact h1 rfl
      have O:¬ ((gq t q l:Nat):Int)<=x:=λO=>by rw [decide_eq_true O,Bool.or_true] at h1; exact h1 rfl
      omega
     have ac:=asw xs (by omega) λx J=>(N x J).1
     have ap:=alr xs 1000 (λx J=>(N x J).2) (by decide);refine (at0 g t q a cp xs J hgl htl w hxs h.st F h.d h.cq (by rw [hX]; exact hb) hbad (by omega) b1 t1 ⟨b3,by omega⟩ ⟨ac,by omega⟩ og dv h.off h.oc).mono ?_;rintro e w' ⟨rfl,R,cap,hh,⟨c0,c1,c2,c3⟩,Z,hR⟩;have I:=h.set Z hh;refine ⟨rfl,I.st.sto,I.low,I.cells.2.2,λw2 B=>get_one (S g) (S t) q (kv xs+1) R cap og dv w2 (ag B hh) ?_ ?_ ?_ ?_⟩
     . rw [B.cell (ax c0)]; exact c0
     . rw [B.cell (ax c1)]; exact c1
     . rw [B.cell (ax c2)]; exact c2
     . rw [B.cell (ax c3)]; exact c3
 ·
  have M:zw (lm ja g t q) ((gq t q l:Nat):Int) xs=lm ja g t q:=if_neg (λh=>hb h.1);rw [M,if_neg hb];refine (aqp g t q a xs.length cp (by omega) (by omega) w h.st F (lm ja g t q) (by rw [hX]) hb).mono ?_;rintro e w' ⟨rfl,E⟩;exact ⟨rfl,A w' E 0 rfl⟩
end RetW
namespace StoW
open Go.RowKit Go.MapKept OctMath RecMath RecW TapeMath DskW SegW MapG TapeW PendW
structure FillG (s:Nat) (Z F:Obj) (u v:World):Prop where
 below:Below s u v
 full:∀ g,s<=g->u.heap[g]?=some F->v.heap[g]?=some F
 any:∀ g,s<=g->u.heap[g]?=some Z->v.heap[g]?=some Z\/v.heap[g]?=some F
theorem FillG.refl (s:Nat) (Z F:Obj) (w:World):FillG s Z F w w:=⟨Below.refl _ _,λ_ _ h=>h,λ_ _ h=>.inl h⟩
theorem FillG.trans {s:Nat} {Z F:Obj} {u v w:World} (h:FillG s Z F u v) (k:FillG s Z F v w):FillG s Z F u w :=
 ⟨h.below.trans k.below,λg A e=>k.full g A (h.full g A e),λg A e=>(h.any g A e).elim (k.any g A) λB=>.inr (k.full g A B)⟩
theorem FillG.of_below {s:Nat} {Z F:Obj} {u v:World} (hb:Below u.heap.size u v) (hs:s<=u.heap.size):FillG s Z F u v :=
 ⟨hb.mono hs,λg _ e=>ag hb e,λg _ e=>.inl (ag hb e)⟩
def InG (s:Nat) (Z F:Obj) (g:Nat) (w:World):Prop:=s<=g/\(w.heap[g]?=some Z\/w.heap[g]?=some F)
theorem InG.keep {s:Nat} {Z F:Obj} {g:Nat} {u v:World} (h:InG s Z F g u) (k:FillG s Z F u v):InG s Z F g v :=
 ⟨h.1,h.2.elim (k.any g h.1) λe=>.inr (k.full g h.1 e)⟩
theorem FillG.store4 {s g:Nat} {T:TypeId} {z0 z1 z2 z3 x0 x1 x2 x3:Value} {w:World} (h:InG s (.cells #[z0,z1,z2,z3] T (0,0)) (.cells #[x0,x1,x2,x3] T (0,0)) g w) :
 ∃ c0 c1 c2 c3,w.heap[g]?=some (.cells #[c0,c1,c2,c3] T (0,0)) /\
  ((((w.setCell ⟨g,0,none⟩ x0).setCell ⟨g,1,none⟩ x1).setCell ⟨g,2,none⟩ x2).setCell ⟨g,3,none⟩ x3).heap[g]?=some (.cells #[x0,x1,x2,x3] T (0,0)) /\
  FillG s (.cells #[z0,z1,z2,z3] T (0,0)) (.cells #[x0,x1,x2,x3] T (0,0)) w ((((w.setCell ⟨g,0,none⟩ x0).setCell ⟨g,1,none⟩ x1).setCell ⟨g,2,none⟩ x2).setCell ⟨g,3,none⟩ x3):=by
 obtain ⟨c0,c1,c2,c3,hc⟩:∃ c0 c1 c2 c3,w.heap[g]?=some (.cells #[c0,c1,c2,c3] T (0,0)):=h.2.elim (λe=>⟨_,_,_,_,e⟩) λe=>⟨_,_,_,_,e⟩
 have A:=heap_setCell_same _ g 3 _ _ x3 (heap_setCell_same _ g 2 _ _ x2 (heap_setCell_same _ g 1 _ _ x1 (heap_setCell_same w g 0 _ _ x0 hc)))
 have B:Mod (λk=>k=g) w ((((w.setCell ⟨g,0,none⟩ x0).setCell ⟨g,1,none⟩ x1).setCell ⟨g,2,none⟩ x2).setCell ⟨g,3,none⟩ x3) :=
  ((((Mod.refl (λk=>k=g) w).setCell (a:=⟨g,0,none⟩) (.inl rfl) _).setCell (a:=⟨g,1,none⟩) (.inl rfl) _).setCell (a:=⟨g,2,none⟩) (.inl rfl) _).setCell (a:=⟨g,3,none⟩) (.inl rfl) _
 have E:g < w.heap.size:=(Array.getElem?_eq_some_iff.1 hc).1;refine ⟨c0,c1,c2,c3,hc,A,B.to_below _ (by have:=h.1; omega) (λk e=>e ▸ h.1),λb hb e=>?_,λb hb e=>?_⟩
 . by_cases hbg:b=g
   . subst hbg; exact A
   . exact di B e hbg
 . by_cases hbg:b=g
   . subst hbg; exact .inr A
   . exact .inl (di B e hbg)
def YZ (s:Nat) (Z F:Obj) (v:Value) (w:World):Prop:=∃ g,v=.pointer (some ⟨g,0,none⟩)/\InG s Z F g w
def YF (s:Nat) (F:Obj) (l:List (Option Value)) (w:World):Prop:=∃ g,l.head?=some (some (.pointer (some ⟨g,0,none⟩)))/\s<=g/\w.heap[g]?=some F
end StoW
namespace RetW
open Go.RowKit Go.MapKept Go.Sort OctMath RecMath RecW DskW SegW MapG TapeW TapeMath PendW CacheW EntW NameW CqW KxW StoW TopW NameMath SndW
theorem aqz {b c:Nat} {w:World} (h:TabB b w) (hc:b<=c):TabB c w:=by
 obtain ⟨W,h1,A,B⟩:=h;exact ⟨W,h1,Nat.le_trans A hc,B⟩
theorem aq0 (b n:Int) (xs:List Int) {k:Nat} (h:k < xs.length):zw b n (xs.take (k+1))=if b=0/\ny n xs[k]=true then 2 else zw b n (xs.take k):=by
 rw [List.take_succ_eq_append_getElem h];unfold zw;rw [List.any_append]
 by_cases h0:b=0
 . cases h1:(xs.take k).any (ny n) <;> cases h2:ny n xs[k] <;> simp [h0,h2]
 . simp [h0]
theorem akx (t:List UInt8):(if (ofL t).isEmpty=true then zu t else 1)=jb ja t:=by
 by_cases h:(ofL t).isEmpty=true
 . rw [if_pos h]; exact (akp t).1 h
 . rw [if_neg h]; unfold jb; rw [if_neg h]
set_option maxHeartbeats 51200000 in
theorem an5 (ws:List (ib×Option Addr×Nat)) (a0:Option Addr) (c0:Nat) (g t:List UInt8) (q p:Int) (a1:Option Addr) (c1:Nat) (xs:List Int) (W:World) (hT:Tab W) (hR:WantRow W a0 ws) (hI:∀ p∈ws,inI p.1.queue) (hcap:∀ p∈ws,p.1.keys.length<=p.2.2) (hl:ws.length<=9223372036854775807)
 (hxs:OctW.Ints W a1 xs) (hxl:xs.length<=9223372036854775807) (hxi:∀ x∈xs,inI x) (hqi:inI q) (hpi:inI p) :
 Calls Tryz.prog 3 #[.slice a0 ws.length c0,.agg #[.string (S g),.string (S t),.int .i64 q,.int .i64 p],.slice a1 xs.length c1] W λe w'=>e=.returned (.bool true)/\Below W.heap.size W w':=by
 have ca:Below W.heap.size W (W.alloc (.cells #[.string (S g),.string (S t),.int .i64 q,.int .i64 p] 24)):=(Below.refl _ W).alloc (Nat.le_refl _) _;have ga:=zq ca;have gd:(W.alloc (.cells #[.string (S g),.string (S t),.int .i64 q,.int .i64 p] 24)).heap[W.heap.size]?=some (.cells #[.string (S g),.string (S t),.int .i64 q,.int .i64 p] 24 (0,0)):=heap_alloc_new W _;have ar:Zq (∀ w,Below (W.alloc (.cells #[.string (S g),.string (S t),.int .i64 q,.int .i64 p] 24)).heap.size (W.alloc (.cells #[.string (S g),.string (S t),.int .i64 q,.int .i64 p] 24)) w->TabB (W.alloc (.cells #[.string (S g),.string (S t),.int .i64 q,.int .i64 p] 24)).heap.size w):=λw hb=>(aqz (show TabB W.heap.size (W.alloc (.cells #[.string (S g),.string (S t),.int .i64 q,.int .i64 p] 24)) from ⟨W,hT,Nat.le_refl _,ca⟩) ca.size).below hb
 have I:Zq (∀ w,Below (W.alloc (.cells #[.string (S g),.string (S t),.int .i64 q,.int .i64 p] 24)).heap.size (W.alloc (.cells #[.string (S g),.string (S t),.int .i64 q,.int .i64 p] 24)) w->w.cell? ⟨W.heap.size,0,none⟩=some (.string (S g))/\w.cell? ⟨W.heap.size,1,none⟩=some (.string (S t))/\w.cell? ⟨W.heap.size,2,none⟩=some (.int .i64 q)/\w.cell? ⟨W.heap.size,3,none⟩=some (.int .i64 p)):=λw hb=>by
  have h:=ag hb gd;exact ⟨aa h 0 _ rfl,aa h 1 _ rfl,aa h 2 _ rfl,aa h 3 _ rfl⟩
 have HH:=zq (hR.below ca);have HX:=zq (hxs.below ca);have HI:=zq hI;have pd:=zq hcap;have pe:=zq hxi;have pf:Zq (inI q/\inI p):=⟨hqi,hpi⟩;have er:=ai;clear hT hR hI hcap hxs hxi hqi hpi gd ca;go_enter Tryz.func3,Tryz.ntmps3;go_upto_region 1 with fail
 generalize W.alloc (.cells #[.string (S g),.string (S t),.int .i64 q,.int .i64 p] 24)=V at *
 obtain ⟨A,hA⟩:∃ A,W.heap.size=A:=⟨_,rfl⟩;rw [hA] at I ⊢;have ge:=zq (aiu V (ar.o V (Below.refl _ _)));go_wp2_with fail;refine ge.o.mono ?_;rintro e w1 ⟨rfl,gf⟩;have ck:=zq gf;have an:Zq (∀ w,Below V.heap.size V w->Below W.heap.size W w):=λw hb=>ga.o.trans (hb.mono ga.o.size)
 clear gf ge
 by_cases h40:40 < ws.length
 ·
  have gh:(40:Int) < (ws.length:Int):=by omega
  go_wp2_with fail;go_ret;exact ⟨rfl,an.o _ ck.o⟩
 have gh:(ws.length:Int)<=(40:Int):=by omega
 have cb:=zq (anu ws a0 c0 w1 (HH.o.below ck.o) (by omega));go_wp2_with fail;refine cb.o.mono ?_;rintro e w2 ⟨rfl,gi⟩;have J:=zq (ck.o.trans (gi.mono ck.o.size));clear gi cb ck;obtain ⟨gr,dl⟩:∃ gr,gr=ws.any λp=>lh p.1:=⟨_,rfl⟩
 rw [<- dl]
 cases gr with
 | true =>
   clear dl;go_wp2_with fail;go_ret;exact ⟨rfl,an.o _ J.o⟩
 | false =>
 have gj:Zq (∀ p∈ws,su p.1/\p.1.topic.length<=100/\p.1.body.length<=1000/\p.1.keys.length<=10):=λp hp=>ash (HI.o p hp) (by
  have:=List.any_eq_false.1 dl.symm p hp
  simpa using this)
 clear dl;obtain ⟨k0,k1,k2,k3⟩:=I.o w2 J.o
 by_cases hg100:100 < g.length
 ·
  have gk:(100:Int) < (g.length:Int):=by omega
  go_wp2_with fail;go_ret;exact ⟨rfl,an.o _ J.o⟩
 have gk:(g.length:Int)<=100:=by omega
 by_cases ht100:100 < t.length
 ·
  have gl:(100:Int) < (t.length:Int):=by omega
  go_wp2_with fail;go_ret;exact ⟨rfl,an.o _ J.o⟩
 have gl:(t.length:Int)<=100:=by omega
 by_cases hx20:20 < xs.length
 ·
  have gn:(20:Int) < (xs.length:Int):=by omega
  go_wp2_with fail;go_ret;exact ⟨rfl,an.o _ J.o⟩
 have gn:(xs.length:Int)<=20:=by omega
 have cm:=zq (DskW.new_any 1048576 V.heap.size w2 J.o.size);go_wp2_with fail;refine cm.o.mono ?_;rintro e w3 ⟨D,rfl,hD,gt,l6,l7,gv,gw,et,ha,l8,hj⟩;have ho:D.room=1048576:=acj et (by rw [hj]; rfl);have ab:Zq (Below V.heap.size V w3):=J.o.trans (gt.mono J.o.size);have HM:=zq (aip 9 w3 hD ⟨gv,gw⟩ et ha ab.o.size (ar.o w3 ab.o) (by decide) (by omega));rw [show ((9:Nat):Int)=9 from rfl] at HM;have hq:=zq ho;have ht:Zq (∀ k,D.foot k->V.heap.size<=k):=λk hk=>hD.base_le hk
 have al:Zq (ws.length<=40/\g.length<=100/\t.length<=100/\xs.length<=20):=⟨by omega,by omega,by omega,by omega⟩;clear hD gt l6 l7 gv gw et ha l8 hj ho cm J k0 k1 k2 k3 gk gl gn hg100 ht100 hx20 er;go_wp2_with fail;refine HM.o.mono ?_;rintro e w4 ⟨S0,X,rfl,h4,d8⟩;have bl:=zq d8;have h5:=zq (ait h4 ab.o ht.o 41 (by have:=hq.o; omega) ((uk ws).map (·.1)));clear h4 d8 HM hq ht ab;generalize S0.blk=sb at *
 generalize S0.T.O.blk=ob at *
 generalize D.blk=db at *
 go_wp2_with fail;go_loopw [74] (λi wr=>∃ k:Nat,k<=ws.length/\i=.int .i64 (k:Int)/\∃ S1,Zq (RetS V wr sb db ob 41 (ou ws k) 9 ((uk ws).map (·.1)) S1 X)) (λi _=>ws.length - (intOf i).toNat)
 case atStart=>exact ⟨0,Nat.zero_le _,rfl,S0,h5⟩
 case round =>
  obtain ⟨k,hk,rfl,S1,HS⟩:=hrel;obtain ⟨wA,rfl⟩:∃ wA:World,wA=wr:=⟨_,rfl⟩
  by_cases hlt:k < ws.length
  ·
   obtain ⟨gb,off,rfl,M,ap⟩:=(HH.o.below HS.o.si.low) k hlt;have cc:=(gj.o ws[k] (List.getElem_mem hlt)).1;obtain ⟨pw,hp⟩:∃ pw,ws[k]=pw:=⟨_,rfl⟩;have ev:=zq hp;rw [hp] at M ap cc;clear hp;obtain ⟨x,a,c⟩:=pw;dsimp only at M ap cc;have k0:wA.cell? ⟨gb,off+k * 5,none⟩=some (.string (S x.topic)):=M 0 _ rfl;have k1:wA.cell? ⟨gb,off+k * 5+1,none⟩=some (.int .i64 x.queue):=M 1 _ rfl;have k2:wA.cell? ⟨gb,off+k * 5+2,none⟩=some (.string (S x.tag)):=M 2 _ rfl;have k3:wA.cell? ⟨gb,off+k * 5+3,none⟩=some (.slice a x.keys.length c):=M 3 _ rfl;have k4:wA.cell? ⟨gb,off+k * 5+4,none⟩=some (.string (S x.body)):=M 4 _ rfl;have ew:Below wA.heap.size wA (wA.alloc (.cells #[.string (S x.topic),.int .i64 x.queue,.string (S x.tag),.slice a x.keys.length c,.string (S x.body)] 35)):=(Below.refl _ wA).alloc (Nat.le_refl _) _;have bm:=heap_alloc_new wA (.cells #[.string (S x.topic),.int .i64 x.queue,.string (S x.tag),.slice a x.keys.length c,.string (S x.body)] 35);have N:=zq (HS.o.below ew);have am:=zq (Strs.below ap ew);clear M ap ew HS;go_upto_region 11 with fail
   clear k0 k1 k2 k3 k4;generalize wA.alloc (.cells #[.string (S x.topic),.int .i64 x.queue,.string (S x.tag),.slice a x.keys.length c,.string (S x.body)] 35)=w5 at *
   obtain ⟨B5,h7⟩:∃ B5,wA.heap.size=B5:=⟨_,rfl⟩;rw [h7] at bm ⊢;have k0:w5.cell? ⟨B5,0,none⟩=some (.string (S x.topic)):=aa bm 0 _ rfl;have k1:w5.cell? ⟨B5,1,none⟩=some (.int .i64 x.queue):=aa bm 1 _ rfl;have k2:w5.cell? ⟨B5,2,none⟩=some (.string (S x.tag)):=aa bm 2 _ rfl;have k3:w5.cell? ⟨B5,3,none⟩=some (.slice a x.keys.length c):=aa bm 3 _ rfl;have k4:w5.cell? ⟨B5,4,none⟩=some (.string (S x.body)):=aa bm 4 _ rfl;clear h7 bm;have h8:=ae2 ws k;have b0:=al.o.1
   by_cases hck:pq ja x=0
   ·
    have hr:=aaw (ki:=1) (due:=0) (now:=S1.now) wy hck (.inl ⟨rfl,rfl⟩) rfl (by rw [N.o.si.now]; decide);obtain ⟨g1,ey,g2⟩:=anv hlt (by rw [ev.o]; exact hck);have me:=N.o.si.rl;have mj:=N.o.si.wl;have ml:=N.o.si.e
    have bb:=zq (alm x true cc (by rw [bl.o]; exact hck) (by rw [bl.o]; exact wy) a c w5 N.o.si.st (by rw [bl.o]; decide) am.o N.o.si.quiet (ar.o _ N.o.si.low) N.o.si.low.size (by rw [N.o.si.now]; decide)
     (N.o.si.fits (by omega) hr (by show (1:Int)≠0; decide)) (by omega) (by omega) (by omega))
    rw [show ig x a c=#[.string (S x.topic),.int .i64 x.queue,.string (S x.tag),.slice a x.keys.length c,.string (S x.body)] from rfl,N.o.si.blk] at bb;have ez:((uk ws).map (·.1))[ou ws k]'(by rw [List.length_map]; exact ey)=x:=by rw [List.getElem_map,g2,ev.o]
    have dn:Zq (∀ S2 w6,StoTab V.heap.size w6 S2 X->Put w5.heap.size S1 S2 (jh x 1 0 S1.now) true->Mod S1.foot w5 w6->RetS V w6 sb db ob 41 (ou ws (k+1)) 9 ((uk ws).map (·.1)) S2 X):=λS2 w6 cn dq bo=>by
     rw [g1];exact N.o.next (by omega) (by rw [List.length_map]; exact ey) (by rw [ez]; exact hr) cn (by rw [ez]; exact dq) bo
    clear h8 b0 hr cc hck am g1 ey g2 me mj ml ez;generalize ((S1.T.R.e+(bv S1.T.R.e (jh x 1 0 S1.now)).length:Nat):Int)=idn at *
    go_wp2_with fail;refine bb.o.mono ?_;rintro e w6 ⟨rfl,S2,cn,dq,bo⟩;have dr:=zq (dn.o S2 w6 cn dq bo);clear cn dq bo bb dn N k0 k1 k2 k3 k4;go_wp2_with fail;go_roundw
    case rel=>exact ⟨k+1,by omega,by go_num,S2,dr⟩
    case measure=>simp [intOf]; omega
   ·
    have bb:=zq (aqa x true cc (pq ja x) (by rw [bl.o]) hck a c w5 N.o.si.st (by rw [bl.o]; decide) am.o);rw [show ig x a c=#[.string (S x.topic),.int .i64 x.queue,.string (S x.tag),.slice a x.keys.length c,.string (S x.body)] from rfl,N.o.si.blk] at bb;have ic:Zq (ou ws (k+1)=ou ws k):=aqe hlt (by rw [ev.o]; exact hck);obtain ⟨r,hr⟩:∃ r,pq ja x=r:=⟨_,rfl⟩;rw [hr] at bb;clear h8 b0 cc hck am hr;go_wp2_with fail;refine bb.o.mono ?_;rintro e w6 ⟨rfl,ie⟩;have dr:=zq (N.o.below ie);rw [<- ic.o] at dr;clear ie bb ic N k0 k1 k2 k3 k4;go_wp2_with fail;go_roundw
    case rel=>exact ⟨k+1,by omega,by go_num,S1,dr⟩
    case measure=>simp [intOf]; omega
  ·
   obtain rfl:k=ws.length:=by omega
   have ih:=ae2 ws ws.length;have b0:=al.o.1;obtain ⟨B,ii,ea⟩:=HS.o.all (ar.o wA HS.o.si.low) (by omega);have ij:=zq ea
   have c7:wA.cell? ⟨sb,7,none⟩=some (.pointer (some ⟨B,0,none⟩)):=by
    have h1:wA.cell? ⟨S1.blk,7,none⟩=some S1.dp:=HS.o.si.st.sto.cell 7 _ rfl;rw [ii,HS.o.si.blk] at h1;exact h1
   have mm:Zq (∀ m,bn m=true->m.kind≠0->(((bv S1.T.R.e m).length+(bg m).length:Nat):Int)<=S1.T.D.room):=λm hr h0=>HS.o.si.fits (by omega) hr h0
   have ds:Zq (S1.T.R.e<=1531 * 40/\S1.T.D.waits.length<=2 * 40/\S1.T.O.recs.length<=40/\S1.now=9):=⟨by have:=HS.o.si.e; omega,by have:=HS.o.si.wl; omega,by have:=HS.o.si.rl; omega,HS.o.si.now⟩
   have mn:Zq (S1.T.O.recs.map (·.2)=((uk ws).map (·.1)).map λx=>jh x 1 0 9):=by
    have h1:=HS.o.si.recs;rw [anw,<- List.length_map (f:=(·.1)),List.take_length] at h1;exact h1
   clear ih b0 ii ea HS h5;go_wp2_with fail;refine ij.o.mono ?_;rintro e w6 ⟨rfl,C,DC,Y,mk,og,dv,hE⟩;have HE:=zq hE;clear hE ij c7;go_upto_region 16 with fail
   obtain ⟨n,hn⟩:∃ n:Nat,n=gq t q S1.T.O.recs:=⟨_,rfl⟩;have dt:=zq hn
   have HK:Zq (∀ w,RecW.ExtR w6.drew w->w.cell? ⟨sb,1,none⟩=some (.pointer (some ⟨C.blk,0,none⟩))/\w.cell? ⟨A,1,none⟩=some (.string (S t))/\w.cell? ⟨A,2,none⟩=some (.int .i64 q)/\Calls Tryz.prog 10 #[.pointer (some ⟨C.blk,0,none⟩),.string (S t),.int .i64 q] w (λe w'=>e=.returned (.int .i64 (n:Int))/\Below w.heap.size w w')/\Below w6.heap.size w6 w):=λw F=>by
    have hb:Below w6.heap.size w6 w:=((Below.refl _ w6).drew).trans F;have h1:=HE.o.below hb;obtain ⟨_,x1,x2,_⟩:=I.o w h1.low;refine ⟨h1.cells.2.1,x1,x2,?_,hb⟩;rw [dt.o];exact acm t q w h1.d
   clear hn;refine GrowN.au 10 [none,none,none,none,none,none,none,none,some (.inl (.int .i64 (n:Int))),none] (RecW.ExtR) (by kernel_rfl) (by kernel_rfl) (by kernel_rfl) (RecW.ExtR.refl) (λ_ _ _=>RecW.ExtR.trans) ?_ ?_
   . exact GrowN.jy rfl
   simp only [List.take_succ_cons,List.take_zero,List.drop_succ_cons,List.drop_zero]
   iterate 8
    refine GrowN.g_det rfl ?_;apply Exists.intro;refine ⟨λw F E=>?_,?_⟩
    . clear E
      obtain ⟨y1,y2,y3,_,_⟩:=HK.o w F;go_simp;exact ⟨rfl,RecW.ExtR.refl _⟩
    go_frame
   refine GrowN.g_con rfl (λw F E=>?_) ?_
   . clear E
     have dn:=zq (HK.o w F).2.2.2.1;go_simp;exact dn.o.mono λe w3 h=>⟨_,h.1,rfl,h.2⟩
   go_frame;refine GrowN.g_det rfl ?_;apply Exists.intro;refine ⟨λw F E=>?_,?_⟩
   . clear E
     go_simp;exact ⟨rfl,RecW.ExtR.refl _⟩
   go_frame;refine GrowN.g_nil λw7 F E=>?_
   clear E;have il:=zq (HE.o.below (HK.o w7 F).2.2.2.2);clear F HK HE;go_upto_region 17 with fail
   obtain ⟨v1,v2,v3,r1,r2,r3,im,io⟩:=au2 w7;have my:=io t;have mz:∀ w:World,(Instr.makeMap 55 none).run Tryz.prog w=.ok (.map (some w.heap.size)) (w.alloc (.map #[] 0)):=λ_=>rfl
   have e3:=zq (il.o.below im);obtain ⟨_,x1,_,_⟩:=I.o v3 e3.o.low;have co:=zq (akx t);have ir:=zq (λw=>aro t (by have:=al.o.2.2.1; omega) w);clear im io il;generalize zu t=q3 at *
   go_wp2_with fail;refine (ir.o _).mono ?_;rintro e w8 ⟨rfl,hd⟩;have cp:=zq (e3.o.below (hd.below _));clear hd ir e3 r1 r2 r3 my mz x1;go_upto_if 109 with fail
   go_cut [14] from 106 to 109 (λs wx=>s=.int .i64 ((jb ja t:Nat):Int)/\wx=w8)
   case first =>
    by_cases hof:(ofL t).isEmpty=true
    ·
     have h0:ofL t=[]:=List.isEmpty_iff.1 hof;have e4:Zq (q3=jb ja t):=by have:=co.o; rw [if_pos hof] at this; exact this
     have hz:(S (ofL t)).toList.isEmpty=true:=by rw [NameW.S_toList]; exact hof
     rw [hz];clear hof h0 co hz;go_wp2_with fail;go_meet
     case rel=>exact ⟨by rw [e4.o],rfl⟩
    ·
     have hz:(S (ofL t)).toList.isEmpty=false:=by rw [NameW.S_toList]; simpa using hof
     have e4:Zq (1=jb ja t):=by have:=co.o; rw [if_neg hof] at this; exact this
     rw [hz];clear hof co hz;go_wp2_with fail;go_meet
     case rel=>exact ⟨by rw [<- e4.o]; rfl,rfl⟩
   case rest =>
   obtain ⟨rfl,rfl⟩:=hcut;obtain ⟨wD,rfl⟩:∃ wD:World,wD=wc:=⟨_,rfl⟩;obtain ⟨Z,e6⟩:∃ Z,lm ja g t q=Z:=⟨_,rfl⟩;have dx:Zq ((if iq g=true then (if jb ja t=0 then 12 else if q < 0\/(jb ja t:Int)<=q then 13 else 0) else 11)=Z):=by show _=_; rw [<- e6]; rfl
   have iu:=zq e6;have cb:=zq (λw=>abn g (by have:=al.o.2.1; omega) w);obtain ⟨x0,_,_,_⟩:=I.o wD cp.o.low;clear e6 co;generalize jb ja t=qt at *
   go_upto_block 2 with fail
   go_cut [15] from 110 to 127 (λs wx=>s=.int .i64 Z/\Zq (Below wD.heap.size wD wx))
   case first =>
    go_wp2_with fail;refine (cb.o _).mono ?_;rintro e w9 ⟨rfl,hd⟩;have cf:=hd.below wD.heap.size;obtain ⟨_,_,x2,_⟩:=I.o w9 (cp.o.low.trans (cf.mono cp.o.low.size));have bc:=zq cf;clear hd cf cb x0
    cases hgl:iq g with
    | false =>
      have J:Zq (11=Z):=by have:=dx.o; rw [hgl,if_neg (by decide)] at this; exact this
      clear hgl;go_wp2_with fail;go_meet
      case rel=>exact ⟨by rw [<- J.o],bc.o⟩
    | true =>
      have J:Zq ((if qt=0 then 12 else if q < 0\/(qt:Int)<=q then 13 else 0)=Z):=by have:=dx.o; rw [hgl,if_pos rfl] at this; exact this
      clear hgl dx
      by_cases hq0:qt=0
      . have ab:Zq (12=Z):=by have:=J.o; rw [if_pos hq0] at this; exact this
        have dy:((qt:Int) == 0)=true:=beq_iff_eq.2 (by omega);clear hq0;go_wp2_with fail;go_meet
        case rel=>exact ⟨by rw [<- ab.o],bc.o⟩
      ·
       have dy:((qt:Int) == 0)=false:=beq_eq_false_iff_ne.2 (by omega);have iv:¬ (qt:Int)=0:=by omega
       by_cases hqq:q < 0
       . have ab:Zq (13=Z):=by have:=J.o; rw [if_neg hq0,if_pos (.inl hqq)] at this; exact this
         have na:decide (q < 0)=true:=decide_eq_true hqq;clear hq0;go_wp2_with fail;go_meet
         case rel=>exact ⟨by rw [<- ab.o],bc.o⟩
       ·
        have na:decide (q < 0)=false:=decide_eq_false hqq
        by_cases hqe:(qt:Int)<=q
        . have ab:Zq (13=Z):=by have:=J.o; rw [if_neg hq0,if_pos (.inr hqe)] at this; exact this
          have nb:decide ((qt:Int)<=q)=true:=decide_eq_true hqe;clear hq0;go_wp2_with fail;go_meet
          case rel=>exact ⟨by rw [<- ab.o],bc.o⟩
        . have ab:Zq (0=Z):=by have:=J.o; rw [if_neg hq0,if_neg (λh=>h.elim hqq hqe)] at this; exact this
          have nb:decide ((qt:Int)<=q)=false:=decide_eq_false hqe;clear hq0;go_wp2_with fail;go_meet
          case rel=>exact ⟨by rw [<- ab.o],bc.o⟩
   case rest =>
   obtain ⟨rfl,cq⟩:=hcut;have ao:=zq (cp.o.below cq.o);obtain ⟨wE,rfl⟩:∃ wE:World,wE=wc:=⟨_,rfl⟩;clear cq cp cb x0 dx;have nc:=zq (HX.o.below ao.o.low);go_wp2_with fail;go_loopw [16,17,131] (λs16 s17 i wr=>∃ k:Nat,k<=xs.length/\i=.int .i64 (k:Int)/\s16=.int .i64 (zw Z (n:Int) (xs.take k))/\s17=.int .i64 (kv (xs.take k))/\wr=wE) (λ_ _ i _=>xs.length - (intOf i).toNat)
   case atStart=>exact ⟨0,Nat.zero_le _,rfl,by simp [zw],rfl,rfl⟩
   case round =>
    obtain ⟨k,hk,rfl,rfl,rfl,rfl⟩:=hrel;obtain ⟨wE,rfl⟩:∃ wE:World,wE=wr:=⟨_,rfl⟩
    by_cases hlt:k < xs.length
    ·
     obtain ⟨gx,o6,rfl,pr⟩:=nc.o k hlt;have bh:=zq (aq0 Z (n:Int) xs hlt);have ix:=zq (abb xs hlt);generalize zw Z (n:Int) (xs.take k)=ak at *
     generalize cr:kv (xs.take k)=mo at *
     generalize hxk:xs[k]=x at *
     have b2:Zq (kv (xs.take (k+1))=max mo x):=ix.o;clear ix cr hxk
     by_cases h0:Z=0
     ·
      have e0:(Z == 0)=true:=beq_iff_eq.2 h0
      by_cases h1:x < 0
      . have d1:decide (x < 0)=true:=decide_eq_true h1
        have bp:Zq (zw Z (n:Int) (xs.take (k+1))=2):=bh.o.trans (if_pos ⟨h0,by unfold ny; rw [d1]; rfl⟩);clear h0 bh;go_wp2_with fail;go_roundw
        case rel=>exact ⟨k+1,by omega,by go_num,by rw [bp.o],by rw [b2.o],by first | rfl | trivial⟩
        case measure=>simp [intOf]; omega
      ·
       have d1:decide (x < 0)=false:=decide_eq_false h1
       by_cases h2:(n:Int)<=x
       . have d2:decide ((n:Int)<=x)=true:=decide_eq_true h2
         have bp:Zq (zw Z (n:Int) (xs.take (k+1))=2):=bh.o.trans (if_pos ⟨h0,by unfold ny; rw [d1,d2]; rfl⟩);clear h0 bh;go_wp2_with fail;go_roundw
         case rel=>exact ⟨k+1,by omega,by go_num,by rw [bp.o],by rw [b2.o],by first | rfl | trivial⟩
         case measure=>simp [intOf]; omega
       . have d2:decide ((n:Int)<=x)=false:=decide_eq_false h2
         have bp:Zq (zw Z (n:Int) (xs.take (k+1))=ak):=bh.o.trans (if_neg λh=>by have U:=h.2; unfold ny at U; rw [d1,d2] at U; exact absurd U (by decide));clear h0 bh;go_wp2_with fail;go_roundw
         case rel=>exact ⟨k+1,by omega,by go_num,by rw [bp.o],by rw [b2.o],by first | rfl | trivial⟩
         case measure=>simp [intOf]; omega
     . have e0:(Z == 0)=false:=beq_eq_false_iff_ne.2 h0
       have bp:Zq (zw Z (n:Int) (xs.take (k+1))=ak):=bh.o.trans (if_neg λh=>h0 h.1);clear h0 bh;go_wp2_with fail;go_roundw
       case rel=>exact ⟨k+1,by omega,by go_num,by rw [bp.o],by rw [b2.o],by first | rfl | trivial⟩
       case measure=>simp [intOf]; omega
    ·
     obtain rfl:k=xs.length:=by omega
     rw [List.take_length];obtain ⟨ak,e7⟩:∃ ak,zw Z (n:Int) xs=ak:=⟨_,rfl⟩;obtain ⟨we,iz⟩:∃ we,aco Z (n:Int) p=we:=⟨_,rfl⟩;rw [e7];have i1:=zq e7;have i6:=zq iz;obtain ⟨_,_,_,x3⟩:=I.o wE ao.o.low;clear e7 iz hlt hk;obtain ⟨mo,cr⟩:∃ mo,kv xs=mo:=⟨_,rfl⟩;rw [cr];have i7:=zq cr;clear cr;go_upto_region 35 with fail
     go_cut [162] from 150 to 162 (λs wx=>s=.bool (decide (Z=0) && (decide (p < 0) || decide ((n:Int)<=p)))/\wx=wE)
     case first =>
      by_cases h0:Z=0
      ·
       have e0:(Z == 0)=true:=beq_iff_eq.2 h0;have e1:decide (Z=0)=true:=decide_eq_true h0
       by_cases h1:p < 0
       . have d1:decide (p < 0)=true:=decide_eq_true h1
         clear h0 h1;go_wp2_with fail;go_meet
         case rel=>exact ⟨by simp [e1,d1],rfl⟩
       . have d1:decide (p < 0)=false:=decide_eq_false h1
         clear h0 h1;go_wp2_with fail;go_meet
         case rel=>exact ⟨by simp [e1,d1],rfl⟩
      . have e0:(Z == 0)=false:=beq_eq_false_iff_ne.2 h0
        have e1:decide (Z=0)=false:=decide_eq_false h0;clear h0;go_wp2_with fail;go_meet
        case rel=>exact ⟨by simp [e1],rfl⟩
     case rest =>
     obtain ⟨rfl,rfl⟩:=hcut;obtain ⟨wF,rfl⟩:∃ wF:World,wF=wc:=⟨_,rfl⟩
     have br:Zq (we=if (decide (Z=0) && (decide (p < 0) || decide ((n:Int)<=p)))=true then 2 else Z):=by
      show _=_;rw [<- i6.o];unfold aco;simp only [Bool.and_eq_true,Bool.or_eq_true,decide_eq_true_eq]
     generalize (decide (Z=0) && (decide (p < 0) || decide ((n:Int)<=p)))=bw at *
     clear x3;go_upto_if 162 with fail
     go_cut [15] from 150 to 162 (λs wx=>s=.int .i64 we/\wx=wF)
     case first =>
      cases bw with
      | true =>
        have J:Zq (we=2):=br.o;go_wp2_with fail;go_meet
        case rel=>exact ⟨by rw [J.o],rfl⟩
      | false =>
        have J:Zq (we=Z):=br.o;go_wp2_with fail;go_meet
        case rel=>exact ⟨by rw [J.o],rfl⟩
     case rest =>
     obtain ⟨rfl,rfl⟩:=hcut;obtain ⟨wG,rfl⟩:∃ wG:World,wG=wc:=⟨_,rfl⟩;obtain ⟨e9,js⟩:∃ e9:Int,e9=(S1.T.R.e:Int):=⟨_,rfl⟩
     have e8:Zq (∀ w S3 v,RetE V w sb ob S3 X C DC Y S1.T.O.recs mk og dv v->S3.T.R.e=S1.T.R.e->w.cell? ⟨sb,0,none⟩=some (.pointer (some ⟨ob,0,none⟩))/\Calls Tryz.prog 13 #[.pointer (some ⟨ob,0,none⟩)] w λe w'=>e=.returned (.int .i64 e9)/\w'=w):=λw S3 v U he=>⟨U.cells.1,by
      have:=TapeW.end_any w U.st.sto.tape;rw [U.tb,he,<- js] at this;exact this⟩
     obtain ⟨x4,cs⟩:=e8.o wG S1 _ ao.o rfl;have d0:=zq cs;obtain ⟨x0,x1,x2,x3⟩:=I.o wG ao.o.low
     have fa:=zq (aqx (l:=[]) g t q p ao.o bl.o (ar.o wG ao.o.low) (λy hy=>by
      have h1:y.2∈S1.T.O.recs.map (·.2):=List.mem_map.2 ⟨y,hy,rfl⟩;rw [mn.o] at h1;obtain ⟨x,hx,e⟩:=List.mem_map.1 h1;obtain ⟨z,hz,e2⟩:=List.mem_map.1 hx;exact ⟨x,e.symm,e2 ▸ (gj.o z (List.mem_filter.1 (show z∈ws.filter xy from hz)).1).1⟩) al.o.2.1 al.o.2.2.1 (by have:=ds.o; omega) mm.o)
     rw [iu.o,<- dt.o,i6.o] at fa;clear cs br bw js;go_wp2_with fail;refine d0.o.mono ?_;rintro e w9 ⟨rfl,rfl⟩;clear d0;go_wp2_with fail;refine fa.o.mono ?_;rintro e ju ⟨rr,S2,rfl,jz,j0,j1⟩;have HF:=zq jz;have j7:=zq j0;have j8:=zq j1;clear jz j0 j1 fa x0 x1 x2 x3 x4;go_upto_region 39 with fail
     have bs:(we != we)=false:=by simp
     go_cut [196] from 181 to 196 (λs wx=>s=.bool false/\wx=ju)
     case first =>
      by_cases h0:we=0
      . have e0:(we != 0)=false:=by rw [h0]; rfl
        clear h0;go_wp2_with fail;go_meet
        case rel=>exact ⟨rfl,rfl⟩
      ·
       have e0:(we != 0)=true:=bne_iff_ne.2 h0;obtain ⟨x4,cs⟩:=e8.o ju S2 _ HF.o (by rw [j7.o h0]);have d0:=zq cs;have lz:(e9 != e9)=false:=by simp
       clear h0 cs;go_wp2_with fail;refine d0.o.mono ?_;rintro e p1 ⟨rfl,rfl⟩;go_wp2_with fail;go_meet
       case rel=>exact ⟨by simp,rfl⟩
     case rest =>
     obtain ⟨rfl,rfl⟩:=hcut;obtain ⟨wH,rfl⟩:∃ wH:World,wH=wc:=⟨_,rfl⟩;clear bs e8;go_upto_if 198 with fail
     go_cut [16] from 197 to 278 (λs wx=>s=.int .i64 ak/\Zq (Below wH.heap.size wH wx))
     case first =>
      by_cases h0:we=0
      ·
       obtain ⟨i,hi,x,nh,hp,dy,iv,j9,fb,nj,bo⟩:=j8.o h0;have e0:(we == 0)=true:=beq_iff_eq.2 h0;obtain ⟨qn,fc⟩:∃ qn:Nat,q=(qn:Int):=⟨q.toNat,by omega⟩;obtain ⟨ia,d5⟩:∃ ia:Int,ia=(S1.T.O.recs[i].1:Int):=⟨_,rfl⟩;obtain ⟨lb,kh⟩:∃ lb:Int,lb=(((bg S1.T.O.recs[i].2).length:Nat):Int):=⟨_,rfl⟩;obtain ⟨hc,kj⟩:∃ hc:Int,hc=((mq [S1.T.O.recs[i].2.tag]:Nat):Int):=⟨_,rfl⟩;obtain ⟨bd,kk⟩:∃ bd:Int,bd=((S1.T.O.recs[i].2.born.toNat:Nat):Int):=⟨_,rfl⟩
       have kl:Zq (∀ w,Below wH.heap.size wH w->Calls Tryz.prog 15 #[.pointer (some ⟨C.blk,0,none⟩),.string (S t),.int .i64 q,.int .i64 p] w λe w'=>e=.returned (.tuple #[.agg #[.int .i64 ia,.int .i64 lb,.int .i64 hc,.int .i64 bd],.int .i64 0])/\Below w.heap.size w w'):=λw hb=>by
        have U:=HF.o.below hb;have:=aqk t qn i w U.d (ar.o w U.low) hi (by have:=ds.o; omega) (by rw [<- fc]; exact dy);rw [<- fc,<- hp,<- d5,<- kh,<- kj,<- kk] at this;exact this
       obtain ⟨m,hm⟩:∃ m,m=jh x 1 0 9:=⟨_,rfl⟩;obtain ⟨m2,cv⟩:∃ m2,m2=kg x S1.T.O.recs[i].1 9 g:=⟨_,rfl⟩
       have d6:Zq (∀ w,Below wH.heap.size wH w->w.cell? ⟨sb,0,none⟩=some (.pointer (some ⟨ob,0,none⟩))/\Calls Tryz.prog 16 #[.pointer (some ⟨ob,0,none⟩),.int .i64 ia] w λe w'=>∃ a c,e=.returned (.tuple #[.agg #[.int .i64 m.kind,.int .i64 m.queue,.int .i64 m.due,.int .i64 m.retry,.int .i64 m.ref,.int .i64 m.born,.string (S m.topic),.string (S m.tag),.string (S m.body),.slice a m.keys.length c],.int .i64 0])/\Strs w' a (m.keys.map S)/\Below w.heap.size w w'):=λw hb=>by
        have U:=HF.o.below hb;refine ⟨U.cells.1,?_⟩;have:=yw S1.T.O.recs[i].1 (jh x 1 0 9) w U.st.sto.tape U.quiet.up (ar.o w U.low) U.low.size fb;rw [U.tb,<- d5,<- hm] at this;exact this.mono λe w' ⟨a,c,h1,h2,U,_⟩=>⟨a,c,h1,h2,U⟩
       have eh:Zq (∀ w,Below wH.heap.size wH w->Calls Tryz.prog 16 #[.pointer (some ⟨ob,0,none⟩),.int .i64 rr] w λe w'=>∃ a c,e=.returned (.tuple #[.agg #[.int .i64 m2.kind,.int .i64 m2.queue,.int .i64 m2.due,.int .i64 m2.retry,.int .i64 m2.ref,.int .i64 m2.born,.string (S m2.topic),.string (S m2.tag),.string (S m2.body),.slice a m2.keys.length c],.int .i64 0])/\Below w.heap.size w w'):=λw hb=>by
        have U:=HF.o.below hb;have:=yw nh (kg x S1.T.O.recs[i].1 9 g) w U.st.sto.tape U.quiet.up (ar.o w U.low) U.low.size bo;rw [U.tb,<- j9,<- cv] at this;exact this.mono λe w' ⟨a,c,h1,h2,U,_⟩=>⟨a,c,h1,U⟩
       have km:Zq (∀ t∈m.keys,t≠[]):=by
        have hl:=wh HF.o.st.sto.tape fb;show ∀ t∈m.keys,t≠[]
        rw [hm];exact alp hl.1
       have kn:Zq (m2.kind=2/\m2.due=11/\m2.retry=1/\m2.ref=ia/\m2.topic=iy++g/\m2.body=m.body):=by
        rw [cv,hm,d5];exact ⟨rfl,rfl,rfl,rfl,rfl,rfl⟩
       have ko:Zq (∀ w,Below wH.heap.size wH w->w.cell? ⟨sb,1,none⟩=some (.pointer (some ⟨C.blk,0,none⟩))/\w.cell? ⟨A,0,none⟩=some (.string (S g))/\w.cell? ⟨A,1,none⟩=some (.string (S t))/\w.cell? ⟨A,2,none⟩=some (.int .i64 q)/\w.cell? ⟨A,3,none⟩=some (.int .i64 p)):=λw hb=>by
        have U:=HF.o.below hb;exact ⟨U.cells.2.1,I.o w U.low⟩
       clear h0 hp dy iv j9 fb nj bo fc d5 kh kj kk hm cv hi;go_upto_region 42 with fail
       clear e0;have DQ:Zq (∀ w,FillG wH.heap.size (.cells #[.int .i64 0,.int .i64 0,.int .i64 0,.int .i64 0] 61 (0,0)) (.cells #[.int .i64 ia,.int .i64 lb,.int .i64 hc,.int .i64 bd] 61 (0,0)) wH.drew w->Below wH.heap.size wH w):=λw F=>((Below.refl wH.heap.size wH).drew).trans F.below
       refine GrowN.au 17 [none,none,none,none,none,none,none,none,none,none,some (.inl (.tuple #[.agg #[.int .i64 ia,.int .i64 lb,.int .i64 hc,.int .i64 bd],.int .i64 0])),none,none,none,some (.inr (λ_=>YZ wH.heap.size (.cells #[.int .i64 0,.int .i64 0,.int .i64 0,.int .i64 0] 61 (0,0)) (.cells #[.int .i64 ia,.int .i64 lb,.int .i64 hc,.int .i64 bd] 61 (0,0)))),some (.inr (λlk _=>YF wH.heap.size (.cells #[.int .i64 ia,.int .i64 lb,.int .i64 hc,.int .i64 bd] 61 (0,0)) lk)),none] (FillG wH.heap.size (.cells #[.int .i64 0,.int .i64 0,.int .i64 0,.int .i64 0] 61 (0,0)) (.cells #[.int .i64 ia,.int .i64 lb,.int .i64 hc,.int .i64 bd] 61 (0,0))) (by kernel_rfl) (by kernel_rfl) (by kernel_rfl) (FillG.refl _ _ _) (λ_ _ _=>FillG.trans) ?_ ?_
       . intro K hK Y hY l v w w' hR h
         simp only [List.mem_cons,List.not_mem_nil,or_false] at hK
         rcases hK with rfl | rfl | rfl | rfl | rfl | rfl | rfl | rfl | rfl | rfl | rfl | rfl | rfl | rfl | rfl | rfl | rfl <;> simp only [reduceCtorEq,Option.some.injEq,Sum.inr.injEq] at hY
         . subst hY; obtain ⟨g,h1,h2⟩:=h; exact ⟨g,h1,h2.keep hR⟩
         . subst hY; obtain ⟨g,h1,h2,U⟩:=h; exact ⟨g,h1,h2,hR.full g h2 U⟩
       simp only [List.take_succ_cons,List.take_zero,List.drop_succ_cons,List.drop_zero]
       iterate 10
        refine GrowN.g_det rfl ?_;apply Exists.intro;refine ⟨λw F E=>?_,?_⟩
        . clear E
          obtain ⟨y1,y0,y2,y3,y4⟩:=ko.o w (DQ.o w F);go_simp;exact ⟨rfl,FillG.refl _ _ _ _⟩
        go_frame
       refine GrowN.g_con rfl (λw F E=>?_) ?_
       . clear E
         go_simp;exact (kl.o w (DQ.o w F)).mono λe w3 h=>⟨_,h.1,rfl,FillG.of_below h.2 F.below.size⟩
       iterate 3
        go_frame;refine GrowN.g_det rfl ?_;apply Exists.intro;refine ⟨λw F E=>?_,?_⟩
        . clear E
          go_simp;exact ⟨rfl,FillG.refl _ _ _ _⟩
       go_frame;refine GrowN.g_new rfl (λw F E=>?_) (λv12=>?_)
       . clear E
         go_simp;exact ⟨⟨_,rfl,F.below.size,.inl (heap_alloc_new w _)⟩,FillG.of_below ((Below.refl _ w).alloc (Nat.le_refl _) _) F.below.size⟩
       go_frame;refine GrowN.g_new rfl (λw F E=>?_) (λv13=>?_)
       ·
        skip
        obtain ⟨g,rfl,hG⟩:=E _ (.head _) (by kernel_rfl);clear E;obtain ⟨c0,c1,c2,c3,hc,kq,cw⟩:=FillG.store4 hG;have z0:=aa hc 0 _ rfl;have z1:=aa hc 1 _ rfl;have z2:=aa hc 2 _ rfl;have z3:=aa hc 3 _ rfl;have f0:=ae hc 0;have f1:=ae hc 1;have f2:=ae hc 2;have f3:=ae hc 3;have nm:=hG.1;clear hc hG;go_simp;exact ⟨g,rfl,nm,kq⟩
       go_frame;refine GrowN.g_det rfl ?_;apply Exists.intro;refine ⟨λw F E=>?_,?_⟩
       . clear E
         go_simp;exact ⟨rfl,FillG.refl _ _ _ _⟩
       go_frame;refine GrowN.g_nil λw2 ff E=>?_
       obtain ⟨gg,b5,hg,hh⟩:=E _ (.head _);obtain ⟨g2,kx,_⟩:=E _ (.tail _ (.head _));clear E;subst kx;replace b5:(some (some (Value.pointer (some ⟨g2,0,none⟩))):Option (Option Value))=some (some (.pointer (some ⟨gg,0,none⟩))):=b5;obtain rfl:g2=gg:=by simpa using b5
       clear b5;have bj:=zq (DQ.o w2 ff);have cx:=zq hh;clear hh hg ff DQ kl;go_upto_region 43 with fail
       have br:Zq (∀ w,ReadG w2.heap.size m w2.drew w->Below w2.heap.size w2 w):=λw F=>((Below.refl _ w2).drew).trans F.below
       have HK:Zq (∀ w,ReadG w2.heap.size m w2.drew w->w.cell? ⟨sb,0,none⟩=some (.pointer (some ⟨ob,0,none⟩))/\w.cell? ⟨g2,0,none⟩=some (.int .i64 ia)/\Below wH.heap.size wH w):=λw F=>by
        have hb:=br.o w F;have ky:=bj.o.trans (hb.mono bj.o.size);exact ⟨(d6.o w ky).1,aa (ag hb cx.o) 0 _ rfl,ky⟩
       refine GrowN.au 13 [none,none,none,none,none,none,some (.inr λ_ v w=>∃ a c,v=.tuple #[.agg #[.int .i64 m.kind,.int .i64 m.queue,.int .i64 m.due,.int .i64 m.retry,.int .i64 m.ref,.int .i64 m.born,.string (S m.topic),.string (S m.tag),.string (S m.body),.slice a m.keys.length c],.int .i64 0]/\Strs w a (m.keys.map S)),some (.inr λ_ v w=>∃ a c,v=.tuple #[.agg #[.int .i64 m.kind,.int .i64 m.queue,.int .i64 m.due,.int .i64 m.retry,.int .i64 m.ref,.int .i64 m.born,.string (S m.topic),.string (S m.tag),.string (S m.body),.slice a m.keys.length c],.int .i64 0]/\Strs w a (m.keys.map S)),some (.inr λ_ v w=>∃ a c,v=.agg #[.int .i64 m.kind,.int .i64 m.queue,.int .i64 m.due,.int .i64 m.retry,.int .i64 m.ref,.int .i64 m.born,.string (S m.topic),.string (S m.tag),.string (S m.body),.slice a m.keys.length c]/\Strs w a (m.keys.map S)),some (.inl (.int .i64 0)),some (.inr λ_ v w=>∃ g,v=.pointer (some ⟨g,0,none⟩)/\MadeM (w2.heap.size) m g w),some (.inr λl v w=>∃ g,l.head?=some (some (.pointer (some ⟨g,0,none⟩)))/\w2.heap.size<=g/\acn m g w),none] (ReadG w2.heap.size m) (by kernel_rfl) (by kernel_rfl) (by kernel_rfl) (ReadG.refl _ _) (λ_ _ _=>ReadG.trans) ?_ ?_
       . intro K hK Y hY l v w w' hR h
         simp only [List.mem_cons,List.not_mem_nil,or_false] at hK
         rcases hK with rfl | rfl | rfl | rfl | rfl | rfl | rfl | rfl | rfl | rfl | rfl | rfl | rfl <;> simp only [reduceCtorEq,Option.some.injEq,Sum.inr.injEq] at hY
         iterate 3
          . subst hY; obtain ⟨a,c,e,hs⟩:=h; exact ⟨a,c,e,hR.strs a hs⟩
         . subst hY; obtain ⟨g,e,hg⟩:=h; exact ⟨g,e,hg.keep hR⟩
         . subst hY; obtain ⟨g,e,hg,hf⟩:=h; exact ⟨g,e,hg,hR.full g hg hf⟩
       simp only [List.take_succ_cons,List.take_zero,List.drop_succ_cons,List.drop_zero]
       iterate 6
        refine GrowN.g_det rfl ?_;apply Exists.intro;refine ⟨λw F E=>?_,?_⟩
        . clear E
          obtain ⟨c0,p0,fg⟩:=HK.o w F;go_simp;exact ⟨rfl,ReadG.refl _ _ _⟩
        go_frame
       refine GrowN.g_new rfl (λw F E=>?_) (λv6=>?_)
       . clear E
         obtain ⟨c0,p0,fg⟩:=HK.o w F;have d7:=zq (d6.o w fg).2;have er:=F.size;clear c0 p0 fg;go_simp;exact d7.o.mono λe w3 ⟨a,c,h1,h2,U⟩=>⟨_,h1,⟨a,⟨c,rfl⟩,h2⟩,ReadG.of_below U er⟩
       go_frame;refine GrowN.g_new rfl (λw F E=>?_) (λv7=>?_)
       . skip
         obtain ⟨a,c,rfl,hs⟩:=E _ (.head _) (by kernel_rfl);clear E;have cy:=zq hs;clear hs;go_simp
         first | exact ⟨⟨a,⟨c,rfl⟩,cy.o⟩,ReadG.refl _ _ _⟩ | exact ⟨⟨a,c,rfl,cy.o⟩,ReadG.refl _ _ _⟩
       go_frame;refine GrowN.g_new rfl (λw F E=>?_) (λv8=>?_)
       . skip
         obtain ⟨a,c,rfl,hs⟩:=E _ (.head _) (by kernel_rfl);clear E;have cy:=zq hs;clear hs;go_simp
         first | exact ⟨⟨a,⟨c,rfl⟩,cy.o⟩,ReadG.refl _ _ _⟩ | exact ⟨⟨a,c,rfl,cy.o⟩,ReadG.refl _ _ _⟩
       go_frame;refine GrowN.g_con rfl (λw F E=>?_) ?_
       . skip
         obtain ⟨a,c,rfl,hs⟩:=E _ (.tail _ (.head _)) (by kernel_rfl);clear E hs;go_simp
         first | exact ReadG.refl _ _ _ | exact ⟨rfl,ReadG.refl _ _ _⟩
       go_frame;refine GrowN.g_new rfl (λw F E=>?_) (λv10=>?_)
       . clear E
         go_simp;exact ⟨⟨_,rfl,F.size,.inl (heap_alloc_new w _)⟩,ReadG.of_below ((Below.refl _ w).alloc (Nat.le_refl _) _) F.size⟩
       go_frame;refine GrowN.g_new rfl (λw F E=>?_) (λv11=>?_)
       ·
        skip
        obtain ⟨g,rfl,hG⟩:=E _ (.head _) (by kernel_rfl);obtain ⟨a,c,rfl,hs⟩:=E _ (.tail _ (.head _)) (by kernel_rfl);clear E;obtain ⟨c0,c1,c2,c3,c4,c5,c6,c7,c8,c9,hc⟩:=hG.cells;have z0:=aa hc 0 _ rfl;have z1:=aa hc 1 _ rfl;have z2:=aa hc 2 _ rfl;have z3:=aa hc 3 _ rfl;have z4:=aa hc 4 _ rfl;have z5:=aa hc 5 _ rfl;have z6:=aa hc 6 _ rfl;have z7:=aa hc 7 _ rfl;have z8:=aa hc 8 _ rfl;have z9:=aa hc 9 _ rfl;have f0:=ae hc 0;have f1:=ae hc 1;have f2:=ae hc 2;have f3:=ae hc 3;have f4:=ae hc 4;have f5:=ae hc 5;have f6:=ae hc 6;have f7:=ae hc 7;have f8:=ae hc 8;have f9:=ae hc 9;have am:=zq (hG.store km.o a c hs);have np:=zq hG.1;clear hc hs hG;go_simp;exact ⟨⟨g,rfl,np.o,am.o.2⟩,am.o.1⟩
       go_frame;refine GrowN.g_det rfl ?_;apply Exists.intro;refine ⟨λw F E=>?_,?_⟩
       . clear E
         go_simp;exact ⟨rfl,ReadG.refl _ _ _⟩
       go_frame;refine GrowN.g_nil λw4 F E=>?_
       obtain ⟨gg,hl,hg,a7,q7,k5,cw⟩:=E _ (.head _);obtain ⟨g3,hv,_⟩:=E _ (.tail _ (.head _));clear E;subst hv;replace hl:(some (some (Value.pointer (some ⟨g3,0,none⟩))):Option (Option Value))=some (some (.pointer (some ⟨gg,0,none⟩))):=hl;obtain rfl:g3=gg:=by simpa using hl
       clear hl;have fh:=zq (br.o w4 F);have k6:=zq k5;have k7:=zq (ag fh.o cx.o);have bk:=zq (bj.o.trans (fh.o.mono bj.o.size));have x4:=(d6.o w4 bk.o).1;have d7:=zq (eh.o w4 bk.o);clear F k5 cw hg br HK fh cx bj d6 eh;go_wp2_with fail;refine d7.o.mono ?_;rintro e w5 ⟨a8,q8,rfl,fi⟩;have cf:Below w5.heap.size w5 (w5.alloc (.cells #[.int .i64 m2.kind,.int .i64 m2.queue,.int .i64 m2.due,.int .i64 m2.retry,.int .i64 m2.ref,.int .i64 m2.born,.string (S m2.topic),.string (S m2.tag),.string (S m2.body),.slice a8 m2.keys.length q8] 65)):=(Below.refl _ w5).alloc (Nat.le_refl _) _;have h9:=heap_alloc_new w5 (.cells #[.int .i64 m2.kind,.int .i64 m2.queue,.int .i64 m2.due,.int .i64 m2.retry,.int .i64 m2.ref,.int .i64 m2.born,.string (S m2.topic),.string (S m2.tag),.string (S m2.body),.slice a8 m2.keys.length q8] 65);have b6:=fi.trans (cf.mono fi.size);have bc:=zq (bk.o.trans (b6.mono bk.o.size));have nv:=zq (ag b6 k6.o);have nx:=zq (ag b6 k7.o);have H9:=zq h9;clear fi cf h9 b6 d7 x4 bk k6 k7;go_upto_region 45 with fail
       generalize w5.alloc (.cells #[.int .i64 m2.kind,.int .i64 m2.queue,.int .i64 m2.due,.int .i64 m2.retry,.int .i64 m2.ref,.int .i64 m2.born,.string (S m2.topic),.string (S m2.tag),.string (S m2.body),.slice a8 m2.keys.length q8] 65)=w6 at *
       obtain ⟨Bn,k8⟩:∃ Bn,w5.heap.size=Bn:=⟨_,rfl⟩;rw [k8] at H9 ⊢;clear k8;obtain ⟨f1,f2,f3,f4,f5,f6⟩:=kn.o;have n0:w6.cell? ⟨Bn,0,none⟩=some (.int .i64 2):=by rw [<- f1]; exact aa H9.o 0 _ rfl
       have n2:w6.cell? ⟨Bn,2,none⟩=some (.int .i64 11):=by rw [<- f2]; exact aa H9.o 2 _ rfl
       have n3:w6.cell? ⟨Bn,3,none⟩=some (.int .i64 1):=by rw [<- f3]; exact aa H9.o 3 _ rfl
       have n4:w6.cell? ⟨Bn,4,none⟩=some (.int .i64 ia):=by rw [<- f4]; exact aa H9.o 4 _ rfl
       have n6:w6.cell? ⟨Bn,6,none⟩=some (.string (S (iy++g))):=by rw [<- f5]; exact aa H9.o 6 _ rfl
       have n8:w6.cell? ⟨Bn,8,none⟩=some (.string (S m.body)):=by rw [<- f6]; exact aa H9.o 8 _ rfl
       have b8:=aa nv.o 8 _ rfl;have p0:=aa nx.o 0 _ rfl;have x0:=(ko.o w6 bc.o).2.1;have qi:(⟨#[37,114,101,116,114,121,37]⟩:ByteArray)++S g=S (iy++g):=gm iy g;have qk:(⟨#[37,114,101,116,114,121,37]⟩:ByteArray).size=7:=rfl;have qq:(S g).size<=100:=by rw [ai]; exact al.o.2.1
       have qs:(ia != ia)=false:=by simp
       have cn:(S m.body != S m.body)=false:=by simp [bne,(bytes_beq (S m.body) (S m.body)).2 rfl]
       have qu:(S (iy++g) != S (iy++g))=false:=by simp [bne,(bytes_beq (S (iy++g)) (S (iy++g))).2 rfl]
       have qv:=λt=>NameW.S_toList t
       clear f1 f2 f3 f4 f5 f6 kn km;generalize S (iy++g)=rt at *
       go_wp2_with fail;go_meet
       case rel=>exact ⟨rfl,bc.o⟩
      . have e0:(we == 0)=false:=beq_eq_false_iff_ne.2 h0
        clear h0;go_wp2_with fail;go_meet
        case rel=>exact ⟨rfl,Below.refl _ _⟩
     case rest =>
     obtain ⟨rfl,cq⟩:=hcut;have HG:=zq (HF.o.below cq.o);obtain ⟨wI,rfl⟩:∃ wI:World,wI=wc:=⟨_,rfl⟩;clear cq HF j8 j7;obtain ⟨x0,x1,x2,x3⟩:=I.o wI HG.o.low
     have b7:=zq (asx g t q a1 c1 xs HG.o bl.o (by have:=al.o.2.2.2; omega) al.o.2.1 al.o.2.2.1 (HX.o.below HG.o.low) (by
      have h1:gq t q S1.T.O.recs<=S1.T.O.recs.length:=List.length_filter_le ..
      have:=ds.o;omega))
     have lf:=zq (λh=>aqy (b:=Z) (n:=(n:Int)) (xs:=xs) h (by
      have h1:gq t q S1.T.O.recs<=S1.T.O.recs.length:=List.length_filter_le ..
      have:=ds.o;have:=dt.o;omega) (by omega))
     rw [iu.o,<- dt.o,i1.o,i7.o] at b7;rw [i1.o,i7.o] at lf;obtain ⟨av,fl⟩:∃ av,(if ak=0 then mo+1 else 0)=av:=⟨_,rfl⟩;rw [fl] at b7;have li:=zq fl;clear fl;go_wp2_with fail;refine b7.o.mono ?_;rintro e cg ⟨rfl,cw,b9,fo,en⟩;have am:=zq cw;have fp:=zq b9;have oa:=zq HG.o.blk
     have HK:Zq (∀ w,RecW.ExtR cg.drew w->w.cell? ⟨sb,4,none⟩=some (.pointer (some ⟨og,0,none⟩))/\(w.cell? ⟨A,0,none⟩=some (.string (S g))/\w.cell? ⟨A,1,none⟩=some (.string (S t))/\w.cell? ⟨A,2,none⟩=some (.int .i64 q)/\w.cell? ⟨A,3,none⟩=some (.int .i64 p))/\Calls Tryz.prog 18 #[.pointer (some ⟨og,0,none⟩),.string (S g),.string (S t),.int .i64 q] w (λe w'=>e=.returned (.int .i64 av)/\Below w.heap.size w w')/\Below cg.heap.size cg w):=λw F=>by
      have hb:Below cg.heap.size cg w:=((Below.refl _ cg).drew).trans F;exact ⟨by rw [hb.cell (ax fo)]; exact fo,I.o w (b9.trans (hb.mono b9.size)),en w hb,hb⟩
     have bs:(ak != ak)=false:=by simp
     clear cw b9 fo en b7 HG x0 x1 x2 x3;go_upto_region 49 with fail
     clear bs;refine GrowN.au 12 [none,none,none,none,none,none,none,none,none,none,some (.inl (.int .i64 av)),none] (RecW.ExtR) (by kernel_rfl) (by kernel_rfl) (by kernel_rfl) (RecW.ExtR.refl) (λ_ _ _=>RecW.ExtR.trans) ?_ ?_
     . exact GrowN.jy rfl
     simp only [List.take_succ_cons,List.take_zero,List.drop_succ_cons,List.drop_zero]
     iterate 10
      refine GrowN.g_det rfl ?_;apply Exists.intro;refine ⟨λw F E=>?_,?_⟩
      . clear E
        obtain ⟨y4,⟨y0,y1,y2,y3⟩,_,_⟩:=HK.o w F;go_simp;exact ⟨rfl,RecW.ExtR.refl _⟩
      go_frame
     refine GrowN.g_con rfl (λw F E=>?_) ?_
     . clear E
       have oc:=zq (HK.o w F).2.2.1;go_simp;exact oc.o.mono λe w3 h=>⟨_,h.1,rfl,h.2⟩
     go_frame;refine GrowN.g_det rfl ?_;apply Exists.intro;refine ⟨λw F E=>?_,?_⟩
     . clear E
       go_simp;exact ⟨rfl,RecW.ExtR.refl _⟩
     go_frame;refine GrowN.g_nil λlj F E=>?_
     clear E;have da:=(HK.o lj F).2.2.2;have ln:=zq (am.o.below da);have dc:=zq (fp.o.trans (da.mono fp.o.size));clear F da HK am fp;go_upto_region 50 with fail
     go_cut [316] from 301 to 316 (λs wx=>s=.bool false/\wx=lj)
     case first =>
      by_cases h0:ak=0
      ·
       have HV:Zq (av=mo+1):=by have:=li.o; rw [if_pos h0] at this; exact this.symm
       have oe:=lf.o h0;have ff:IntKind.i64.wrap (mo+1)=mo+1:=IntWalk.i64_in _ (by omega);have e0:(ak == 0)=true:=beq_iff_eq.2 h0;have e2:(ak != 0)=false:=by rw [h0]; rfl
       have e1:(av != mo+1)=false:=by rw [HV.o]; simp
       clear h0 oe;go_wp2_with fail;go_meet
       case rel=>exact ⟨rfl,rfl⟩
      . have HV:Zq (av=0):=by have:=li.o; rw [if_neg h0] at this; exact this.symm
        have e0:(ak == 0)=false:=beq_eq_false_iff_ne.2 h0;have e2:(ak != 0)=true:=bne_iff_ne.2 h0;have e1:(av != 0)=false:=by rw [HV.o]; rfl
        clear h0;go_wp2_with fail;go_meet
        case rel=>exact ⟨rfl,rfl⟩
     case rest =>
     obtain ⟨rfl,rfl⟩:=hcut;obtain ⟨wJ,rfl⟩:∃ wJ:World,wJ=wc:=⟨_,rfl⟩;obtain ⟨x0,x1,x2,x3⟩:=I.o wJ dc.o;have cm:=zq (λw=>aqo (S g) (S t) q p true w);have lp:=zq (λw=>an1 (S g) w);have lr:=zq (λw=>aku w);have fs:=zq (akv wJ ln.o);rw [oa.o] at fs;have oi:=zq (λw=>asu (S g) (S t) q w);go_wp2_with fail;refine (cm.o _).mono ?_;rintro e q0 ⟨rfl,rfl⟩;go_wp2_with fail;refine (lp.o _).mono ?_;rintro e q1 ⟨rfl,rfl⟩;go_wp2_with fail;refine (lr.o _).mono ?_;rintro e q2 ⟨rfl,rfl⟩;go_wp2_with fail;refine fs.o.mono ?_;rintro e ot ⟨rfl,hb⟩;have eo:=zq (dc.o.trans (hb.mono dc.o.size));clear hb x0 x1 x2 x3 cm lp lr fs;obtain ⟨x0,x1,x2,x3⟩:=I.o ot eo.o;go_wp2_with fail;refine (oi.o _).mono ?_;rintro e q4 ⟨rfl,rfl⟩;go_wp2_with fail;go_ret;exact ⟨rfl,an.o _ eo.o⟩
end RetW
end Go.Proofs.YtkjocpjikcepkaaGreatDoor
