/- cmp: Compare of equals, Or of noughts; offs: order of equals; slices.BinarySearchFunc of none and of one. And what follows. -/
import Derived.Test.YtckjigopecocaaaGreatDoorR10
set_option linter.unusedVariables false
set_option linter.unusedSimpArgs false
set_option maxHeartbeats 25600000
set_option maxRecDepth 100000
namespace Go.Proofs.YtckjigopecocaaaGreatDoor
namespace RetW
open Go.RowKit Go.MapKept Go.Sort OctMath RecMath RecW DskW SegW TapeW TapeMath PendW CacheW StoW TopW NameMath SndW
theorem ah4:∀ l:List UInt8,Op.bytesLess l l=false
 | []=>rfl
 | a :: l=>by
   unfold Op.bytesLess;rw [ah4 l];simp
theorem ati (t:ByteArray) (w:World):Calls Tryz.prog 129 #[.string t] w λe w'=>e=.returned (.bool false)/\w'=w:=by
 have A:(t != t)=false:=by simp [bne,(bytes_beq t t).2 rfl]
 have B:(t != t)=false:=A;go_enter Tryz.func129,Tryz.ntmps129;go_wp2_with fail;go_ret;exact ⟨by simp [A],rfl⟩
theorem atj (t:ByteArray) (w:World):Calls Tryz.prog 65 #[.string t,.string t] w λe w'=>e=.returned (.int .i64 0)/\w'=w:=by
 have A:=zq (λw=>ati t w);have B:=ah4 t.toList;go_enter Tryz.func65,Tryz.ntmps65;go_wp2_with fail;refine (A.o w).mono ?_;rintro e w2 ⟨rfl,rfl⟩;go_wp2_with fail;refine (A.o _).mono ?_;rintro e w3 ⟨rfl,rfl⟩;clear A;go_wp2_with fail;go_ret;exact ⟨rfl,rfl⟩
theorem atl (t:Int) (w:World):Calls Tryz.prog 130 #[.int .i64 t] w λe w'=>e=.returned (.bool false)/\w'=w:=by
 have A:(t != t)=false:=by simp [bne]
 have B:(t != t)=false:=A;go_enter Tryz.func130,Tryz.ntmps130;go_wp2_with fail;go_ret;exact ⟨by simp [A],rfl⟩
theorem atm (t:Int) (w:World):Calls Tryz.prog 66 #[.int .i64 t,.int .i64 t] w λe w'=>e=.returned (.int .i64 0)/\w'=w:=by
 have A:=zq (λw=>atl t w);go_enter Tryz.func66,Tryz.ntmps66;go_wp2_with fail;refine (A.o w).mono ?_;rintro e w2 ⟨rfl,rfl⟩;go_wp2_with fail;refine (A.o _).mono ?_;rintro e w3 ⟨rfl,rfl⟩;clear A;go_wp2_with fail;go_ret;exact ⟨rfl,rfl⟩
theorem ara (g c:Nat) (w:World) (h0:w.cell? ⟨g,0,none⟩=some (.int .i64 0)) (h1:w.cell? ⟨g,1,none⟩=some (.int .i64 0)) (h2:w.cell? ⟨g,2,none⟩=some (.int .i64 0)) :
 Calls Tryz.prog 64 #[.slice (some ⟨g,0,none⟩) 3 c] w λe w'=>e=.returned (.int .i64 0)/\w'=w:=by
 go_enter Tryz.func64,Tryz.ntmps64;go_wp2_with fail;go_loopw [8] (λi wr=>∃ k:Nat,k<=3/\i=.int .i64 (k:Int)/\wr=w) (λi _=>3 - (intOf i).toNat)
 case atStart=>exact ⟨0,by omega,rfl,rfl⟩
 case round =>
  obtain ⟨k,hk,rfl,rfl⟩:=hrel
  rcases (show k=0\/k=1\/k=2\/k=3 by omega) with rfl | rfl | rfl | rfl
  . go_wp2_with fail
    go_roundw
    case rel=>exact ⟨1,by omega,by go_num,trivial⟩
    case measure=>simp [intOf]
  . go_wp2_with fail
    go_roundw
    case rel=>exact ⟨2,by omega,by go_num,trivial⟩
    case measure=>simp [intOf]
  . go_wp2_with fail
    go_roundw
    case rel=>exact ⟨3,by omega,by go_num,trivial⟩
    case measure=>simp [intOf]
  . go_wp2_with fail
    go_ret;exact ⟨rfl,rfl⟩
theorem apb (g t:ByteArray) (q p1 p2:Int) (w:World) :
 Calls Tryz.prog 30 #[.agg #[.string g,.string t,.int .i64 q,.int .i64 p1],.agg #[.string g,.string t,.int .i64 q,.int .i64 p2]] w λe w'=>e=.returned (.int .i64 0)/\Below w.heap.size w w':=by
 have M:Below w.heap.size w ((w.alloc (.cells #[.string g,.string t,.int .i64 q,.int .i64 p1] 83)).alloc (.cells #[.string g,.string t,.int .i64 q,.int .i64 p2] 83)):=((Below.refl _ w).alloc (Nat.le_refl _) _).alloc (by rw [World.size_alloc]; omega) _;have N:((w.alloc (.cells #[.string g,.string t,.int .i64 q,.int .i64 p1] 83)).alloc (.cells #[.string g,.string t,.int .i64 q,.int .i64 p2] 83)).heap[w.heap.size]?=some (.cells #[.string g,.string t,.int .i64 q,.int .i64 p1] 83 (0,0)):=ag ((Below.refl _ _).alloc (Nat.le_refl _) _) (heap_alloc_new w _)
 have O:((w.alloc (.cells #[.string g,.string t,.int .i64 q,.int .i64 p1] 83)).alloc (.cells #[.string g,.string t,.int .i64 q,.int .i64 p2] 83)).heap[w.heap.size+1]?=some (.cells #[.string g,.string t,.int .i64 q,.int .i64 p2] 83 (0,0)):=by
  have:=heap_alloc_new (w.alloc (.cells #[.string g,.string t,.int .i64 q,.int .i64 p1] 83)) (.cells #[.string g,.string t,.int .i64 q,.int .i64 p2] 83);rw [World.size_alloc] at this;exact this
 have I:=zq M;have HS:=zq (λ(t:ByteArray) w=>atj t w);have HI:=zq (λ(t:Int) w=>atm t w)
 have F:Zq (∀ w2,RecW.ExtR ((w.alloc (.cells #[.string g,.string t,.int .i64 q,.int .i64 p1] 83)).alloc (.cells #[.string g,.string t,.int .i64 q,.int .i64 p2] 83)).drew w2->w2.cell? ⟨w.heap.size,0,none⟩=some (.string g)/\w2.cell? ⟨w.heap.size,1,none⟩=some (.string t)/\w2.cell? ⟨w.heap.size,2,none⟩=some (.int .i64 q)/\w2.cell? ⟨w.heap.size+1,0,none⟩=some (.string g)/\w2.cell? ⟨w.heap.size+1,1,none⟩=some (.string t)/\w2.cell? ⟨w.heap.size+1,2,none⟩=some (.int .i64 q)/\Below ((w.alloc (.cells #[.string g,.string t,.int .i64 q,.int .i64 p1] 83)).alloc (.cells #[.string g,.string t,.int .i64 q,.int .i64 p2] 83)).heap.size ((w.alloc (.cells #[.string g,.string t,.int .i64 q,.int .i64 p1] 83)).alloc (.cells #[.string g,.string t,.int .i64 q,.int .i64 p2] 83)) w2):=λw2 E=>by
  have hb:Below ((w.alloc (.cells #[.string g,.string t,.int .i64 q,.int .i64 p1] 83)).alloc (.cells #[.string g,.string t,.int .i64 q,.int .i64 p2] 83)).heap.size ((w.alloc (.cells #[.string g,.string t,.int .i64 q,.int .i64 p1] 83)).alloc (.cells #[.string g,.string t,.int .i64 q,.int .i64 p2] 83)) w2:=((Below.refl _ _).drew).trans E;have h1:=ag hb N;have h2:=ag hb O;exact ⟨aa h1 0 _ rfl,aa h1 1 _ rfl,aa h1 2 _ rfl,aa h2 0 _ rfl,aa h2 1 _ rfl,aa h2 2 _ rfl,hb⟩
 clear N O M;go_enter Tryz.func30,Tryz.ntmps30;go_upto_region 1 with fail
 generalize (w.alloc (.cells #[.string g,.string t,.int .i64 q,.int .i64 p1] 83)).alloc (.cells #[.string g,.string t,.int .i64 q,.int .i64 p2] 83)=w1 at *
 obtain ⟨A,hA⟩:∃ A,w.heap.size=A:=⟨_,rfl⟩;rw [hA] at F I ⊢;refine GrowN.aj 18 [none,none,none,none,some (.inl (.int .i64 0)),none,none,none,none,some (.inl (.int .i64 0)),none,none,none,none,some (.inl (.int .i64 0)),some (.inr λ_ v w=>∃ g,v=.slice (some ⟨g,0,none⟩) 3 3/\w.heap[g]?=some (.cells #[.int .i64 0,.int .i64 0,.int .i64 0] 3 (0,0))),some (.inl (.int .i64 0)),none] (RecW.ExtR) (by kernel_rfl) (by kernel_rfl) (by kernel_rfl) (RecW.ExtR.refl) (λ_ _ _=>RecW.ExtR.trans) ?_ ?_
 ·
  intro K hK Y hY l v w w' hR h;simp only [List.mem_cons,List.not_mem_nil,or_false] at hK
  rcases hK with rfl | rfl | rfl | rfl | rfl | rfl | rfl | rfl | rfl | rfl | rfl | rfl | rfl | rfl | rfl | rfl | rfl | rfl <;> simp only [reduceCtorEq,Option.some.injEq,Sum.inr.injEq] at hY
  subst hY; obtain ⟨g,e,J⟩:=h; exact ⟨g,e,ag hR J⟩
 simp only [List.take_succ_cons,List.take_zero,List.drop_succ_cons,List.drop_zero]
 iterate 2
  refine GrowN.g_det rfl ?_;apply Exists.intro;refine ⟨λw E B=>?_,?_⟩
  . clear B
    obtain ⟨a0,R,a2,b0,U,X,_⟩:=F.o w E;go_simp;exact ⟨rfl,RecW.ExtR.refl _⟩
  go_frame;refine GrowN.g_det rfl ?_;apply Exists.intro;refine ⟨λw E B=>?_,?_⟩
  . clear B
    obtain ⟨a0,R,a2,b0,U,X,_⟩:=F.o w E;go_simp;exact ⟨rfl,RecW.ExtR.refl _⟩
  go_frame;refine GrowN.g_det rfl ?_;apply Exists.intro;refine ⟨λw E B=>?_,?_⟩
  . clear B
    obtain ⟨a0,R,a2,b0,U,X,_⟩:=F.o w E;go_simp;exact ⟨rfl,RecW.ExtR.refl _⟩
  go_frame;refine GrowN.g_det rfl ?_;apply Exists.intro;refine ⟨λw E B=>?_,?_⟩
  . clear B
    obtain ⟨a0,R,a2,b0,U,X,_⟩:=F.o w E;go_simp;exact ⟨rfl,RecW.ExtR.refl _⟩
  go_frame;refine GrowN.g_con rfl (λw E B=>?_) ?_
  . clear B
    go_simp;exact (HS.o _ w).mono λe w3 h=>⟨_,h.1,rfl,h.2 ▸ RecW.ExtR.refl _⟩
  go_frame
 iterate 4
  refine GrowN.g_det rfl ?_;apply Exists.intro;refine ⟨λw E B=>?_,?_⟩
  . clear B
    obtain ⟨a0,R,a2,b0,U,X,_⟩:=F.o w E;go_simp;exact ⟨rfl,RecW.ExtR.refl _⟩
  go_frame
 refine GrowN.g_con rfl (λw E B=>?_) ?_
 . clear B
   go_simp;exact (HI.o _ w).mono λe w3 h=>⟨_,h.1,rfl,h.2 ▸ RecW.ExtR.refl _⟩
 go_frame;refine GrowN.g_new rfl (λw E B=>?_) (λv15=>?_)
 . clear B
   go_simp;exact ⟨⟨_,rfl,heap_alloc_new w _⟩,(Below.refl _ w).alloc (Nat.le_refl _) _⟩
 go_frame;refine GrowN.g_con rfl (λw E B=>?_) ?_
 ·
  skip
  obtain ⟨g,rfl,J⟩:=B _ (.head _) (by kernel_rfl);clear B;have ad:=zq (ara g 3 w (aa J 0 _ rfl) (aa J 1 _ rfl) (aa J 2 _ rfl));clear J;go_simp;exact ad.o.mono λe w3 h=>⟨_,h.1,rfl,h.2 ▸ RecW.ExtR.refl _⟩
 go_frame;refine GrowN.g_det rfl ?_;apply Exists.intro;refine ⟨λw E B=>?_,?_⟩
 ·
  clear B;obtain ⟨a0,R,a2,b0,U,X,_⟩:=F.o w E;go_simp;exact ⟨rfl,RecW.ExtR.refl _⟩
 go_frame;refine GrowN.g_nil λw2 Z B=>?_
 clear B;have ak:=zq ((I.o).trans ((F.o w2 Z).2.2.2.2.2.2.mono (hA ▸ I.o.size)));clear Z F HS HI;go_wp2_with fail;go_ret;exact ⟨rfl,hA ▸ ak.o⟩
theorem apc (g t:ByteArray) (q p2:Int) (w:World) :
 Calls Tryz.prog 29 #[.slice none 0 0,.agg #[.string g,.string t,.int .i64 q,.int .i64 p2],.func (.func 30) #[] #[]] w λe w'=>e=.returned (.tuple #[.int .i64 0,.bool false])/\Below w.heap.size w w':=by
 have A:Zq (Below w.heap.size w (w.alloc (.cells #[.string g,.string t,.int .i64 q,.int .i64 p2] 83))):=(Below.refl _ w).alloc (Nat.le_refl _) _;go_enter Tryz.func29,Tryz.ntmps29;go_upto_region 1 with fail
 generalize w.alloc (.cells #[.string g,.string t,.int .i64 q,.int .i64 p2] 83)=w1 at *
 go_wp2_with fail;go_loopw [9,10] (λi j wr=>i=.int .i64 0/\j=.int .i64 0/\wr=w1) (λ_ _ _=>0)
 case atStart=>exact ⟨rfl,rfl,rfl⟩
 case round =>
  obtain ⟨rfl,rfl,rfl⟩:=hrel;go_wp2_with fail;refine GrowN.aj 16 [none,none,none,none,none,none,none,none,none,none,none,none,none,none,none,none] (RecW.ExtR) (by kernel_rfl) (by kernel_rfl) (by kernel_rfl) (RecW.ExtR.refl) (λ_ _ _=>RecW.ExtR.trans) ?_ ?_
  . exact GrowN.jg rfl
  simp only [List.take_succ_cons,List.take_zero,List.drop_succ_cons,List.drop_zero]
  iterate 16
   first
   | refine GrowN.g_skip rfl ?_
   | refine GrowN.g_det rfl ?_
     apply Exists.intro;refine ⟨λw I E=>?_,?_⟩
     . clear E
       go_simp;exact ⟨rfl,RecW.ExtR.refl _⟩
   go_frame
  refine GrowN.g_nil λw2 B E=>?_
  clear E;have F:=zq ((A.o).trans ((((Below.refl wr.heap.size wr).drew).trans B).mono A.o.size));clear B;go_wp2_with fail;go_ret2;exact ⟨rfl,F.o⟩
theorem apd (g t:ByteArray) (q p1 p2:Int) (G c:Nat) (w:World) (h0:w.cell? ⟨G,0,none⟩=some (.string g)) (h1:w.cell? ⟨G,1,none⟩=some (.string t)) (h2:w.cell? ⟨G,2,none⟩=some (.int .i64 q)) (h3:w.cell? ⟨G,3,none⟩=some (.int .i64 p1)) :
 Calls Tryz.prog 29 #[.slice (some ⟨G,0,none⟩) 1 c,.agg #[.string g,.string t,.int .i64 q,.int .i64 p2],.func (.func 30) #[] #[]] w λe w'=>e=.returned (.tuple #[.int .i64 0,.bool true])/\Below w.heap.size w w':=by
 have I:Below w.heap.size w (w.alloc (.cells #[.string g,.string t,.int .i64 q,.int .i64 p2] 83)):=(Below.refl _ w).alloc (Nat.le_refl _) _;have R:(w.alloc (.cells #[.string g,.string t,.int .i64 q,.int .i64 p2] 83)).heap[w.heap.size]?=some (.cells #[.string g,.string t,.int .i64 q,.int .i64 p2] 83 (0,0)):=heap_alloc_new w _
 have HK:Zq (∀ w2,Below (w.alloc (.cells #[.string g,.string t,.int .i64 q,.int .i64 p2] 83)).heap.size (w.alloc (.cells #[.string g,.string t,.int .i64 q,.int .i64 p2] 83)) w2->w2.cell? ⟨G,0,none⟩=some (.string g)/\w2.cell? ⟨G,1,none⟩=some (.string t)/\w2.cell? ⟨G,2,none⟩=some (.int .i64 q)/\w2.cell? ⟨G,3,none⟩=some (.int .i64 p1)/\w2.cell? ⟨w.heap.size,0,none⟩=some (.string g)/\w2.cell? ⟨w.heap.size,1,none⟩=some (.string t)/\w2.cell? ⟨w.heap.size,2,none⟩=some (.int .i64 q)/\w2.cell? ⟨w.heap.size,3,none⟩=some (.int .i64 p2)/\True):=λw2 hb=>by
  have J:=I.trans (hb.mono I.size);have M:=ag hb R;exact ⟨by rw [J.cell (ay h0)]; exact h0,by rw [J.cell (ay h1)]; exact h1,by rw [J.cell (ay h2)]; exact h2,by rw [J.cell (ay h3)]; exact h3,aa M 0 _ rfl,aa M 1 _ rfl,aa M 2 _ rfl,aa M 3 _ rfl,trivial⟩
 have HO:=zq (λw=>apb g t q p1 p2 w);have N:=zq I;clear I R h0 h1 h2 h3;go_enter Tryz.func29,Tryz.ntmps29;go_upto_region 1 with fail
 generalize w.alloc (.cells #[.string g,.string t,.int .i64 q,.int .i64 p2] 83)=w1 at *
 obtain ⟨A,hA⟩:∃ A,w.heap.size=A:=⟨_,rfl⟩;rw [hA] at HK N ⊢;go_wp2_with fail;go_loopw [9,10] (λi j wr=>i=.int .i64 0/\∃ k:Nat,k<=1/\j=.int .i64 (k:Int)/\Zq (Below w1.heap.size w1 wr)) (λ_ j _=>(intOf j).toNat)
 case atStart=>exact ⟨rfl,1,by omega,rfl,Below.refl _ _⟩
 case round =>
  obtain ⟨rfl,k,hk,rfl,U⟩:=hrel;obtain ⟨X,rfl⟩:∃ X:World,X=wr:=⟨_,rfl⟩;have B:Zq (∀ w,RecW.ExtR X.drew w->Below w1.heap.size w1 w):=λw F=>U.o.trans ((((Below.refl X.heap.size X).drew).trans F).mono U.o.size)
  rcases (show k=0\/k=1 by omega) with rfl | rfl
  ·
   go_wp2_with fail;refine GrowN.aj 16 [none,none,none,none,none,none,none,none,none,none,none,some (.inl (.int .i64 0)),none,none,none,none] (RecW.ExtR) (by kernel_rfl) (by kernel_rfl) (by kernel_rfl) (RecW.ExtR.refl) (λ_ _ _=>RecW.ExtR.trans) ?_ ?_
   . exact GrowN.jg rfl
   simp only [List.take_succ_cons,List.take_zero,List.drop_succ_cons,List.drop_zero]
   iterate 11
    refine GrowN.g_det rfl ?_;apply Exists.intro;refine ⟨λw F E=>?_,?_⟩
    . clear E
      obtain ⟨a0,a1,a2,a3,b0,b1,b2,b3,_⟩:=HK.o w (B.o w F);go_simp;exact ⟨rfl,RecW.ExtR.refl _⟩
    go_frame
   refine GrowN.g_con rfl (λw F E=>?_) ?_
   . clear E
     have hb:=B.o w F;go_simp;exact (HO.o w).mono λe w3 h=>⟨_,h.1,rfl,h.2⟩
   iterate 4
    go_frame;refine GrowN.g_det rfl ?_;apply Exists.intro;refine ⟨λw F E=>?_,?_⟩
    . clear E
      go_simp;exact ⟨rfl,RecW.ExtR.refl _⟩
   go_frame;refine GrowN.g_nil λw3 Y E=>?_
   clear E;have O:=zq (N.o.trans ((B.o w3 Y).mono (hA ▸ N.o.size)));clear Y B HK HO;go_wp2_with fail;go_ret2;exact ⟨rfl,hA ▸ O.o⟩
  ·
   go_wp2_with fail;refine GrowN.aj 8 [none,none,none,none,none,none,some (.inl (.int .i64 0)),none] (RecW.ExtR) (by kernel_rfl) (by kernel_rfl) (by kernel_rfl) (RecW.ExtR.refl) (λ_ _ _=>RecW.ExtR.trans) ?_ ?_
   . exact GrowN.jg rfl
   simp only [List.take_succ_cons,List.take_zero,List.drop_succ_cons,List.drop_zero]
   iterate 6
    refine GrowN.g_det rfl ?_;apply Exists.intro;refine ⟨λw F E=>?_,?_⟩
    . clear E
      obtain ⟨a0,a1,a2,a3,b0,b1,b2,b3,_⟩:=HK.o w (B.o w F);go_simp;exact ⟨rfl,RecW.ExtR.refl _⟩
    go_frame
   refine GrowN.g_con rfl (λw F E=>?_) ?_
   . clear E
     have hb:=B.o w F;go_simp;exact (HO.o w).mono λe w3 h=>⟨_,h.1,rfl,h.2⟩
   go_frame;refine GrowN.g_det rfl ?_;apply Exists.intro;refine ⟨λw F E=>?_,?_⟩
   . clear E
     go_simp;exact ⟨rfl,RecW.ExtR.refl _⟩
   go_frame;refine GrowN.g_nil λw2 Z E=>?_
   clear E;have O:=zq (B.o w2 Z);clear Z B;go_wp2_with fail;go_roundw
   case rel=>exact ⟨rfl,0,by omega,by go_num,O⟩
   case measure=>simp [intOf]
end RetW
namespace SndW
open Go.RowKit Go.MapKept Go.Sort OctMath RecMath RecW DskW SegW TapeW TapeMath PendW CacheW StoW TopW NameMath
theorem ape {base:Nat} {S0:StoD} {X:TabD} (x:lu) (sy:Bool) (hx:zg x) (hc:xh X.l x=0) (a:Option Addr) (c:Nat) (W:World) (h:StoTab base W S0 X) (hl:X.l.length<=1000) (hS:Strs W a (x.keys.map S)) (idn r:Int) (Q:World->World->Prop)
 (HPO:Zq (∀ (I:Option Addr) (M:Nat) (w:World),Below W.heap.size W w->Strs w I (x.keys.map S)->Calls Tryz.prog 19 #[.pointer (some ⟨S0.blk,0,none⟩),.agg (af (jm x 1 0 S0.now) I M),.bool sy] w λe w'=>e=.returned (.tuple #[.int .i64 idn,.int .i64 r])/\Q w w')) :
 Calls Tryz.prog 7 #[.pointer (some ⟨S0.blk,0,none⟩),.agg (j4 x a c),.bool sy] W λe w'=>e=.returned (.tuple #[.int .i64 idn,.int .i64 r])/\∃ w3,Below W.heap.size W w3/\Q w3 w':=by
 have J:Zq (Below W.heap.size W (W.alloc (.cells (j4 x a c) 34))):=(Below.refl _ W).alloc (Nat.le_refl _) _;have B:Zq (RecW.Boxed (W.alloc (.cells (j4 x a c) 34)) W.heap.size (j4 x a c)):=RecW.Boxed.new W _ _;have HC:=zq (aj0 x hx a c _ (h.below J.o) hl (Strs.below hS J.o));rw [hc] at HC;have ao:(j4 x a c).size=5:=rfl;have O:=zq (λ(w:World) (hb:Below W.heap.size W w)=>aj1 x hx 1 0 S0.now a c w (Strs.below hS hb));have R:=zq (λ(w:World) (hb:Below W.heap.size W w)=>ako w (h.sto.below hb));clear h hS hx hc;go_enter Tryz.func7,Tryz.ntmps7;go_upto_region 1 with fail
 generalize W.alloc (.cells (j4 x a c) 34)=w1 at *
 clear ao;obtain ⟨A,hA⟩:∃ A,W.heap.size=A:=⟨_,rfl⟩;have bh:=zq hA;rw [hA] at B ⊢;have k0:w1.cell? ⟨A,0,none⟩=some (.string (S x.topic)):=B.o 0 _ rfl;have k1:w1.cell? ⟨A,1,none⟩=some (.int .i64 x.queue):=B.o 1 _ rfl;have k2:w1.cell? ⟨A,2,none⟩=some (.string (S x.tag)):=B.o 2 _ rfl;have k3:w1.cell? ⟨A,3,none⟩=some (.slice a x.keys.length c):=B.o 3 _ rfl;have k4:w1.cell? ⟨A,4,none⟩=some (.string (S x.body)):=B.o 4 _ rfl;rw [show j4 x a c=#[.string (S x.topic),.int .i64 x.queue,.string (S x.tag),.slice a x.keys.length c,.string (S x.body)] from rfl] at HC;clear hA;go_wp2_with fail;refine HC.o.mono ?_;rintro e w2 ⟨rfl,hb⟩;have F:Zq (Below W.heap.size W w2):=J.o.trans (hb.mono J.o.size);have U:=zq (B.o.below hb);clear hb HC k0 k1 k2 k3 k4 B J;go_upto_region 4 with fail
 rw [show j4 x a c=#[.string (S x.topic),.int .i64 x.queue,.string (S x.tag),.slice a x.keys.length c,.string (S x.body)] from rfl] at O
 have Z:Zq (∀ w,RecW.ExtR w2.drew w->w.cell? ⟨A,0,none⟩=some (.string (S x.topic))/\w.cell? ⟨A,1,none⟩=some (.int .i64 x.queue)/\w.cell? ⟨A,2,none⟩=some (.string (S x.tag))/\w.cell? ⟨A,3,none⟩=some (.slice a x.keys.length c)/\w.cell? ⟨A,4,none⟩=some (.string (S x.body))/\Below w2.heap.size w2 w):=λw N=>by
  have hb:Below w2.heap.size w2 w:=((Below.refl _ w2).drew).trans N;have hc:=U.o.below hb;exact ⟨hc 0 _ rfl,hc 1 _ rfl,hc 2 _ rfl,hc 3 _ rfl,hc 4 _ rfl,hb⟩
 refine GrowM.jl (by kernel_rfl) ?_;refine GrowM.jr 6 [none,none,none,some (.inl (.int .i64 S0.now)),some (.inr (λ_ v w=>∃ I M,v=.agg (af (jm x 1 0 S0.now) I M)/\Strs w I (x.keys.map S))),none] RecW.ExtR (by kernel_rfl) (by kernel_rfl) RecW.ExtR.refl (λ_ _ _=>RecW.ExtR.trans) ?_ ?_
 ·
  intro K hK Y hY l v w w' hR h;simp only [List.mem_cons,List.not_mem_nil,or_false] at hK
  rcases hK with rfl | rfl | rfl | rfl | rfl | rfl <;> simp only [reduceCtorEq,Option.some.injEq,Sum.inr.injEq] at hY
  subst hY; obtain ⟨I,M,e,hs⟩:=h; exact ⟨I,M,e,Strs.below hs hR⟩
 simp only [List.take_succ_cons,List.take_zero,List.drop_succ_cons,List.drop_zero,Nat.reduceSub]
 iterate 3
  refine GrowN.g_det rfl ?_;apply Exists.intro;refine ⟨λw N E=>?_,?_⟩
  . clear E
    obtain ⟨k0,k1,k2,k3,k4,_⟩:=Z.o w N;go_simp;exact ⟨rfl,RecW.ExtR.refl _⟩
  go_frame
 refine GrowN.g_con rfl (λw N E=>?_) ?_
 ·
  clear E;obtain ⟨_,_,_,_,_,hb⟩:=Z.o w N;have ar:=zq (R.o w (F.o.trans (hb.mono F.o.size)));clear hb;go_simp;exact ar.o.mono λe w3 ⟨h1,h2⟩=>⟨_,h1,rfl,h2 ▸ RecW.ExtR.refl _⟩
 go_frame;refine GrowN.g_new rfl (λw N E=>?_) (λv4=>?_)
 ·
  clear E;obtain ⟨_,_,_,_,_,hb⟩:=Z.o w N;have a1:=zq (O.o w (F.o.trans (hb.mono F.o.size)));clear hb;go_simp;exact a1.o.mono λe w3 ⟨I,M,h1,h2,h3⟩=>⟨_,h1,⟨I,⟨M,rfl⟩,h2⟩,h3⟩
 go_frame;refine GrowN.g_det rfl ?_;apply Exists.intro;refine ⟨λw N E=>?_,?_⟩
 . clear E
   go_simp;exact ⟨rfl,RecW.ExtR.refl _⟩
 go_frame;refine GrowN.g_nil λw3 ab E=>?_
 obtain ⟨I,M,rfl,ac⟩:=E _ (.head _);clear E;obtain ⟨_,_,_,_,_,ad⟩:=Z.o w3 ab;have ak:Zq (Below W.heap.size W w3):=F.o.trans (ad.mono F.o.size);have al:=zq (HPO.o I M w3 ak.o ac);clear ac ad ab HPO O R Z U;generalize af (jm x 1 0 S0.now) I M=cm at *
 refine GrowM.pu (λv w'=>v=.tuple #[.int .i64 idn,.int .i64 r]/\Q w3 w') (by kernel_rfl) rfl rfl ?_ ?_
 ·
  go_simp;refine al.o.mono ?_;rintro e w' ⟨rfl,hb⟩;exact ⟨_,rfl,rfl,hb⟩
 rintro v w4 ⟨rfl,am⟩;go_frame;have HM:=zq am;clear am al;refine GrowM.jr 11 [none,none,none,none] (λu v=>v=u) (by kernel_rfl) (by kernel_rfl) (λ_=>rfl) (λ_ _ _ h k=>k.trans h) ?_ ?_
 . exact GrowN.jg rfl
 simp only [List.take_succ_cons,List.take_zero,List.drop_succ_cons,List.drop_zero,Nat.reduceSub]
 iterate 4
  refine GrowN.g_det rfl ?_;apply Exists.intro;refine ⟨λw N E=>?_,?_⟩
  . obtain rfl:=N.symm
    clear E;go_simp
    first | exact rfl | exact ⟨rfl,rfl⟩
  go_frame
 refine GrowN.g_nil λwz a6 E=>?_
 obtain rfl:=a6.symm;clear E;refine GrowM.uh rfl ?_;go_wp2_with fail;go_ret2;exact ⟨rfl,w3,ak.o,HM.o⟩
theorem aku {base:Nat} {S0:StoD} {X:TabD} (x:lu) (sy:Bool) (hx:zg x) (hc:xh X.l x=0) (hp:∀ y∈X.l,ik y.1=true/\y.2<=3) (a:Option Addr) (c:Nat) (W:World) (h:StoTab base W S0 X) (hl:X.l.length<=1000) (hS:Strs W a (x.keys.map S)) (hq:Quiet S0.T.D) (hT:TabB base W) (hbase:base<=W.heap.size)
 (hnow:gm S0.now=false) (hroom:(((bv S0.T.R.e (jm x 1 0 S0.now)).length+(bi (jm x 1 0 S0.now)).length:Nat):Int)<=S0.T.D.room) (hwl:S0.T.D.waits.length<=1000000) (hfar:S0.T.R.e<=80000000) (hrl:S0.T.O.recs.length<=1000000) :
 Calls Tryz.prog 7 #[.pointer (some ⟨S0.blk,0,none⟩),.agg (j4 x a c),.bool sy] W λe w'=>e=.returned (.tuple #[.int .i64 ((S0.T.R.e+(bv S0.T.R.e (jm x 1 0 S0.now)).length:Nat):Int),.int .i64 0]) /\
  ∃ S1,StoTab base w' S1 X/\Put W.heap.size S0 S1 (jm x 1 0 S0.now) sy/\Mod S0.foot W w':=by
 have E:inI S0.now:=by
  unfold gm at hnow;simp only [Bool.or_eq_false_iff,decide_eq_false_iff_not] at hnow;exact ⟨by omega,by omega⟩
 refine (ape x sy hx hc a c W h hl hS _ 0 _ (zq (λ(J:Option Addr) (N:Nat) (w:World) (hb:Below W.heap.size W w) (U:Strs w J (x.keys.map S))=>put_ok (jm x 1 0 S0.now) sy (akt hx (by unfold inI; decide) ace E) (aal hp hc (.inl ⟨rfl,rfl⟩) rfl hnow) (by show (1:Int)≠0; decide) J N w (h.sto.below hb) U hq (hT.below hb) (Nat.le_trans hbase hb.size) hroom hwl hfar hrl))).mono ?_;rintro e w' ⟨rfl,w3,B,S1,F,A,M⟩;have I:StoTab base w3 S0 X:=h.below B;exact ⟨rfl,S1,StoTab.put I F A M (Nat.le_refl _),Put.mono A B.size,(Mod.of_below B).trans M⟩
end SndW
namespace StoW
open Go.RowKit Go.MapKept OctMath RecMath RecW TapeMath DskW SegW MapG TapeW PendW CacheW CqW
theorem ah5 {base:Nat} {w:World} {D:DiskD} (h:DiskAt base w D) (hf:D.files=[]) (hv:D.wv=.slice none 0 0) {n:Nat} (h1:n<=D.blk) (h2:n<=D.mB):∀ k,D.foot k->n<=k:=λk hk=>by
 rcases hk with e | e | ⟨p,hp,_⟩ | e
 . omega
 . omega
 . rw [hf] at hp; cases hp
 . rw [hv] at e; cases e
theorem ab3 {D:DiskD} {c:Int} (hf:D.files=[]) (hc:D.cap=c):D.room=c:=by
 unfold DiskD.room DiskD.size;rw [hf,hc];show c - ((0:Nat):Int)=c;omega
theorem apf {n:List UInt8} (h:∀ x l,n=116 :: 97 :: x :: l->False):∀ p,p<=99999999->n≠ah qf p:=λp _ e=>h 112 _ e
theorem asx {base:Nat} {w:World} {T:TapeD} (h:TapeAt base w T) (hi:T.its=[]) (hb:T.R.b=0):T.R.e=0:=by
 have:=zb h;rw [hi,hb] at this;exact this
theorem afs {base:Nat} {w:World} {T:TapeD} (h:TapeAt base w T) (hi:T.its=[]):T.O.recs=[]:=by
 rw [h.recs,hi]; rfl
theorem ah6 {base B:Nat} {w w2:World} {S0 S1:StoD} {m:Msg} {sy:Bool} (h:StoAt base w S0) (h1:StoAt base w2 S1) (hp:Put B S0 S1 m sy) :
 S1.T.O.recs=S0.T.O.recs++[(S0.T.R.e+(bv S0.T.R.e m).length,m)]:=by
 rw [h1.tape.recs,hp.its,hp.b,adq,<- zb h.tape,ach,<- h.tape.recs]
theorem apg {base B:Nat} {w w2:World} {S0 S1:StoD} {m:Msg} {sy:Bool} (h:StoAt base w S0) (h1:StoAt base w2 S1) (hp:Put B S0 S1 m sy) :
 (S0.T.R.e+(bv S0.T.R.e m).length,m)∈S1.T.O.recs/\S1.T.O.recs.length=S0.T.O.recs.length+1/\S1.T.R.e=S0.T.R.e+(bv S0.T.R.e m).length+(bi m).length:=by
 have E:=zb h.tape;have F:=zb h1.tape
 have A:S1.T.O.recs=S0.T.O.recs++[(S0.T.R.e+(bv S0.T.R.e m).length,m)]:=by
  rw [h1.tape.recs,hp.its,hp.b,adq,<- E,ach,<- h.tape.recs]
 refine ⟨by rw [A]; simp,by rw [A]; simp,?_⟩;rw [F,hp.b,hp.its,uj,uu,List.length_append,List.length_append];omega
end StoW
namespace SndW
open Go.RowKit Go.MapKept Go.Sort OctMath RecMath RecW DskW SegW TapeW TapeMath PendW CacheW StoW TopW NameMath CqW
def atz (lo:Nat) (w:World) (S:StoD) (X:TabD) (N:Nat->Prop):Prop:=∃ ob d,S.off=.pointer (some ⟨ob,0,none⟩)/\w.heap[ob]?=some (.cells #[d,.slice none 0 0] 88 (0,0))/\lo<=ob/\¬ S.foot ob/\¬ X.foot ob/\¬ N ob
def DisX (base lo:Nat) (w:World) (S:StoD) (X:TabD) (r:Int):Prop:=∃ C D Y B,DisB base B (λk=>lo<=k) w S C D Y [] 0 0 r/\(∀ k,X.foot k->¬ kz C D Y k/\k≠B)/\atz lo w S X (λk=>kz C D Y k\/k=B)
theorem DisX.next {base lo:Nat} {w w':World} {S S':StoD} {X X':TabD} {r:Int} (h:DisX base lo w S X r) (hm:Mod (λk=>S.foot k\/X.foot k) w w') (e1:S'.cq=S.cq) (e2:S'.kx=S.kx) (e3:S'.dp=S.dp) (e4:S'.T.O.blk=S.T.O.blk) (e5:S'.off=S.off) (hf:∀ k,S'.foot k->S.foot k\/w.heap.size<=k) (hx:∀ k,X'.foot k->X.foot k\/w.heap.size<=k):DisX base lo w' S' X' r:=by
 obtain ⟨C,D,Y,B,h1,E,A,d,g1,g2,g3,g4,g5,g6⟩:=h;have F:=(Array.getElem?_eq_some_iff.1 g2).1;refine ⟨C,D,Y,B,h1.next hm (λk hk=>hk.elim (h1.apart k) (E k)) e1 e2 e3 e4 hf,λk hk=>(hx k hk).elim (E k) λJ=>⟨λI=>?_,λe=>?_⟩,A,d,e5.trans g1,(hm.block A F (λh=>h.elim g4 g5)).trans g2,g3,λh=>(hf A h).elim g4 λh=>by omega,λh=>(hx A h).elim g5 λh=>by omega,g6⟩
 . have:=h1.inv.lt I; omega
 . have:=(Array.getElem?_eq_some_iff.1 h1.cell).1; omega
theorem DisX.below {base lo:Nat} {w w':World} {S:StoD} {X:TabD} {r:Int} (h:DisX base lo w S X r) (hb:Below w.heap.size w w'):DisX base lo w' S X r :=
 h.next (Mod.of_below hb) rfl rfl rfl rfl rfl (λ_ h=>.inl h) (λ_ h=>.inl h)
structure MadeI (base:Nat) (W w:World) (D:DiskD) (now used:Int) (S:StoD) (X:TabD):Prop where
 st:StoTab base w S X
 now:S.now=now
 its:S.T.its=[]
 b:S.T.R.b=0
 syn:S.T.R.synced=S.T.R.e
 wt:S.T.D.waits=[]
 q:Quiet S.T.D
 db:S.T.D.blk=D.blk
 room:D.room - used<=S.T.D.room
 files:∀ p∈S.T.D.files,p.1=jk
 fl:S.T.D.files.length<=1
 pend:S.P.all=[]
 mod:Mod D.foot W w
 foot:∀ k,S.foot k->D.foot k\/W.heap.size<=k
 xfoot:∀ k,X.foot k->W.heap.size<=k
 low:base<=W.heap.size
 dis:DisX base W.heap.size w S X 4194184
 tb:X.l=[]\/∃ f,S.T.D.find jk=some f/\f.now=CrcMath.ai (ve X.l)
theorem MadeI.below {base:Nat} {W w w':World} {D:DiskD} {now used:Int} {S:StoD} {X:TabD} (h:MadeI base W w D now used S X) (hb:Below w.heap.size w w'):MadeI base W w' D now used S X :=
 { h with st:=h.st.below hb,mod:=h.mod.trans (Mod.of_below hb),dis:=h.dis.below hb }
theorem ab4 {base:Nat} {w:World} {S0:StoD} {X:TabD} (h:StoTab base w S0 X):w.cell? ⟨S0.blk,3,none⟩=some (.pointer (some ⟨X.blk,0,none⟩)) :=
 (h.sto.cell 3 _ rfl).trans (by show some S0.top=_; rw [h.top])
theorem aj3:∀ p,p<=99999999->jk≠ah qf p:=apf λx l e=>by cases e
theorem MadeI.add {base:Nat} {W w:World} {D:DiskD} {now used:Int} {S0:StoD} {X:TabD} (h:MadeI base W w D now used S0 X) (n:List UInt8) (q:Nat) (u:Int) (hok:qo X.l n q=0) (hn:n.length<=1000) (hl:∀ x∈X.l,x.1.length<=1000/\x.2<=255)
 (hu:used+((CrcMath.ai (ve (X.l++[(n,q)]))).length:Int)=u) (hr:u<=D.room) :
 Calls Tryz.prog 17 #[.pointer (some ⟨X.blk,0,none⟩),.string (S n),.int .i64 (q:Int)] w λe w'=>e=.returned (.int .i64 0)/\∃ S1 X1,MadeI base W w' D now u S1 X1/\X1.l=X.l++[(n,q)]/\X1.blk=X.blk/\S1.blk=S0.blk:=by
 have M:=h.st.tab;have E:=h.st.dk;have hz:=h.mod.size;obtain ⟨xb,dk,v,l⟩:=X;dsimp only at *
 subst E
 have hc:=asw (D:=S0.T.D) n q w M h.st.sto.tape.whole.dsk (λk hk e=>h.st.away k (.inr (.inl (.inr (.inl hk)))) (by subst e; exact .inl rfl)) h.q h.wt (λx O=>by
  obtain ⟨p,hp,rfl⟩:=List.mem_map.1 O;rw [h.files p hp]; decide) (by have:=h.fl; omega) (λp hp=>by rw [h.files p hp]; decide) hok hn hl (by have:=h.room; omega) (by have:=h.low; omega)
 refine hc.mono λe w' ⟨R,U,b,wv,m,h1,Y,F,Z,h5,h6,I⟩=>⟨R,S0.disk (DiskD.saved S0.T.D jk b (CrcMath.ai (ve (l++[(n,q)]))) wv),⟨xb,S0.T.D.blk,U,l++[(n,q)]⟩,?_,rfl,rfl,rfl⟩
 obtain ⟨hs,J⟩:=h.st.add aj3 h.wt Y h1 F Z h5 h6 I
 have B:(DiskD.saved S0.T.D jk b (CrcMath.ai (ve (l++[(n,q)]))) wv).files=[(jk,⟨b,CrcMath.ai (ve (l++[(n,q)])),CrcMath.ai (ve (l++[(n,q)]))⟩)]:=by
  show without S0.T.D.files jk++_=_;have:without S0.T.D.files jk=[]:=List.filter_eq_nil_iff.2 λp hp=>by simp [h.files p hp]
  rw [this]; rfl
 have ak:=ajz (D:=S0.T.D) (n:=jk) (t:=CrcMath.ai (ve (l++[(n,q)]))) (b:=b) (wv:=wv);refine ⟨hs,h.now,h.its,h.b,h.syn,h.wt,⟨h.q.left,h.q.up⟩,h.db,by have:=h.room; show _<=(DiskD.saved S0.T.D jk b (CrcMath.ai (ve (l++[(n,q)]))) wv).room; omega,λp hp=>?_,?_,h.pend,?_,λk hk=>(J k hk).elim (h.foot k) λh=>.inr (by omega),λk hk=>?_,h.low,h.dis.next (F.mono λk _ hk=>hk.elim (λA=>.inl (.inr (.inl (.inr (.inl A))))) λe=>.inr (.inl e)) rfl rfl rfl rfl rfl J λk hk=>hk.elim (λe=>.inl (.inl e)) λA=>.inr (I k A).1,.inr ⟨⟨b,CrcMath.ai (ve (l++[(n,q)])),CrcMath.ai (ve (l++[(n,q)]))⟩,?_,rfl⟩⟩
 . have hp:p∈(DiskD.saved S0.T.D jk b (CrcMath.ai (ve (l++[(n,q)]))) wv).files:=hp
   rw [B,List.mem_singleton] at hp; rw [hp]
 . show (DiskD.saved S0.T.D jk b (CrcMath.ai (ve (l++[(n,q)]))) wv).files.length<=1
   rw [B]; exact Nat.le_refl _
 . exact ((h.mod.mono (N:=λk=>D.foot k\/W.heap.size<=k) λk _ A=>.inl A).trans (F.mono (N:=λk=>D.foot k\/W.heap.size<=k) λk _ hk=>hk.elim (λA=>h.foot k (.inr (.inl (.inr (.inl A))))) λe=>.inr (h.xfoot k (.inl e)))).mono λk hk A=>A.elim (λh=>h) λh=>by omega
 . rcases hk with hk | hk
   . exact h.xfoot k (.inl hk)
   . have:=(I k hk).1; omega
 ·
  show DiskD.find (DiskD.saved S0.T.D jk b (CrcMath.ai (ve (l++[(n,q)]))) wv) jk=_;unfold DiskD.find;rw [B];rfl
def akv:List (List UInt8×Nat):=[([97],1),([98],3),([108,111,110,103,45,116,111,112,105,99,45,110,97,109,101,49],2)]
theorem amx:((CrcMath.ai (ve ([]++[([97],1)]))).length:Int)=9:=by rw [CrcMath.ji]; decide
theorem amy:((CrcMath.ai (ve ([([97],1)]++[([98],3)]))).length:Int)=13:=by rw [CrcMath.ji]; decide
theorem amz:((CrcMath.ai (ve ([([97],1),([98],3)]++[([108,111,110,103,45,116,111,112,105,99,45,110,97,109,101,49],2)]))).length:Int)=32:=by rw [CrcMath.ji]; decide
theorem ah7 {base:Nat} {D:DiskD} (now:Nat) (W:World) (hD:DiskAt base W D) (hq:Quiet D) (hf:D.files=[]) (M:D.waits=[]) (hbase:base<=W.heap.size) (hT:TabB base W) (hnow:now<=1099511626776) (hr:200<=D.room) :
 Calls Tryz.prog 5 #[.pointer (some ⟨D.blk,0,none⟩),.int .i64 (now:Int)] W λe w'=>∃ S X,e=.returned (.tuple #[.pointer (some ⟨S.blk,0,none⟩),.bool true])/\MadeI base W w' D (now:Int) 54 S X/\X.l=akv:=by
 have bz:=zq (DskW.new_any 4194304 base W hbase);have H1:Zq (DiskAt base W D/\Quiet D/\D.files=[]/\D.waits=[]/\200<=D.room):=⟨hD,hq,hf,M,hr⟩;have b0:=zq hT;have Z:=zq hbase;have b1:=zq hnow;clear hD hq hf M hT hbase hr hnow;go_enter Tryz.func5,Tryz.ntmps5;go_wp2_with fail;refine bz.o.mono ?_;rintro e w4 ⟨D2,rfl,ab,O,av,a1,b2,b5,F,b6,a7,a8⟩;clear bz;obtain ⟨hD,b7,b8,b9,cx⟩:=H1.o;have ba:=zq O
 have HO:=zq (ahu (base:=base) now w4 (hD.below O) b7 b8 b9 (Nat.le_trans Z.o O.size) (b0.o.below O) ab ⟨b2,b5⟩ F (by have:=ab3 (c:=4194304) F (by rw [a8]; rfl); omega) b6
  (λk hk B=>by have h3:=hD.lt hk; have h4:=ah5 ab F a7 av a1 k B; omega) b1.o)
 have ca:Zq (D2.room=4194304):=ab3 F (by rw [a8]; rfl);have bb:Zq (∀ k,D2.foot k->W.heap.size<=k):=λk hk=>ah5 ab F a7 av a1 k hk
 clear ab O av a1 b2 b5 F b6 a7 a8 hD b7 b8 b9 cx b0 b1;go_wp2_with fail;refine HO.o.mono ?_;rintro e w5 ⟨S0,rfl,hS,cb,R,hb,cc,M,hq,bc,cd,bd,⟨I,b4,tv,cf,cg,da,A,ac,ci,CC,DD,YY,BB,U,E⟩,hm,cj⟩;clear HO;have db:=ba.o.size
 have ad:Zq (MadeI base W w5 D (now:Int) 0 S0 ⟨I,D.blk,tv,[]⟩):=by
  refine ⟨⟨hS,⟨A.t,ahb A.r (by have:=Z.o; omega),by have:=A.lo; have:=Z.o; show base<=I; omega⟩,cf,bc.symm,λk hk B=>?_⟩,cb,R,hb,cc,M,hq,bc,by rw [cd]; omega,by rw [bd]; simp,by rw [bd]; simp,?_,?_,λk hk=>(cj k hk).imp (λh=>h) λh=>by omega,λk hk=>?_,Z.o,?_,.inl rfl⟩
  . rcases B with B | B
    . have B:k=I:=B
      subst B; exact ac _ (.inl rfl) hk
    . exact ac k (.inr (.inr B)) hk
  . rw [ci,afs hS.tape R]; rfl
  . exact ((Mod.of_below ba.o).trans (hm.mono (N:=λk=>D.foot k\/W.heap.size<=k) λk _ hk=>hk.imp (λh=>h) (bb.o k))).mono λk hk h=>h.elim (λh=>h) λh=>by omega
  . rcases hk with B | B
    . have B:k=I:=B
      have:=A.lo; omega
    . have:=(A.lo_all (.inr (.inr B))).1; omega
  ·
   refine ⟨CC,DD,YY,BB,{ U.mono (L':=λk=>W.heap.size<=k) (λk hk=>hk.elim (bb.o k) λh=>by omega) with room:=by have:=U.room; have:=ca.o; omega },λk hk=>?_,b4,_,cg,A.g,by have:=A.lo; omega,ac b4 (.inr (.inl rfl)),λh=>?_,λh=>?_⟩
   . rcases hk with B | B
     . have B:k=I:=B
       exact E k (.inl B)
     . exact E k (.inr (.inr B))
   . rcases h with h | h
     . exact A.lo.2.2 (show b4=I from h).symm
     . exact (A.own h).2 rfl
   . exact h.elim (E b4 (.inr (.inl rfl))).1 (E b4 (.inr (.inl rfl))).2
 have ck:=H1.o.2.2.2.2;clear hS cb R hb cc M hq bc cd bd cf cg da A ac ci U E hm cj db bb ca ba H1;have bh:=zq ck;clear ck;obtain ⟨sb,al⟩:∃ sb,S0.blk=sb:=⟨_,rfl⟩;have cm:=zq al;have c3:w5.cell? ⟨sb,3,none⟩=some (.pointer (some ⟨I,0,none⟩)):=by rw [<- al]; exact ab4 ad.o.st
 have cn:=zq (ao5 w5 ad.o.st.tab (by simp));rw [al];clear al;go_wp2_with fail;refine cn.o.mono ?_;rintro e w6 ⟨v',rfl,ho,bj⟩;obtain ⟨a6,dt,dc,_⟩:=RowT.own ho;subst dc;have co:=zq (ad.o.below bj);have dd:w6.cell? ⟨sb,3,none⟩=some (.pointer (some ⟨I,0,none⟩)):=by rw [bj.cell (ay c3)]; exact c3
 clear ho bj cn c3 ad;have am:=zq (co.o.add [97] 1 9 rfl (by decide) (by simp) (by rw [amx]; rfl) (by have:=bh.o; omega));rw [show ((1:Nat):Int)=1 from rfl,show S [97]=⟨#[97]⟩ from rfl] at am;change Zq (Calls _ _ #[.pointer (some ⟨I,0,none⟩),_,_] _ _) at am;go_wp2_with fail;refine am.o.mono ?_;rintro e w7 ⟨rfl,S1,X1,an,Y,bk,bl⟩;have de:=zq an;have cp:Zq (X1.l=[([97],1)]):=Y;have c7:w7.cell? ⟨sb,3,none⟩=some (.pointer (some ⟨I,0,none⟩)):=by rw [<- cm.o,<- bl]; exact (ab4 an.st).trans (by rw [bk])
 have ao:=zq (an.add [98] 3 22 (by rw [Y]; rfl) (by decide) (by rw [Y]; simp) (by rw [Y]; rw [show ([]++[([97],1)]++[([98],3)]:List (List UInt8×Nat))=[([97],1)]++[([98],3)] from rfl,amy]; rfl) (by have:=bh.o; omega));rw [show ((3:Nat):Int)=3 from rfl,show S [98]=⟨#[98]⟩ from rfl,bk] at ao;have bm:Zq (S1.blk=sb):=bl.trans cm.o;change Zq (Calls _ _ #[.pointer (some ⟨I,0,none⟩),_,_] _ _) at ao;clear an Y bk bl am co dd;go_wp2_with fail;refine ao.o.mono ?_;rintro e w8 ⟨rfl,S2,X2,ap,J,bo,bp⟩;rw [cp.o] at J;have dj:=zq ap;have c8:w8.cell? ⟨sb,3,none⟩=some (.pointer (some ⟨I,0,none⟩)):=by rw [<- bm.o,<- bp]; exact (ab4 ap.st).trans (by rw [bo])
 have ar:=zq (ap.add [108,111,110,103,45,116,111,112,105,99,45,110,97,109,101,49] 2 54 (by rw [J]; rfl) (by decide) (by rw [J]; simp) (by rw [J]; rw [show ([([97],1)]++[([98],3)]++[([108,111,110,103,45,116,111,112,105,99,45,110,97,109,101,49],2)]:List (List UInt8×Nat))=[([97],1),([98],3)]++[([108,111,110,103,45,116,111,112,105,99,45,110,97,109,101,49],2)] from rfl,amz]; rfl) (by have:=bh.o; omega));rw [show ((2:Nat):Int)=2 from rfl,show S [108,111,110,103,45,116,111,112,105,99,45,110,97,109,101,49]=⟨#[108,111,110,103,45,116,111,112,105,99,45,110,97,109,101,49]⟩ from rfl,bo] at ar;have cq:Zq (S2.blk=sb):=bp.trans bm.o;have cr:Zq (X2.l=[([97],1)]++[([98],3)]):=J;change Zq (Calls _ _ #[.pointer (some ⟨I,0,none⟩),_,_] _ _) at ar;clear ap J bo bp ao de c7 cp bm;go_wp2_with fail;refine ar.o.mono ?_;rintro e w9 ⟨rfl,S3,X3,cs,br,dk,cv⟩;rw [cr.o] at br;have dl:Zq (MadeI base W w9 D (now:Int) 54 S3 X3/\X3.l=akv/\S3.blk=sb):=⟨cs,br,cv.trans cq.o⟩;clear cs br dk cv ar dj c8 cr cq;go_wp2_with fail;go_ret2;obtain ⟨g1,g2,g3⟩:=dl.o;exact ⟨S3,X3,by rw [g3]; rfl,g1,g2⟩
end SndW
namespace RecW
open Go.RowKit OctMath NameMath RecMath
end RecW
namespace SndW
open Go.RowKit Go.MapKept Go.Sort OctMath RecMath RecW DskW SegW MapG TapeW TapeMath PendW CacheW StoW TopW NameMath
theorem zh:∀ y∈akv,ik y.1=true/\y.2<=3:=by decide
def pg:lu:=⟨[97],0,[],[],[]⟩
theorem ael:zg pg:=⟨⟨by decide,by decide⟩,by decide,by decide,by decide,by decide,λt A=>by cases A⟩
theorem akw:xh akv pg=0:=by decide
theorem MadeI.fits {base:Nat} {W w:World} {D:DiskD} {now used:Int} {S0:StoD} {X:TabD} (h:MadeI base W w D now used S0 X):S0.T.R.e=0/\S0.T.O.recs=[]/\S0.T.D.waits.length=0:=⟨asx h.st.sto.tape h.its h.b,afs h.st.sto.tape h.its,by rw [h.wt]; rfl⟩
structure SentI (base:Nat) (W w:World) (sb db ob most k:Nat) (nw:Int) (ws:List lu) (S0:StoD) (X:TabD):Prop where
 st:StoTab base w S0 X
 quiet:Quiet S0.T.D
 now:S0.now=nw
 blk:S0.blk=sb
 dblk:S0.T.D.blk=db
 oblk:S0.T.O.blk=ob
 room:(((most - k) * 1531:Nat):Int)<=S0.T.D.room
 wl:S0.T.D.waits.length<=2 * k
 e:S0.T.R.e<=1531 * k
 recs:S0.T.O.recs.map (·.2)=(ws.take k).map λx=>jm x 1 0 nw
 ft:∀ j,S0.foot j->base<=j
 low:Below base W w
theorem SentI.rl {base:Nat} {W w:World} {sb db ob most k:Nat} {now:Int} {ws:List lu} {S0:StoD} {X:TabD} (h:SentI base W w sb db ob most k now ws S0 X):S0.T.O.recs.length<=k:=by
 have:=congrArg List.length h.recs;rw [List.length_map,List.length_map,List.length_take] at this;omega
theorem ah8 {e:Nat} {m:Msg} (hl:3<=jd e) (hr:bq m=true) (h0:m.kind≠0):(bv e m).length<=1024/\(bi m).length<=507:=by
 obtain ⟨l1,l2⟩:=vv hr h0;have B:=ad6 e m hl;have A:=room_le e;refine ⟨?_,l2⟩
 rcases B with ⟨e,_⟩ | ⟨e,_⟩
 . rw [e]; exact Nat.zero_le _
 . omega
theorem SentI.next {base:Nat} {W w w2:World} {sb db ob most k:Nat} {now:Int} {ws:List lu} {S0 S1:StoD} {X:TabD} {sy:Bool} (h:SentI base W w sb db ob most k now ws S0 X) (hk:k < most) (hkl:k < ws.length) (hr:bq (jm ws[k] 1 0 S0.now)=true) (hs:base<=w.heap.size)
 (h1:StoTab base w2 S1 X) (hp:Put w.heap.size S0 S1 (jm ws[k] 1 0 S0.now) sy) (hm:Mod S0.foot w w2):SentI base W w2 sb db ob most (k+1) now ws S1 X:=by
 have h0:(jm ws[k] 1 0 S0.now).kind≠0:=by show (1:Int)≠0; decide
 obtain ⟨l1,l2⟩:=ah8 (agb h.st.sto.tape) hr h0;obtain ⟨_,F,I⟩:=apg h.st.sto h1.sto hp;have B:=ah6 h.st.sto h1.sto hp;have A:(gq (oh S0.T.R.e (jm ws[k] 1 0 S0.now))).length=(bv S0.T.R.e (jm ws[k] 1 0 S0.now)).length+(bi (jm ws[k] 1 0 S0.now)).length:=by rw [uu,List.length_append]
 refine ⟨h1,hp.quiet,by rw [hp.same]; exact h.now,by rw [hp.same]; exact h.blk,hp.dblk.trans h.dblk,hp.oblk.trans h.oblk,?_,?_,?_,?_,λj E=>(hp.foot j E).elim (h.ft j) λJ=>by omega,h.low.trans (hm.to_below _ hs h.ft)⟩
 . rw [hp.room,A]; have:=h.room; omega
 . have:=hp.wl; have:=h.wl; omega
 . have:=h.e; omega
 . rw [B,List.map_append,h.recs,List.take_succ_eq_append_getElem hkl,List.map_append,h.now]; rfl
theorem SentI.fits {base:Nat} {W w:World} {sb db ob most k:Nat} {now:Int} {ws:List lu} {S0:StoD} {X:TabD} (h:SentI base W w sb db ob most k now ws S0 X) (hk:k < most) {m:Msg} (hr:bq m=true) (h0:m.kind≠0):(((bv S0.T.R.e m).length+(bi m).length:Nat):Int)<=S0.T.D.room:=by
 obtain ⟨l1,l2⟩:=ah8 (agb h.st.sto.tape) hr h0;have:=h.room;omega
end SndW
namespace RetW
open Go.RowKit Go.MapKept Go.Sort OctMath RecMath RecW DskW SegW TapeW TapeMath PendW CacheW StoW TopW NameMath SndW
theorem aft (g t:List UInt8) (q p:Int) (hg:iq g=true) (ht:jq t=true) (hgl:g.length<=100) (htl:t.length<=100) (hq:0<=q/\q < 3) (hp:0<=p/\p<=1000000) (W:World) :
 Calls Tryz.prog 62 #[.agg #[.string (S g),.string (S t),.int .i64 q,.int .i64 p]] W λe w'=>e=.returned (.int .i64 0)/\Below W.heap.size W w':=by
 have B:Below W.heap.size W (W.alloc (.cells #[.string (S g),.string (S t),.int .i64 q,.int .i64 p] 83)):=(Below.refl _ W).alloc (Nat.le_refl _) _;have I:Zq ((W.alloc (.cells #[.string (S g),.string (S t),.int .i64 q,.int .i64 p] 83)).heap[W.heap.size]?=some (.cells #[.string (S g),.string (S t),.int .i64 q,.int .i64 p] 83 (0,0))):=heap_alloc_new W _;have E:=zq B;have R:Zq (∀ w,Calls Tryz.prog 58 #[.string (S g)] w λe w'=>e=.returned (.bool true)/\Below w.heap.size w w'):=λw=>by have:=NameW.tq g (by omega) w; rw [hg] at this; exact this
 have U:Zq (∀ w,Calls Tryz.prog 126 #[.string (S t)] w λe w'=>e=.returned (.bool true)/\Below w.heap.size w w'):=λw=>by have:=NameW.aas t (by omega) w; rw [ht] at this; exact this
 have Z:¬ q < 0:=by omega
 have q2:¬ (3:Int)<=q:=by omega
 have p1:¬ p < 0:=by omega
 have p2:¬ (1099511627776:Int) < p:=by omega
 clear B hg ht hgl htl hq hp;generalize S g=sg at *
 generalize S t=st at *
 go_enter Tryz.func62,Tryz.ntmps62;go_upto_region 1 with fail
 generalize W.alloc (.cells #[.string sg,.string st,.int .i64 q,.int .i64 p] 83)=w1 at *
 obtain ⟨A,X⟩:∃ A,W.heap.size=A:=⟨_,rfl⟩;rw [X] at I ⊢;have Y:=aa I.o 0 _ rfl;go_wp2_with fail;refine (R.o w1).mono ?_;rintro e w2 ⟨rfl,hb⟩;have J:=ag hb I.o;have F:=zq (E.o.trans (hb.mono E.o.size));have M:=zq J;have k1:=aa J 1 _ rfl;clear J hb Y;go_wp2_with fail;refine (U.o w2).mono ?_;rintro e w3 ⟨rfl,hb⟩;have N:=ag hb M.o;have O:=zq (F.o.trans (hb.mono F.o.size));have k2:=aa N 2 _ rfl;have k3:=aa N 3 _ rfl;clear N hb k1 R U;go_wp2_with fail;go_ret;exact ⟨rfl,X ▸ O.o⟩
theorem aph:∃ i,Tryz.prog.info? 83=some i/\i.zero=some (.agg #[.string ⟨#[]⟩,.string ⟨#[]⟩,.int .i64 0,.int .i64 0])/\i.size=4/\i.bytes=48:=by
 have:=(show (Tryz.prog.info? 83).map (λi=>(i.zero,i.size,i.bytes))=some (some (.agg #[.string ⟨#[]⟩,.string ⟨#[]⟩,.int .i64 0,.int .i64 0]),4,48) by kernel_rfl)
 cases hh:Tryz.prog.info? 83 with
 | none=>rw [hh] at this; cases this
 | some i=>rw [hh] at this; have A:=Option.some.inj this; exact ⟨i,rfl,congrArg (·.1) A,congrArg (·.2.1) A,congrArg (·.2.2) A⟩
def OffR (w:World) (R:Nat) (g t:ByteArray) (q p:Int):Prop:=∃ cs:Array Value,w.heap[R]?=some (.cells cs 83 (0,0))/\cs[0]?=some (.string g)/\cs[1]?=some (.string t)/\cs[2]?=some (.int .i64 q)/\cs[3]?=some (.int .i64 p)
theorem OffR.keep {w w':World} {R:Nat} {g t:ByteArray} {q p:Int} (h:OffR w R g t q p) (e:w'.heap[R]?=w.heap[R]?):OffR w' R g t q p:=by
 obtain ⟨A,h0,h1⟩:=h;exact ⟨A,e.trans h0,h1⟩
theorem OffR.lt {w:World} {R:Nat} {g t:ByteArray} {q p:Int} (h:OffR w R g t q p):R < w.heap.size:=by
 obtain ⟨A,h0,_⟩:=h;exact (Array.getElem?_eq_some_iff.1 h0).1
theorem OffR.mod {M:Nat->Prop} {w w':World} {R:Nat} {g t:ByteArray} {q p:Int} (h:OffR w R g t q p) (hm:Mod M w w') (hR:¬ M R):OffR w' R g t q p:=h.keep (hm.block R h.lt hR)
theorem OffR.below {w w':World} {R:Nat} {g t:ByteArray} {q p:Int} (h:OffR w R g t q p) (hb:Below w.heap.size w w'):OffR w' R g t q p:=h.mod (M:=λ_=>False) (Mod.of_below hb) id
theorem OffR.cells {w:World} {R:Nat} {g t:ByteArray} {q p:Int} (h:OffR w R g t q p):w.cell? ⟨R,0,none⟩=some (.string g)/\w.cell? ⟨R,1,none⟩=some (.string t)/\w.cell? ⟨R,2,none⟩=some (.int .i64 q)/\w.cell? ⟨R,3,none⟩=some (.int .i64 p):=by
 obtain ⟨B,h0,a0,A,a2,a3⟩:=h;exact ⟨aa h0 0 _ a0,aa h0 1 _ A,aa h0 2 _ a2,aa h0 3 _ a3⟩
theorem aj4 (g t:ByteArray) (q p:Int) (G:Nat) (w:World) (hG:w.heap[G]?=some (.cells #[.string g,.string t,.int .i64 q,.int .i64 p] 83 (0,0))) :
 ∃ R cap E,(Builtin.append_ #[86,86] 86 #[.slice none 0 0,.slice (some ⟨G,0,none⟩) 1 1]).run Tryz.prog w=.ok (.slice (some ⟨R,0,none⟩) 1 cap) E /\
  OffR E R g t q p/\Below w.heap.size w E/\w.heap.size<=R:=by
 obtain ⟨i0,M,N,O,U⟩:=aph;have h0:w.ownsRow w.heap.size 83 4 (.slice none 0 0) 0 []:=⟨rfl,.inl ⟨rfl,rfl⟩⟩
 obtain ⟨v',E,hr,F,A,_,ac⟩:=run_append_own_at (P:=Tryz.prog) _ w.heap.size 86 86 83 i0 (.agg #[.string ⟨#[]⟩,.string ⟨#[]⟩,.int .i64 0,.int .i64 0]) 4 48 Tryz.underlying86 M N O U rfl (by omega) _ _ _ h0
  ⟨G,0,none⟩ 1 1 (#[.string g,.string t,.int .i64 q,.int .i64 p]:Array Value).toList rfl (λj u hu=>by
   have I:(⟨G,0,none⟩:Addr).add j=⟨G,j,none⟩:=by unfold Addr.add; split <;> simp_all
   rw [I,Lib.cell_of_heap hG];rw [Array.getElem?_toList] at hu
   simpa using hu) (λu hu=>by
   have J:u∈[Value.string g,.string t,.int .i64 q,.int .i64 p]:=hu;simp only [List.mem_cons,List.not_mem_nil,or_false] at J
   rcases J with rfl | rfl | rfl | rfl <;> rfl) (by unfold maxLen; omega) (by omega) (Nat.le_refl _)
 have X:Below w.heap.size w E:=(show Mod (λ_=>False) w E from ⟨A.os,A.tape,A.output,A.size,λk hk ad=>A.block k hk (λe=>by cases e)⟩).to_below _ (Nat.le_refl _) λk h=>h.elim
 rcases F.2 with ⟨e,h1⟩ | ⟨R,cap,cur,e,hb,hg,hn,hm,hc,ht⟩
 . omega
 ·
  subst e
  have B:∀ j v,(#[.string g,.string t,.int .i64 q,.int .i64 p]:Array Value)[j]?=some v->cur[j]?=some v:=λj v Y=>by
   have h5:j < 4:=(Array.getElem?_eq_some_iff.1 Y).1;have Z:([]++(#[.string g,.string t,.int .i64 q,.int .i64 p]:Array Value).toList)[j]?=some v:=by rw [List.nil_append,Array.getElem?_toList]; exact Y
   rw [<- ht,List.getElem?_take,if_pos (by omega)] at Z
   simpa using Z
  exact ⟨R,cap,E,hr,⟨cur,hg,B 0 _ rfl,B 1 _ rfl,B 2 _ rfl,B 3 _ rfl⟩,X,hb⟩
theorem aj5 (g t:ByteArray) (q p:Int) (G:Nat) (w:World) (hG:w.heap[G]?=some (.cells #[.string g,.string t,.int .i64 q,.int .i64 p] 83 (0,0))) :
 Calls Tryz.prog 63 #[.slice none 0 0,.int .i64 0,.slice (some ⟨G,0,none⟩) 1 1] w λe w'=>∃ R cap,e=.returned (.slice (some ⟨R,0,none⟩) 1 cap) /\
  OffR w' R g t q p/\Below w.heap.size w w'/\w.heap.size<=R:=by
 obtain ⟨R,cap,M,B,hc,hb,E⟩:=aj4 g t q p G w hG;have F:=zq B;have I:=zq hc;have J:=zq hb;have A:=zq E;clear B hc hb E hG;go_enter Tryz.func63,Tryz.ntmps63;go_wp2_with (at_builtin; refine wpList_append_run _ rfl (.tmp 23) (.tmp 24) 86 86 rfl _ _ rfl rfl _ _ F.o ?_);go_ret;exact ⟨R,cap,rfl,I.o,J.o,A.o⟩
theorem arb (g t:List UInt8) (q p:Int) (hg:iq g=true) (ht:jq t=true) (hgl:g.length<=100) (htl:t.length<=100) (hq:0<=q/\q < 3) (hp:0<=p/\p<=1000000) (ob:Nat) (d:Value) (W:World) (ho:W.heap[ob]?=some (.cells #[d,.slice none 0 0] 88 (0,0))) :
 Calls Tryz.prog 28 #[.pointer (some ⟨ob,0,none⟩),.agg #[.string (S g),.string (S t),.int .i64 q,.int .i64 p]] W λe w'=>e=.returned (.int .i64 0)/\∃ R cap,w'.heap[ob]?=some (.cells #[d,.slice (some ⟨R,0,none⟩) 1 cap] 88 (0,0)) /\
  OffR w' R (S g) (S t) q p/\Mod (λk=>k=ob) W w'/\W.heap.size<=R:=by
 have N:Below W.heap.size W (W.alloc (.cells #[.string (S g),.string (S t),.int .i64 q,.int .i64 p] 83)):=(Below.refl _ W).alloc (Nat.le_refl _) _;have HA:Zq ((W.alloc (.cells #[.string (S g),.string (S t),.int .i64 q,.int .i64 p] 83)).heap[W.heap.size]?=some (.cells #[.string (S g),.string (S t),.int .i64 q,.int .i64 p] 83 (0,0))):=heap_alloc_new W _;have HO:Zq ((W.alloc (.cells #[.string (S g),.string (S t),.int .i64 q,.int .i64 p] 83)).heap[ob]?=some (.cells #[d,.slice none 0 0] 88 (0,0))):=ag N ho;have O:=zq N;have HR:=zq (λw=>aft g t q p hg ht hgl htl hq hp w);have ab:=zq (λw=>apc (S g) (S t) q p w);have HI:=zq (λG w h=>aj5 (S g) (S t) q p G w h);clear N hg ht hgl htl hq hp ho;generalize S g=g at *
 generalize S t=t at *
 go_enter Tryz.func28,Tryz.ntmps28;go_upto_region 1 with fail
 generalize W.alloc (.cells #[.string g,.string t,.int .i64 q,.int .i64 p] 83)=w1 at *
 obtain ⟨A,hA⟩:∃ A,W.heap.size=A:=⟨_,rfl⟩;rw [hA] at HA ⊢
 have HK:Zq (∀ w,Below w1.heap.size w1 w->w.cell? ⟨ob,1,none⟩=some (.slice none 0 0)/\w.cell? ⟨A,0,none⟩=some (.string g)/\w.cell? ⟨A,1,none⟩=some (.string t)/\w.cell? ⟨A,2,none⟩=some (.int .i64 q)/\w.cell? ⟨A,3,none⟩=some (.int .i64 p)/\True):=λw hb=>by
  have h1:=ag hb HO.o;have M:=ag hb HA.o;exact ⟨aa h1 1 _ rfl,aa M 0 _ rfl,aa M 1 _ rfl,aa M 2 _ rfl,aa M 3 _ rfl,trivial⟩
 obtain ⟨_,k0,k1,k2,k3,_⟩:=HK.o w1 (Below.refl _ _);go_wp2_with fail;refine (HR.o w1).mono ?_;rintro e w2 ⟨rfl,hb⟩;have ac:=zq hb;clear hb k0 k1 k2 k3 HR;go_upto_region 6 with fail
 have U:Zq (∀ w,RecW.ExtR w2.drew w->Below w1.heap.size w1 w):=λw E=>ac.o.trans ((((Below.refl w2.heap.size w2).drew).trans E).mono ac.o.size)
 refine GrowN.aj 11 [none,none,none,none,none,some (.inl (.tuple #[.int .i64 0,.bool false])),none,none,none,none,none] (RecW.ExtR) (by kernel_rfl) (by kernel_rfl) (by kernel_rfl) (RecW.ExtR.refl) (λ_ _ _=>RecW.ExtR.trans) ?_ ?_
 . exact GrowN.jg rfl
 simp only [List.take_succ_cons,List.take_zero,List.drop_succ_cons,List.drop_zero]
 iterate 5
  refine GrowN.g_det rfl ?_;apply Exists.intro;refine ⟨λw E B=>?_,?_⟩
  . clear B
    obtain ⟨a1,b0,b1,b2,b3,_⟩:=HK.o w (U.o w E);go_simp;exact ⟨rfl,RecW.ExtR.refl _⟩
  go_frame
 refine GrowN.g_con rfl (λw E B=>?_) ?_
 . clear B
   go_simp;exact (ab.o w).mono λe w3 h=>⟨_,h.1,rfl,h.2⟩
 iterate 5
  go_frame;refine GrowN.g_det rfl ?_;apply Exists.intro;refine ⟨λw E B=>?_,?_⟩
  . clear B
    go_simp;exact ⟨rfl,RecW.ExtR.refl _⟩
 go_frame;refine GrowN.g_nil λw4 ad B=>?_
 clear B;have F:=zq (U.o w4 ad);clear ad U ab;obtain ⟨c1,_⟩:=HK.o w4 F.o;go_upto_region 7 with fail
 clear c1;obtain ⟨X,rfl⟩:∃ X:World,X=w4:=⟨_,rfl⟩;have I:Zq (∀ w,RecW.ExtR X.drew w->Below w1.heap.size w1 w):=λw E=>F.o.trans ((((Below.refl X.heap.size X).drew).trans E).mono F.o.size)
 refine GrowN.aj 9 [none,none,none,none,none,none,none,some (.inr λ_ v w=>∃ G,v=.slice (some ⟨G,0,none⟩) 1 1/\w.heap[G]?=some (.cells #[.string g,.string t,.int .i64 q,.int .i64 p] 83 (0,0))),some (.inr λ_ v w=>∃ R cap,v=.slice (some ⟨R,0,none⟩) 1 cap/\X.heap.size<=R/\OffR w R g t q p)] (RecW.ExtR) (by kernel_rfl) (by kernel_rfl) (by kernel_rfl) (RecW.ExtR.refl) (λ_ _ _=>RecW.ExtR.trans) ?_ ?_
 ·
  intro K hK Y hY l v w w' hR h;simp only [List.mem_cons,List.not_mem_nil,or_false] at hK
  rcases hK with rfl | rfl | rfl | rfl | rfl | rfl | rfl | rfl | rfl <;> simp only [reduceCtorEq,Option.some.injEq,Sum.inr.injEq] at hY
  . subst hY; obtain ⟨G,e,hg⟩:=h; exact ⟨G,e,ag hR hg⟩
  . subst hY; obtain ⟨R,cap,e,hl,hc⟩:=h; exact ⟨R,cap,e,hl,hc.below hR⟩
 simp only [List.take_succ_cons,List.take_zero,List.drop_succ_cons,List.drop_zero]
 iterate 7
  refine GrowN.g_det rfl ?_;apply Exists.intro;refine ⟨λw E B=>?_,?_⟩
  . clear B
    obtain ⟨a1,b0,b1,b2,b3,_⟩:=HK.o w (I.o w E);go_simp;exact ⟨rfl,RecW.ExtR.refl _⟩
  go_frame
 refine GrowN.g_new rfl (λw E B=>?_) (λv7=>?_)
 . clear B
   go_simp;exact ⟨⟨_,rfl,heap_alloc_new w _⟩,(Below.refl _ w).alloc (Nat.le_refl _) _⟩
 go_frame;refine GrowN.g_new rfl (λw E B=>?_) (λv8=>?_)
 ·
  skip
  obtain ⟨G,rfl,hG⟩:=B _ (.head _) (by kernel_rfl);clear B;have a6:=zq (HI.o G w hG);have b7:=(I.o w E).size;clear hG;go_simp;exact a6.o.mono λe w3 ⟨R,cap,h1,M,h3,h4⟩=>⟨_,h1,⟨R,⟨cap,rfl⟩,Nat.le_trans E.size h4,M⟩,h3⟩
 go_frame;refine GrowN.g_nil λZ ak B=>?_
 obtain ⟨R,cap,hv,a8,al⟩:=B _ (.head _);clear B
 first | subst hv | (dsimp only at hv; subst hv)
 have am:=zq (I.o Z ak);have ba:=zq al;have bb:Zq (A<=R):=by have h1:=F.o.size; have M:=O.o.size; show _<=_; omega
 have J:=ag am.o HO.o;have z1:=aa J 1 _ rfl;have f1:=ae J 1;have HM:Zq (Mod (λk=>k=ob) Z (Z.setCell ⟨ob,1,none⟩ (.slice (some ⟨R,0,none⟩) 1 cap))):=(Mod.refl (λk=>k=ob) Z).setCell (a:=⟨ob,1,none⟩) (.inl rfl) _;have HS:Zq ((Z.setCell ⟨ob,1,none⟩ (.slice (some ⟨R,0,none⟩) 1 cap)).heap[ob]?=some (.cells #[d,.slice (some ⟨R,0,none⟩) 1 cap] 88 (0,0))):=heap_setCell_same Z ob 1 _ _ _ J
 have bc:Zq (R≠ob):=λe=>by
  have h1:=(Array.getElem?_eq_some_iff.1 HO.o).1;have M:=F.o.size;omega
 clear al ak a8 J I HI;go_wp2_with fail;go_ret;exact ⟨rfl,R,cap,HS.o,ba.o.mod HM.o bc.o,(Mod.of_below (hA ▸ O.o.trans (am.o.mono O.o.size))).trans HM.o,hA ▸ bb.o⟩
theorem arc (g t:ByteArray) (q:Int) (ob:Nat) (d:Value) (W:World) (ho:W.heap[ob]?=some (.cells #[d,.slice none 0 0] 88 (0,0))) :
 Calls Tryz.prog 10 #[.pointer (some ⟨ob,0,none⟩),.string g,.string t,.int .i64 q] W λe w'=>e=.returned (.int .i64 0)/\Below W.heap.size W w':=by
 have A:=zq (λw=>apc g t q 0 w);have c1:=aa ho 1 _ rfl;clear ho;go_enter Tryz.func10,Tryz.ntmps10;go_wp2_with fail;refine (A.o W).mono ?_;rintro e w2 ⟨rfl,hb⟩;have B:=zq hb;clear hb A c1;go_wp2_with fail;go_ret;exact ⟨rfl,B.o⟩
theorem get_one (g t:ByteArray) (q p:Int) (R cap:Nat) (ob:Nat) (d:Value) (W:World) (ho:W.heap[ob]?=some (.cells #[d,.slice (some ⟨R,0,none⟩) 1 cap] 88 (0,0)))
 (hR:OffR W R g t q p) :
 Calls Tryz.prog 10 #[.pointer (some ⟨ob,0,none⟩),.string g,.string t,.int .i64 q] W λe w'=>e=.returned (.int .i64 p)/\Below W.heap.size W w':=by
 obtain ⟨h0,h1,E,B⟩:=hR.cells;have A:=zq (apd g t q p 0 R cap W h0 h1 E B);have c1:=aa ho 1 _ rfl;have I:=zq ho;have F:=zq B;clear ho hR h0 h1 E B;go_enter Tryz.func10,Tryz.ntmps10;go_wp2_with fail;refine A.o.mono ?_;rintro e w2 ⟨rfl,hb⟩;have J:=zq hb;have c1:=aa (ag hb I.o) 1 _ rfl;have c3:w2.cell? ⟨R,3,none⟩=some (.int .i64 p):=by rw [hb.cell (ay F.o)]; exact F.o
 clear hb A;go_wp2_with fail;go_ret;exact ⟨rfl,J.o⟩
end RetW
namespace EntW
open Go.RowKit OctW OctMath
def j6:List Nat->RS->List Nat×RS
 | [],r=>([],r)
 | n :: ns,r=>((dm (n:Int) r).1 :: (j6 ns (dm (n:Int) r).2).1,(j6 ns (dm (n:Int) r).2).2)
theorem agf (a b:List Nat):∀ r,j6 (a++b) r=((j6 a r).1++(j6 b (j6 a r).2).1,(j6 b (j6 a r).2).2):=by
 induction a with
 | nil=>intro r; rfl
 | cons n a ih=>intro r; simp only [List.cons_append,j6,ih]
theorem aj6 (ns:List Nat) (k:Nat) (h:k < ns.length) (r:RS):j6 (ns.take (k+1)) r=((j6 (ns.take k) r).1++[(dm (ns[k]:Int) (j6 (ns.take k) r).2).1],(dm (ns[k]:Int) (j6 (ns.take k) r).2).2):=by
 rw [List.take_succ_eq_append_getElem h,agf]; rfl
theorem ab5 (ns:List Nat):∀ r,(j6 ns r).1.length=ns.length:=by
 induction ns with
 | nil=>intro r; rfl
 | cons n ns ih=>intro r; simp [j6,ih]
theorem am0 (ns:List Nat):∀ r,(j6 ns r).2.s.length<=r.s.length:=by
 induction ns with
 | nil=>intro r; exact Nat.le_refl _
 | cons n ns ih=>intro r; exact Nat.le_trans (ih _) (je _ _)
def Wb (g:Nat) (ns xs:List Nat) (w:World):Prop:=∀ i (h:i < ns.length),w.heap[g+i]?=some (.cells #[.int .i64 (ns[i]:Int),.int .i64 (xs.getD i 0:Nat)] 299 (0,0))
theorem Wb.mod {M:Nat->Prop} {g:Nat} {ns xs:List Nat} {w w':World} (h:Wb g ns xs w) (hm:Mod M w w') (hM:∀ i,i < ns.length->¬ M (g+i)):Wb g ns xs w':=λi A=>(hm.block _ (Array.getElem?_eq_some_iff.1 (h i A)).1 (hM i A)).trans (h i A)
theorem Wb.cell0 {g:Nat} {ns xs:List Nat} {w:World} (h:Wb g ns xs w) (i:Nat) (hi:i < ns.length):w.cell? ⟨g+i,0,none⟩=some (.int .i64 (ns[i]:Int)):=by unfold World.cell?; rw [show w.heap[(⟨g+i,0,none⟩:Addr).block]?=_ from h i hi]; rfl
theorem Wb.cell1 {g:Nat} {ns xs:List Nat} {w:World} (h:Wb g ns xs w) (i:Nat) (hi:i < ns.length):w.cell? ⟨g+i,1,none⟩=some (.int .i64 (xs.getD i 0:Nat)):=by unfold World.cell?; rw [show w.heap[(⟨g+i,1,none⟩:Addr).block]?=_ from h i hi]; rfl
theorem Wb.free1 {g:Nat} {ns xs:List Nat} {w:World} (h:Wb g ns xs w) (i:Nat) (hi:i < ns.length):w.frozen? ⟨g+i,1,none⟩=false:=by unfold World.frozen?; rw [show w.heap[(⟨g+i,1,none⟩:Addr).block]?=_ from h i hi]; rfl
theorem Wb.lt {g:Nat} {ns xs:List Nat} {w:World} (h:Wb g ns xs w) (i:Nat) (hi:i < ns.length):g+i < w.heap.size:=(Array.getElem?_eq_some_iff.1 (h i hi)).1
theorem Wb.set_ {g:Nat} {ns xs:List Nat} {w:World} (h:Wb g ns xs w) (k x:Nat) (hk:k < ns.length) (hx:xs.length=k):Wb g ns (xs++[x]) (w.setCell ⟨g+k,1,none⟩ (.int .i64 (x:Int))):=by
 intro i A
 by_cases e:i=k
 . subst e
   rw [qg (h i A)];simp [hx]
 ·
  rw [Below.heap_setCell _ _ _ _ (show g+i≠g+k by omega),h i A]
  have:(xs++[x]).getD i 0=xs.getD i 0:=by
   by_cases hlt:i < k
   . simp [List.getD,List.getElem?_append_left (show i < xs.length by omega)]
   . simp [List.getD,List.getElem?_append_right (show xs.length<=i by omega),List.getElem?_eq_none (show xs.length<=i by omega),List.getElem?_eq_none (show [x].length<=i - xs.length by simp; omega)]
  rw [this]
theorem api {M N:Nat->Prop} {u v w:World} (h:Mod N u v) (k:Mod M v w) (hM:∀ b,b < u.heap.size->M b->N b):Mod N u w :=
 ⟨k.os.trans h.os,k.tape.trans h.tape,k.output.trans h.output,Nat.le_trans h.size k.size,λi A B=>(k.block i (Nat.lt_of_lt_of_le A h.size) (λE=>B (hM i A E))).trans (h.block i A B)⟩
theorem get_any (g p cap:Nat) (ns:List Nat) (hl:ns.length<=16) (hw:∀ n∈ns,1<=n/\n<=7) (l:List UInt8) (hs:l.length<=140737488351232) (W:World) (hS:∀ i,i < ns.length->W.cell? ⟨p,i,none⟩=some (.pointer (some ⟨g+i,0,none⟩))) (hW:Wb g ns [] W) (hp:∀ i,i < ns.length->p≠g+i) :
 Calls Tryz.prog 209 #[.string (S l),.slice (some ⟨p,0,none⟩) ns.length cap] W λe w'=>e=.returned (.bool (ym (j6 ns ⟨l,0⟩).2 == 0))/\Wb g ns (j6 ns ⟨l,0⟩).1 w'/\Mod (λb=>g<=b/\b < g+ns.length) W w':=by
 have HS:=zq hS;have HW:=zq hW;have HP:=zq hp;have HN:=zq hw;clear hS hW hp hw;go_enter Tryz.func209,Tryz.ntmps209;go_wp2_with fail;refine (new_any l _).mono ?_;rintro e w1 ⟨rfl,X,J⟩;have I:Zq (Rd W.heap.size (j6 (ns.take 0) ⟨l,0⟩).2 w1):=X;have N:Zq (Mod (λb=>g<=b/\b < g+ns.length) W w1):=Mod.of_below J;have A:Zq (Wb g ns (j6 (ns.take 0) ⟨l,0⟩).1 w1):=HW.o.mod (M:=λ_=>False) (Mod.of_below J) (λ_ _ x=>x);clear X J;go_wp2_with fail;go_loopw [12] (λi wr=>∃ k:Nat,k<=ns.length/\i=.int .i64 k/\Zq (Rd W.heap.size (j6 (ns.take k) ⟨l,0⟩).2 wr)/\Zq (Wb g ns (j6 (ns.take k) ⟨l,0⟩).1 wr)/\Zq (Mod (λb=>g<=b/\b < g+ns.length) W wr)) (λi _=>ns.length - (intOf i).toNat)
 case atStart=>exact ⟨0,by omega,rfl,I,A,N⟩
 case round =>
  clear I A N;obtain ⟨k,hk,rfl,I,A,N⟩:=hrel
  by_cases hlt:k < ns.length
  ·
   have hc:=HS.o k hlt;have a7:=HP.o k hlt;rw [<- N.o.cell (p:=⟨p,k,none⟩) (ay hc) (λh=>HP.o (p - g) (by have h1:g<=p:=h.1; have h2:p < g+ns.length:=h.2; omega) (by have h1:g<=p:=h.1; show p=g+(p - g); omega))] at hc;have h0:=A.o.cell0 k hlt;have ac:=HN.o ns[k] (by simp);have ap:=am0 (ns.take k) ⟨l,0⟩;have ad:=I.o.lt;have a8:=HW.o.lt k hlt;have E:=aj6 ns k hlt ⟨l,0⟩;have O:=ab5 (ns.take k) ⟨l,0⟩;rw [List.length_take,Nat.min_eq_left hk] at O;have R:k < ns.length:=hlt;generalize ns[k]=n at *
   obtain ⟨ba,bb⟩:=ac;generalize j6 (ns.take k) ⟨l,0⟩=q at *
   obtain ⟨xs,r⟩:=q;simp only at *
   have F:=pz W.heap.size r (n:Int) (by omega) (by omega) (by omega) wr I.o;generalize dm (n:Int) r=nr at *
   obtain ⟨x,r'⟩:=nr;simp only at *
   have Y:=zq E;have HC:=zq F;have ak:=zq O;clear E F O;go_wp2_with fail;refine HC.o.mono ?_;rintro e w2 ⟨rfl,Z,U⟩;have B:Zq (Wb g ns xs w2):=A.o.mod U (λi hi h=>by have:=HW.o.lt i hi; omega);have al:Zq (Rd W.heap.size r' (w2.setCell ⟨g+k,1,none⟩ (.int .i64 (x:Int)))):=Z.mod ((Mod.refl (λb=>b=g+k) w2).setCell (a:=⟨g+k,1,none⟩) (Or.inl rfl) _) (λh=>by omega)
   have am:Zq (Mod (λb=>g<=b/\b < g+ns.length) W (w2.setCell ⟨g+k,1,none⟩ (.int .i64 (x:Int)))) :=
    (api N.o U (λb hb h=>by omega)).setCell (a:=⟨g+k,1,none⟩) (Or.inl ⟨by show g<=g+k; omega,by show g+k < _; omega⟩) _
   have an:Zq (Wb g ns (xs++[x]) (w2.setCell ⟨g+k,1,none⟩ (.int .i64 (x:Int)))):=B.o.set_ k x R ak.o;have bh:=B.o.cell1 k R;have bj:=B.o.free1 k R;clear Z U A B I N HC hc h0;go_wp2_with fail;go_roundw
   case rel=>exact ⟨k+1,by omega,by go_num,by rw [Y.o]; exact al,by rw [Y.o]; exact an,am⟩
   case measure=>simp [intOf]; omega
  ·
   have ek:k=ns.length:=by omega
   subst ek;rw [List.take_length] at I A;go_wp2_with fail;refine (end_any W.heap.size _ _ I.o).mono ?_;rintro e w2 ⟨rfl,rfl⟩;go_wp2_with fail;go_ret;exact ⟨bf (by rw [Bool.eq_iff_iff]; simp),A.o,N.o⟩
theorem aaw {w:World} {o:Obj} {k:Nat} (h:k=w.heap.size):(w.alloc o).heap[k]?=some o:=by subst h; exact heap_alloc_new w o
theorem j5 {w:World} {o:Obj} {k:Nat} (h:k < w.heap.size):(w.alloc o).heap[k]?=w.heap[k]?:=Below.heap_alloc w o k h
def apj (ns:List Nat) (l:List UInt8):List Nat×Bool:=if ym (j6 ns ⟨l,0⟩).2=0 then ((j6 ns ⟨l,0⟩).1,true) else ([],false)
theorem ard (ns:List Nat) (l:List UInt8):apj ns l=if ym (j6 ns ⟨l,0⟩).2=0 then ((j6 ns ⟨l,0⟩).1,true) else ([],false):=rfl
def apk (xs:List Nat):Value:=.agg #[.int .i64 (xs.getD 0 0:Nat),.int .i64 (xs.getD 1 0:Nat),.int .i64 (xs.getD 2 0:Nat),.int .i64 (xs.getD 3 0:Nat)]
theorem am1 (l:List UInt8) (hs:l.length<=140737488351232) (W:World) :
 Calls Tryz.prog 133 #[.string (S l)] W λe w'=>e=.returned (.tuple #[apk (apj [6,2,5,7] l).1,.bool (apj [6,2,5,7] l).2])/\Below W.heap.size W w':=by
 go_enter Tryz.func133,Tryz.ntmps133;go_wp2_with fail;generalize hW6:(((((W.alloc _).alloc _).alloc _).alloc _).alloc _).alloc _=W6;have hz:W6.heap.size=W.heap.size+6:=by rw [<- hW6]; simp
 have J:Wb (W.heap.size+1) [6,2,5,7] [] W6:=by
  intro i E;have E:i < 4:=E;rw [<- hW6]
  match i,E with
  | 0,_=>exact (j5 (by simp only [World.size_alloc]; omega)).trans ((j5 (by simp only [World.size_alloc]; omega)).trans ((j5 (by simp only [World.size_alloc]; omega)).trans ((j5 (by simp only [World.size_alloc]; omega)).trans (aaw (by simp)))))
  | 1,_=>exact (j5 (by simp only [World.size_alloc]; omega)).trans ((j5 (by simp only [World.size_alloc]; omega)).trans ((j5 (by simp only [World.size_alloc]; omega)).trans (aaw (by simp))))
  | 2,_=>exact (j5 (by simp only [World.size_alloc]; omega)).trans ((j5 (by simp only [World.size_alloc]; omega)).trans (aaw (by simp)))
  | 3,_=>exact (j5 (by simp only [World.size_alloc]; omega)).trans (aaw (by simp))
 have M:W6.heap[W.heap.size+1+1+1+1+1]?=some (.cells #[.pointer (some ⟨W.heap.size+1,0,none⟩),.pointer (some ⟨W.heap.size+1+1,0,none⟩),.pointer (some ⟨W.heap.size+1+1+1,0,none⟩),.pointer (some ⟨W.heap.size+1+1+1+1,0,none⟩)] 301 (0,0)):=by
  rw [<- hW6]; exact aaw (by simp)
 have Y:∀ i,i < 4->W6.cell? ⟨W.heap.size+1+1+1+1+1,i,none⟩=some (.pointer (some ⟨W.heap.size+1+i,0,none⟩)):=by
  intro i E;rw [Lib.cell_of_heap M]
  match i,E with
  | 0,_=>rfl
  | 1,_=>rfl
  | 2,_=>rfl
  | 3,_=>rfl
 have N:W6.heap[W.heap.size]?=some (.cells #[.int .i64 0,.int .i64 0,.int .i64 0,.int .i64 0] 95 (0,0)):=by
  rw [<- hW6]; exact (j5 (by simp only [World.size_alloc]; omega)).trans ((j5 (by simp only [World.size_alloc]; omega)).trans ((j5 (by simp only [World.size_alloc]; omega)).trans ((j5 (by simp only [World.size_alloc]; omega)).trans ((j5 (by simp only [World.size_alloc]; omega)).trans (aaw (by simp))))))
 have Z:Below W.heap.size W W6:=by
  rw [<- hW6];refine ((((((Below.refl _ _).alloc (Nat.le_refl _) _).alloc ?_ _).alloc ?_ _).alloc ?_ _).alloc ?_ _).alloc ?_ _ <;> simp <;> omega
 clear hW6;refine (get_any (W.heap.size+1) (W.heap.size+1+1+1+1+1) 4 [6,2,5,7] (by decide) (by decide) l hs W6 Y J (λi E=>by have E:i < 4:=E; omega)).mono ?_;rintro e w2 ⟨rfl,A,F⟩;have hG:w2.heap[W.heap.size]?=some (.cells #[.int .i64 0,.int .i64 0,.int .i64 0,.int .i64 0] 95 (0,0)):=(F.block _ (by omega) (λh=>by omega)).trans N;have O:Below W.heap.size W w2:=Z.trans (F.to_below _ (by omega) (λk h=>by omega));have X:=ab5 [6,2,5,7] ⟨l,0⟩;have R:=zq O;have HG:=zq hG;clear Z N Y M J F O hG hz;have B:=ard [6,2,5,7] l;generalize j6 [6,2,5,7] ⟨l,0⟩=q at *
 obtain ⟨xs,r⟩:=q;simp only at *
 have am:=A.cell1 0 (by decide);have an:=A.cell1 1 (by decide);have ao:=A.cell1 2 (by decide);have ap:=A.cell1 3 (by decide)
 have g0:∀ i,i < 4->w2.cell? ⟨W.heap.size,i,none⟩=some (.int .i64 0):=λi E=>by
  rw [Lib.cell_of_heap HG.o]
  match i,E with
  | 0,_=>rfl
  | 1,_=>rfl
  | 2,_=>rfl
  | 3,_=>rfl
 have U:=λi=>Lib.frozen_of_heap HG.o i
 have a0:=g0 0 (by omega);have a1:=g0 1 (by omega);have a2:=g0 2 (by omega);have a3:=g0 3 (by omega);have b0:=U 0;have b1:=U 1;have b2:=U 2;have b3:=U 3;clear g0 U A X
 by_cases he:ym r=0
 ·
  have hb:(ym r == 0)=true:=beq_iff_eq.2 he;rw [if_pos he] at B;have I:=zq B;clear B he;rw [hb];clear hb;go_wp2_with fail;refine bodyPost_ret (v:=.tuple #[apk xs,.bool true]) ?_ rfl ⟨by rw [I.o],?_⟩
  . simp [results,Tryz.results133,go_sem,apk,a0,a1,a2,a3]
  . exact ((((R.o.setCell (p:=⟨W.heap.size,0,none⟩) (Nat.le_refl _) _).setCell (p:=⟨W.heap.size,1,none⟩) (Nat.le_refl _) _).setCell (p:=⟨W.heap.size,2,none⟩) (Nat.le_refl _) _).setCell (p:=⟨W.heap.size,3,none⟩) (Nat.le_refl _) _)
 ·
  have hb:(ym r == 0)=false:=beq_eq_false_iff_ne.2 he;rw [if_neg he] at B;have I:=zq B;clear B he;rw [hb];clear hb;go_wp2_with fail;refine bodyPost_ret (v:=.tuple #[apk [],.bool false]) ?_ rfl ⟨by rw [I.o],?_⟩
  . simp [results,Tryz.results133,go_sem,apk,a0,a1,a2,a3]
  . exact ((((R.o.setCell (p:=⟨W.heap.size,0,none⟩) (Nat.le_refl _) _).setCell (p:=⟨W.heap.size,1,none⟩) (Nat.le_refl _) _).setCell (p:=⟨W.heap.size,2,none⟩) (Nat.le_refl _) _).setCell (p:=⟨W.heap.size,3,none⟩) (Nat.le_refl _) _)
theorem aj7 (a b c d:Nat) (h:yg (fu (a:Int) (b:Int) (c:Int) (d:Int))=true):apj [6,2,5,7] (uy (fu (a:Int) (b:Int) (c:Int) (d:Int)))=([a,b,c,d],true):=by
 have A:=of_decide_eq_true h;have h1:a < 256 ^ 6:=Int.ofNat_lt.1 (A (6,(a:Int)) (by simp [fu])).2;have B:b < 256 ^ 2:=Int.ofNat_lt.1 (A (2,(b:Int)) (by simp [fu])).2;have E:c < 256 ^ 5:=Int.ofNat_lt.1 (A (5,(c:Int)) (by simp [fu])).2;have F:d < 256 ^ 7:=Int.ofNat_lt.1 (A (7,(d:Int)) (by simp [fu])).2
 have e:uy (fu (a:Int) (b:Int) (c:Int) (d:Int))=be 6 a++(be 2 b++(be 5 c++(be 7 d++[]))):=by
  unfold uy;rw [h,if_pos rfl];simp [fu,zu]
 have I:=vo 6 a (be 2 b++(be 5 c++(be 7 d++[]))) (by omega) (by omega) h1;have J:=vo 2 b (be 5 c++(be 7 d++[])) (by omega) (by omega) B;have n3:=vo 5 c (be 7 d++[]) (by omega) (by omega) E;have n4:=vo 7 d [] (by omega) (by omega) F
 have M:j6 [6,2,5,7] ⟨be 6 a++(be 2 b++(be 5 c++(be 7 d++[]))),0⟩=([a,b,c,d],⟨[],0⟩):=by
  simp only [j6];rw [show ((6:Nat):Int)=(6:Int) from rfl] at *
  simp only [I,J,n3,n4]
 unfold apj;rw [e,M];rfl
end EntW
namespace CqW
open Go.RowKit Go.MapKept OctMath RecMath DskW SegW MapG CacheW EntW NameW KxW StoW
theorem arf {base:Nat} {D:DiskD} {x:QueD} (p a b c d:Nat) (W:World) (hx:W.heap[x.blk]?=some (.cells x.cells 146 (0,0))) (hR:SegAt base W x.R) (hD:DiskAt base W D) (hdb:x.R.db=D.blk) (hT:TabB base W) (hok:zn D x.R) (hup:D.down=false) (hb0:x.b0=0) (hb:x.R.b=0) (hsz:x.R.size=200)
 (hp:20 * p+20<=x.R.txt.length) (hpb:p<=10000000) (I:yg (fu (a:Int) (b:Int) (c:Int) (d:Int))=true) (htx:(x.R.txt.drop (20 * p)).take 20=uy (fu (a:Int) (b:Int) (c:Int) (d:Int))) :
 Calls Tryz.prog 69 #[.pointer (some ⟨x.blk,0,none⟩),.int .i64 (p:Int)] W λe w'=>e=.returned (.tuple #[.agg #[.int .i64 (a:Int),.int .i64 (b:Int),.int .i64 (c:Int),.int .i64 (d:Int)],.int .i64 0])/\Below W.heap.size W w':=by
 have O:x.R.readT D ((20 * p:Nat):Int) 20=uy (fu (a:Int) (b:Int) (c:Int) (d:Int))/\x.R.readE D ((20 * p:Nat):Int) 20=0:=by
  have he:x.R.e=x.R.txt.length:=by unfold SegD.e; omega
  have hl:(20:Int)<=x.R.left ((20 * p:Nat):Int):=by
   unfold SegD.left;rw [if_neg (by rw [hb,he]; omega),hsz,Int.toNat_natCast,he];omega
  have hB:x.R.readB ((20 * p:Nat):Int) 20=true:=by
   unfold SegD.readB;rw [decide_eq_true (by omega),decide_eq_true hl]; rfl
  constructor
  . unfold SegD.readT
    rw [if_pos ⟨hup,hB⟩,hb,Int.toNat_natCast];exact htx
  . unfold SegD.readE
    rw [if_neg (by rw [hup]; decide),if_neg (by omega),if_pos hB]
 have U:Zq (∀ w2,Below W.heap.size W w2->Calls Tryz.prog 71 #[.pointer (some ⟨x.R.blk,0,none⟩),.int .i64 ((20 * p:Nat):Int),.int .i64 20] w2 λe w'=>e=.returned (.tuple #[.string (S (uy (fu (a:Int) (b:Int) (c:Int) (d:Int)))),.int .i64 0])/\RecW.ExtR w2 w'):=λw2 X=>by
  have h3:=SegW.read_any (D:=D) ((20 * p:Nat):Int) 20 (by omega) (by omega) w2 (hT.below X).tab (hR.below X) (hD.below X) hdb hok;rw [O.1,O.2] at h3;exact h3
 obtain ⟨P,hP⟩:∃ P:Int,P=((20 * p:Nat):Int):=⟨_,rfl⟩;rw [<- hP] at U;have ar:=zq hP;clear hP
 have HC:Zq ((∀ w2,Below W.heap.size W w2->w2.cell? ⟨x.blk,0,none⟩=some (.pointer (some ⟨x.R.blk,0,none⟩)))/\∀ w2,Below W.heap.size W w2->w2.cell? ⟨x.blk,1,none⟩=some (.int .i64 0)):=by
  have g:∀ w2,Below W.heap.size W w2->w2.heap[x.blk]?=some (.cells x.cells 146 (0,0)):=λw2 Y=>ag Y hx
  exact ⟨λw2 Y=>aa (g w2 Y) 0 _ rfl,λw2 Y=>aa (g w2 Y) 1 _ (by unfold QueD.cells; rw [hb0]; rfl)⟩
 have J:=zq (λ(w2:World)=>am1 (uy (fu (a:Int) (b:Int) (c:Int) (d:Int))) (by rw [<- htx]; simp; omega) w2);rw [aj7 a b c d I] at J;have J:Zq (∀ w2:World,Calls Tryz.prog 133 #[.string (S (uy (fu (a:Int) (b:Int) (c:Int) (d:Int))))] w2 λe w'=>e=.returned (.tuple #[.agg #[.int .i64 (a:Int),.int .i64 (b:Int),.int .i64 (c:Int),.int .i64 (d:Int)],.bool true])/\Below w2.heap.size w2 w'):=J;generalize uy (fu (a:Int) (b:Int) (c:Int) (d:Int))=tx at *
 clear hx hR hD hT hok htx O hb hsz hp I;go_enter Tryz.func69,Tryz.ntmps69;go_upto_region 1 with fail
 have ak:Zq (Below W.heap.size W (W.alloc (.cells #[.int .i64 0,.int .i64 0,.int .i64 0,.int .i64 0] 95))):=(Below.refl _ W).alloc (Nat.le_refl _) _;have Z:Zq ((W.alloc (.cells #[.int .i64 0,.int .i64 0,.int .i64 0,.int .i64 0] 95)).heap[W.heap.size]?=some (.cells #[.int .i64 0,.int .i64 0,.int .i64 0,.int .i64 0] 95 (0,0))):=heap_alloc_new W _;generalize W.alloc (.cells #[.int .i64 0,.int .i64 0,.int .i64 0,.int .i64 0] 95)=w1 at *
 obtain ⟨A,hA⟩:∃ A,W.heap.size=A:=⟨_,rfl⟩;rw [hA] at Z ⊢;have a7:=zq hA;clear hA;have DR:Zq (∀ w2,RecW.ExtR w1.drew w2->Below W.heap.size W w2):=λw2 Y=>ak.o.trans ((((Below.refl w1.heap.size w1).drew).trans Y).mono ak.o.size)
 refine GrowN.aj 17 [none,none,none,none,none,none,none,none,none,some (.inl (.int .i64 (p:Int))),some (.inl (.int .i64 P)),some (.inl (.tuple #[.string (S tx),.int .i64 0])),none,none,none,none,none] (RecW.ExtR) (by kernel_rfl) (by kernel_rfl) (by kernel_rfl) (RecW.ExtR.refl) (λ_ _ _=>RecW.ExtR.trans) ?_ ?_
 . exact GrowN.jg rfl
 simp only [List.take_succ_cons,List.take_zero,List.drop_succ_cons,List.drop_zero]
 iterate 3
  refine GrowN.g_det rfl ?_;apply Exists.intro;refine ⟨λw I E=>?_,?_⟩
  . clear E
    go_simp;exact ⟨rfl,RecW.ExtR.refl _⟩
  go_frame
 refine GrowN.g_det rfl ?_;apply Exists.intro;refine ⟨λw I E=>?_,?_⟩
 ·
  clear E;have c0:=HC.o.1 w (DR.o w I);go_simp;exact ⟨rfl,RecW.ExtR.refl _⟩
 iterate 4
  go_frame;refine GrowN.g_det rfl ?_;apply Exists.intro;refine ⟨λw I E=>?_,?_⟩
  . clear E
    go_simp;exact ⟨rfl,RecW.ExtR.refl _⟩
 go_frame;refine GrowN.g_det rfl ?_;apply Exists.intro;refine ⟨λw I E=>?_,?_⟩
 ·
  clear E;have c1:=HC.o.2 w (DR.o w I);go_simp;exact ⟨rfl,RecW.ExtR.refl _⟩
 go_frame;refine GrowN.g_con rfl (λw I E=>?_) ?_
 . clear E
   go_simp;exact ⟨by rw [IntWalk.i64_in _ (by omega)],RecW.ExtR.refl _⟩
 go_frame;refine GrowN.g_con rfl (λw I E=>?_) ?_
 ·
  clear E;go_simp;have hP:=ar.o;exact ⟨by rw [IntWalk.i64_in _ (by omega),show (p:Int) * 20=P by omega],RecW.ExtR.refl _⟩
 go_frame;refine GrowN.g_con rfl (λw I E=>?_) ?_
 . clear E
   go_simp;exact (U.o w (DR.o w I)).mono λe w3 h=>⟨_,h.1,rfl,h.2⟩
 iterate 5
  go_frame;refine GrowN.g_det rfl ?_;apply Exists.intro;refine ⟨λw I E=>?_,?_⟩
  . clear E
    go_simp;exact ⟨rfl,RecW.ExtR.refl _⟩
 go_frame;refine GrowN.g_nil λw2 ab E=>?_
 clear E;have ac:=zq (DR.o w2 ab);have al:Zq (w2.heap[A]?=_):=ag (((Below.refl w1.heap.size w1).drew).trans ab) Z.o;clear ab DR Z HC U;go_wp2_with fail;refine (J.o w2).mono ?_;rintro e w3 ⟨rfl,ad⟩;have am:=zq (ac.o.trans (ad.mono ac.o.size));have a8:Zq (w3.heap[A]?=_):=ag ad al.o;clear ad J ac al;go_upto_region 3 with fail
 have ba:Zq (Below W.heap.size W (w3.alloc (.cells #[.int .i64 (a:Int),.int .i64 (b:Int),.int .i64 (c:Int),.int .i64 (d:Int)] 95))):=am.o.alloc am.o.size _;have an:Zq ((w3.alloc (.cells #[.int .i64 (a:Int),.int .i64 (b:Int),.int .i64 (c:Int),.int .i64 (d:Int)] 95)).heap[A]?=_):=ag ((Below.refl _ w3).alloc (Nat.le_refl _) _) a8.o;have ao:Zq ((w3.alloc (.cells #[.int .i64 (a:Int),.int .i64 (b:Int),.int .i64 (c:Int),.int .i64 (d:Int)] 95)).heap[w3.heap.size]?=_):=heap_alloc_new w3 _;generalize w3.alloc (.cells #[.int .i64 (a:Int),.int .i64 (b:Int),.int .i64 (c:Int),.int .i64 (d:Int)] 95)=w4 at *
 generalize w3.heap.size=G at *
 have B:=an.o;have M:=ao.o;have y0:=aa M 0 _ rfl;have y1:=aa M 1 _ rfl;have y2:=aa M 2 _ rfl;have y3:=aa M 3 _ rfl;have f0:=ae B 0;have f1:=ae B 1;have f2:=ae B 2;have f3:=ae B 3;have z0:=aa B 0 _ rfl;have z1:=aa B 1 _ rfl;have z2:=aa B 2 _ rfl;have z3:=aa B 3 _ rfl;clear B M ao;go_wp2_with fail;have F:=heap_setCell_same _ A 3 _ _ (.int .i64 (d:Int)) (heap_setCell_same _ A 2 _ _ (.int .i64 (c:Int)) (heap_setCell_same _ A 1 _ _ (.int .i64 (b:Int)) (heap_setCell_same w4 A 0 _ _ (.int .i64 (a:Int)) an.o)));have N:W.heap.size<=A:=by rw [a7.o]; exact Nat.le_refl _
 have bb:Below W.heap.size W ((((w4.setCell ⟨A,0,none⟩ (.int .i64 (a:Int))).setCell ⟨A,1,none⟩ (.int .i64 (b:Int))).setCell ⟨A,2,none⟩ (.int .i64 (c:Int))).setCell ⟨A,3,none⟩ (.int .i64 (d:Int))):=((((ba.o.setCell (p:=⟨A,0,none⟩) N _).setCell (p:=⟨A,1,none⟩) N _).setCell (p:=⟨A,2,none⟩) N _).setCell (p:=⟨A,3,none⟩) N _);generalize (((w4.setCell ⟨A,0,none⟩ (.int .i64 (a:Int))).setCell ⟨A,1,none⟩ (.int .i64 (b:Int))).setCell ⟨A,2,none⟩ (.int .i64 (c:Int))).setCell ⟨A,3,none⟩ (.int .i64 (d:Int))=w5 at *
 have a0:w5.cell? ⟨A,0,none⟩=some (.int .i64 (a:Int)):=aa F 0 _ rfl;have a1:w5.cell? ⟨A,1,none⟩=some (.int .i64 (b:Int)):=aa F 1 _ rfl;have a2:w5.cell? ⟨A,2,none⟩=some (.int .i64 (c:Int)):=aa F 2 _ rfl;have a3:w5.cell? ⟨A,3,none⟩=some (.int .i64 (d:Int)):=aa F 3 _ rfl;clear F;refine bodyPost_ret (v:=.tuple #[.agg #[.int .i64 (a:Int),.int .i64 (b:Int),.int .i64 (c:Int),.int .i64 (d:Int)],.int .i64 0]) ?_ rfl ⟨rfl,bb⟩;simp [results,Tryz.results69,go_sem,a0,a1,a2,a3]
theorem apl {base:Nat} {C:CqD} {D:DiskD} {x:QueD} (q p a b c d:Nat) (W:World) (h:CqAt base W C) (hx:x∈C.qs) (hq:x.q=(q:Int)) (hk:∀ y∈C.qs,∃ n:Nat,y.q=(n:Int)) (hD:DiskAt base W D) (hdb:C.db=D.blk) (hT:TabB base W) (hok:zn D x.R) (hup:D.down=false) (hb0:x.b0=0) (hl0:x.least=0) (hb:x.R.b=0) (hsz:x.R.size=200)
 (hp:20 * p+20<=x.R.txt.length) (hpb:p<=10000000) (hw:yg (fu (a:Int) (b:Int) (c:Int) (d:Int))=true) (htx:(x.R.txt.drop (20 * p)).take 20=uy (fu (a:Int) (b:Int) (c:Int) (d:Int))) :
 Calls Tryz.prog 32 #[.pointer (some ⟨C.blk,0,none⟩),.string (S x.topic),.int .i64 (q:Int),.int .i64 (p:Int)] W λe w'=>e=.returned (.tuple #[.agg #[.int .i64 (a:Int),.int .i64 (b:Int),.int .i64 (c:Int),.int .i64 (d:Int)],.int .i64 0])/\Below W.heap.size W w':=by
 have HO:=zq (λ(w:World) (hb:Below W.heap.size W w)=>of_any q w (h.below hb) hx hq hk);have HN:=zq (λ(w:World) (hb:Below W.heap.size W w)=>CqW.next_any w ((h.below hb).que x hx).1 ((h.below hb).que x hx).2.1 (by rw [hb0]; omega));have HA:=zq (λ(w:World) (I:Below W.heap.size W w)=>arf p a b c d w ((h.below I).que x hx).1 ((h.below I).que x hx).2.1 (hD.below I) (((h.que x hx).2.2).trans hdb) (hT.below I) hok hup hb0 hb hsz hp hpb hw htx);have HX:Zq (W.heap[x.blk]?=some (.cells x.cells 146 (0,0))):=(h.que x hx).1;have he:x.b0+x.R.e / 20=x.R.txt.length / 20:=by unfold SegD.e; rw [hb0,hb]; omega
 rw [he] at HN;obtain ⟨n,hn⟩:∃ n,x.R.txt.length / 20=n:=⟨_,rfl⟩;rw [hn] at HN;have a8:decide ((n:Int)<=(p:Int))=false:=decide_eq_false (by omega);have a6:decide (n<=p)=false:=decide_eq_false (by omega);have a7:¬ n<=p:=by omega
 have ak:decide ((p:Int) < 0)=false:=decide_eq_false (by omega);have ba:decide ((p:Int) < 0)=false:=ak;have bb:decide ((0:Int)<=(p:Int))=true:=decide_eq_true (by omega);have U:x.cells=#[.pointer (some ⟨x.R.blk,0,none⟩),.int .i64 0,.int .i64 0]:=by unfold QueD.cells; rw [hb0,hl0]; rfl
 rw [U] at HX;clear h hx hq hk hD hdb hT hok hup hb0 hl0 hb hsz hp hpb hw htx he hn U;generalize S x.topic=tt at *
 generalize x.blk=xb at *
 go_enter Tryz.func32,Tryz.ntmps32;go_upto_region 1 with fail
 have F:Zq (Below W.heap.size W (W.alloc (.cells #[.int .i64 0,.int .i64 0,.int .i64 0,.int .i64 0] 95))):=(Below.refl _ W).alloc (Nat.le_refl _) _;have N:Zq ((W.alloc (.cells #[.int .i64 0,.int .i64 0,.int .i64 0,.int .i64 0] 95)).heap[W.heap.size]?=some (.cells #[.int .i64 0,.int .i64 0,.int .i64 0,.int .i64 0] 95 (0,0))):=heap_alloc_new W _;generalize W.alloc (.cells #[.int .i64 0,.int .i64 0,.int .i64 0,.int .i64 0] 95)=w1 at *
 obtain ⟨A,hA⟩:∃ A,W.heap.size=A:=⟨_,rfl⟩;rw [hA] at N ⊢;have am:=zq hA;clear hA;go_wp2_with fail;refine (HO.o w1 F.o).mono ?_;rintro e w2 ⟨rfl,he⟩;obtain rfl:=he.symm;have X:=zq (ag F.o HX.o);have x0:=aa X.o 2 _ rfl;clear HO;go_wp2_with fail;refine (HN.o w1 F.o).mono ?_;rintro e w2 ⟨rfl,hd⟩;have J:=zq (F.o.trans ((hd.below w1.heap.size).mono F.o.size));have Y:Zq (w2.heap[A]?=_):=ag (hd.below w1.heap.size) N.o;clear hd HN x0;go_wp2_with fail;refine (HA.o w2 J.o).mono ?_;rintro e w3 ⟨rfl,O⟩;have an:=zq (J.o.trans (O.mono J.o.size));have Z:Zq (w3.heap[A]?=_):=ag O Y.o;have B:=Z.o;have f0:=ae B 0;have f1:=ae B 1;have f2:=ae B 2;have f3:=ae B 3;have z0:=aa B 0 _ rfl;have z1:=aa B 1 _ rfl;have z2:=aa B 2 _ rfl;have z3:=aa B 3 _ rfl;clear B O HA J Y N F X HX;go_wp2_with fail;have E:=heap_setCell_same _ A 3 _ _ (.int .i64 (d:Int)) (heap_setCell_same _ A 2 _ _ (.int .i64 (c:Int)) (heap_setCell_same _ A 1 _ _ (.int .i64 (b:Int)) (heap_setCell_same w3 A 0 _ _ (.int .i64 (a:Int)) Z.o)));have M:W.heap.size<=A:=by rw [am.o]; exact Nat.le_refl _
 have ao:Below W.heap.size W ((((w3.setCell ⟨A,0,none⟩ (.int .i64 (a:Int))).setCell ⟨A,1,none⟩ (.int .i64 (b:Int))).setCell ⟨A,2,none⟩ (.int .i64 (c:Int))).setCell ⟨A,3,none⟩ (.int .i64 (d:Int))):=((((an.o.setCell (p:=⟨A,0,none⟩) M _).setCell (p:=⟨A,1,none⟩) M _).setCell (p:=⟨A,2,none⟩) M _).setCell (p:=⟨A,3,none⟩) M _);generalize (((w3.setCell ⟨A,0,none⟩ (.int .i64 (a:Int))).setCell ⟨A,1,none⟩ (.int .i64 (b:Int))).setCell ⟨A,2,none⟩ (.int .i64 (c:Int))).setCell ⟨A,3,none⟩ (.int .i64 (d:Int))=w5 at *
 have a0:w5.cell? ⟨A,0,none⟩=some (.int .i64 (a:Int)):=aa E 0 _ rfl;have a1:w5.cell? ⟨A,1,none⟩=some (.int .i64 (b:Int)):=aa E 1 _ rfl;have a2:w5.cell? ⟨A,2,none⟩=some (.int .i64 (c:Int)):=aa E 2 _ rfl;have a3:w5.cell? ⟨A,3,none⟩=some (.int .i64 (d:Int)):=aa E 3 _ rfl;clear E;refine bodyPost_ret (v:=.tuple #[.agg #[.int .i64 (a:Int),.int .i64 (b:Int),.int .i64 (c:Int),.int .i64 (d:Int)],.int .i64 0]) ?_ rfl ⟨rfl,ao⟩;simp [results,Tryz.results32,go_sem,a0,a1,a2,a3]
theorem arh (w:World):Calls Tryz.prog 125 #[.pointer none] w λe w'=>e=.returned (.int .i64 0)/\w'=w:=by
 go_enter Tryz.func125,Tryz.ntmps125;go_wp2_with fail;go_ret;exact ⟨rfl,rfl⟩
theorem aj8 (b:Nat) (w:World) (hx:w.heap[b]?=some (.cells #[.pointer none,.int .i64 0,.int .i64 0] 146 (0,0))) :
 Calls Tryz.prog 60 #[.pointer (some ⟨b,0,none⟩)] w λe w'=>e=.returned (.int .i64 0)/\Drawn w w':=by
 have c0:w.cell? ⟨b,0,none⟩=some (.pointer none):=by rw [Lib.cell_of_heap hx]; rfl
 have c1:w.cell? ⟨b,1,none⟩=some (.int .i64 0):=by rw [Lib.cell_of_heap hx]; rfl
 have F:=zq (λ(w2:World)=>arh w2);clear hx;go_enter Tryz.func60,Tryz.ntmps60;go_wp2_with fail;refine GrowN.aj 12 [none,none,none,none,none,none,none,none,some (.inl (.int .i64 0)),some (.inl (.int .i64 0)),some (.inl (.int .i64 0)),none] (DrR) (by kernel_rfl) (by kernel_rfl) (by kernel_rfl) (DrR.refl) (λ_ _ _=>DrR.trans) ?_ ?_
 . exact GrowN.jg rfl
 simp only [List.take_succ_cons,List.take_zero,List.drop_succ_cons,List.drop_zero]
 iterate 2
  refine GrowN.g_det rfl ?_;apply Exists.intro;refine ⟨λw B A=>?_,?_⟩
  . clear A
    go_simp;exact ⟨rfl,DrR.refl _⟩
  go_frame;refine GrowN.g_det rfl ?_;apply Exists.intro;refine ⟨λw B A=>?_,?_⟩
  . clear A
    go_simp;exact ⟨rfl,DrR.refl _⟩
  go_frame;refine GrowN.g_det rfl ?_;apply Exists.intro;refine ⟨λw B A=>?_,?_⟩
  . clear A
    go_simp;exact ⟨rfl,DrR.refl _⟩
  go_frame;refine GrowN.g_det rfl ?_;apply Exists.intro;refine ⟨λw B A=>?_,?_⟩
  . clear A
    obtain ⟨n,rfl⟩:=B;go_simp;exact ⟨rfl,DrR.refl _⟩
  go_frame
 refine GrowN.g_con rfl (λw B A=>?_) ?_
 ·
  clear A;obtain ⟨n,rfl⟩:=B;go_simp;exact (F.o _).mono λe w3 h=>⟨_,h.1,rfl,h.2 ▸ DrR.refl _⟩
 iterate 2
  go_frame;refine GrowN.g_con rfl (λw B A=>?_) ?_
  . clear A
    go_simp;exact ⟨by decide,DrR.refl _⟩
 go_frame;refine GrowN.g_det rfl ?_;apply Exists.intro;refine ⟨λw B A=>?_,?_⟩
 . clear A
   go_simp;exact ⟨rfl,DrR.refl _⟩
 go_frame;refine GrowN.g_nil λw2 E A=>?_
 clear A
 have hd:Drawn w w2:=by
  obtain ⟨n,rfl⟩:=E;exact ⟨1+n,by rw [<- World.drewN_drewN]; rfl⟩
 have I:=zq hd;clear hd E;go_wp2_with fail;go_ret;exact ⟨rfl,I.o⟩
theorem ari {base:Nat} {C:CqD} (t:List UInt8) (q:Int) (w:World) (h:CqAt base w C) (hk:∀ y∈C.qs,∃ n:Nat,y.q=(n:Int)) (A:∀ x∈C.qs,¬ (x.topic=t/\x.q=q)) :
 Calls Tryz.prog 59 #[.pointer (some ⟨C.blk,0,none⟩),.string (S t),.int .i64 q] w λe w'=>∃ b,e=.returned (.pointer (some ⟨b,0,none⟩))/\w'.heap[b]?=some (.cells #[.pointer none,.int .i64 0,.int .i64 0] 146 (0,0))/\Below w.heap.size w w':=by
 have E:(Instr.lookup 139 (.map (some C.mB)) (.agg #[.string (S t),.int .i64 q]) false).run Tryz.prog w=.ok (.pointer none) w:=by
  refine za Tryz.underlying139 aec h.map (λp hp=>?_) (k:=.agg #[.string (S t),.int .i64 q]) ⟨t,q,rfl⟩ (λp hp=>?_) ahr false
  . obtain ⟨y,B,rfl⟩:=List.mem_map.1 hp
    obtain ⟨n,A⟩:=hk y B;exact ⟨y.topic,n,by show QueD.key y=_; unfold QueD.key; rw [A]⟩
  . obtain ⟨y,B,rfl⟩:=List.mem_map.1 hp
    exact aov (A y B)
 have c1:w.cell? ⟨C.blk,1,none⟩=some (.map (some C.mB)):=aa h.cells 1 _ rfl;have F:=zq E;clear h hk A;generalize S t=tt at *
 go_enter Tryz.func59,Tryz.ntmps59;go_wp2_with fail;go_ret;exact ⟨_,rfl,heap_alloc_new w _,(Below.refl _ w).alloc (Nat.le_refl _) _⟩
theorem aem {base:Nat} {C:CqD} (t:List UInt8) (q:Int) (w:World) (h:CqAt base w C) (hk:∀ y∈C.qs,∃ n:Nat,y.q=(n:Int)) (hn:∀ x∈C.qs,¬ (x.topic=t/\x.q=q)) :
 Calls Tryz.prog 24 #[.pointer (some ⟨C.blk,0,none⟩),.string (S t),.int .i64 q] w λe w'=>e=.returned (.int .i64 0)/\Below w.heap.size w w':=by
 have F:=zq (ari t q w h hk hn);have J:=zq (λ(b:Nat) (w:World)=>aj8 b w);clear h hk hn;generalize S t=tt at *
 go_enter Tryz.func24,Tryz.ntmps24;go_wp2_with fail;refine F.o.mono ?_;rintro e w2 ⟨b,rfl,hb,A⟩;have I:=zq A;have B:=zq (J.o b w2 hb);clear F hb A;go_wp2_with fail;refine B.o.mono ?_;rintro e w3 ⟨rfl,hd⟩;have E:=zq (I.o.trans ((hd.below w2.heap.size).mono I.o.size));clear hd B;go_wp2_with fail;go_ret;exact ⟨rfl,E.o⟩
def j3 (t:List UInt8) (q:Int) (l:List (Nat×Msg)):Nat:=(l.filter (isQ t q)).length
theorem asy {t:List UInt8} {q:Int} {l:List (Nat×Msg)} (h:∀ p∈l,aef p) {i:Nat} (hi:i < l.length) (hm:isQ t q l[i]=true) :
 ((ofQ t q l).drop (20 * j3 t q (l.take i))).take 20=aee l[i]/\20 * j3 t q (l.take i)+20<=(ofQ t q l).length:=by
 have B:l=l.take i++(l[i] :: l.drop (i+1)):=by rw [List.getElem_cons_drop,List.take_append_drop]
 have h1:(ofQ t q (l.take i)).length=20 * j3 t q (l.take i):=ab2 t q _ λp hp=>h p (List.mem_of_mem_take hp)
 have A:=(ab1 (h l[i] (List.getElem_mem hi))).2
 have E:ofQ t q l=ofQ t q (l.take i)++(aee l[i]++ofQ t q (l.drop (i+1))):=by
  have:ofQ t q l=ofQ t q (l.take i++(l[i] :: l.drop (i+1))):=congrArg _ B;rw [this];unfold ofQ;rw [List.filter_append,List.filter_cons_of_pos hm,List.flatMap_append,List.flatMap_cons]
 rw [E]
 constructor
 . rw [<- h1,List.drop_left,<- A,List.take_left]
 . rw [List.length_append,List.length_append,h1,A]; omega
theorem aen {base:Nat} {w:World} {C:CqD} {D:DiskD} {X:KxD} {done:List (Nat×Msg)} {mk:Nat} (h:DisI base w C D X done mk):∀ y∈C.qs,∃ n:Nat,y.q=(n:Int):=λy A=>by
 obtain ⟨q,h1,_⟩:=(h.que y A).q;exact ⟨q,h1⟩
theorem asz {base:Nat} {C:CqD} {D:DiskD} {X:KxD} {l:List (Nat×Msg)} {mk:Nat} (t:List UInt8) (q i:Nat) (w:World) (h:DisI base w C D X l mk) (hT:TabB base w) (hi:i < l.length) (hl:l.length<=100000) (hm:isQ t (q:Int) l[i]=true) :
 Calls Tryz.prog 32 #[.pointer (some ⟨C.blk,0,none⟩),.string (S t),.int .i64 (q:Int),.int .i64 ((j3 t (q:Int) (l.take i):Nat):Int)] w λe w'=>e=.returned (.tuple #[.agg #[.int .i64 (l[i].1:Int),.int .i64 (((bi l[i].2).length:Nat):Int),.int .i64 ((mi [l[i].2.tag]:Nat):Int),.int .i64 ((l[i].2.born.toNat:Nat):Int)],.int .i64 0])/\Below w.heap.size w w':=by
 obtain ⟨h1,O⟩:=asy h.ents hi hm;have hp:=h.ents l[i] (List.getElem_mem hi);have B:l[i].2.topic=t/\l[i].2.queue=(q:Int):=by unfold isQ at hm; simpa using hm
 obtain ⟨x,M,U,Y⟩:=h.has l[i] (List.getElem_mem hi);have E:x.topic=t:=U.trans B.1;have F:x.q=(q:Int):=Y.trans B.2;have A:=h.que x M;have I:x.R.txt=ofQ t (q:Int) l:=by rw [A.txt,E,F]
 obtain ⟨N,o2⟩:=ab1 hp;obtain ⟨d,J,hd⟩:∃ d:Nat,l[i].2.born.toNat=d/\l[i].2.born=(d:Int):=⟨l[i].2.born.toNat,rfl,by have:=hp.born; omega⟩;have Z:aee l[i]=uy (fu (l[i].1:Int) ((bi l[i].2).length:Int) ((mi [l[i].2.tag]:Nat):Int) (d:Int)):=by unfold aee; rw [hd]
 rw [hd] at N
 have hc:j3 t (q:Int) (l.take i)<=100000:=by
  have h3:j3 t (q:Int) (l.take i)<=(l.take i).length:=List.length_filter_le ..
  rw [List.length_take] at h3;omega
 have:=apl (D:=D) q (j3 t (q:Int) (l.take i)) l[i].1 (bi l[i].2).length (mi [l[i].2.tag]) d w h.cq M F (aen h) h.dsk h.db hT A.ok h.quiet.up A.b0 A.least A.b A.sz (by rw [I]; exact O) (by omega) N (by rw [I,h1,Z]);rw [E] at this;rw [J];exact this
theorem arj {base:Nat} {C:CqD} {D:DiskD} {X:KxD} {l:List (Nat×Msg)} {mk:Nat} (t:List UInt8) (q:Nat) (w:World) (h:DisI base w C D X l mk) :
 Calls Tryz.prog 24 #[.pointer (some ⟨C.blk,0,none⟩),.string (S t),.int .i64 (q:Int)] w λe w'=>e=.returned (.int .i64 ((j3 t (q:Int) l:Nat):Int))/\Below w.heap.size w w':=by
 by_cases hex:∃ x∈C.qs,x.topic=t/\x.q=(q:Int)
 ·
  obtain ⟨x,A,B,E⟩:=hex;have J:=h.que x A;have M:x.R.txt=ofQ t (q:Int) l:=by rw [J.txt,B,E]
  have N:=amn q w h.cq A E (aen h) (by rw [J.b0]; omega)
  have U:x.b0+x.R.e / 20=j3 t (q:Int) l:=by
   unfold SegD.e;rw [J.b0,J.b,M,ab2 t (q:Int) l h.ents];show 0+(0+20 * j3 t (q:Int) l) / 20=_;omega
  rw [U,B] at N;exact N.mono λe w' ⟨g1,g2⟩=>⟨g1,g2.below _⟩
 ·
  have F:∀ x∈C.qs,¬ (x.topic=t/\x.q=(q:Int)):=λx A e=>hex ⟨x,A,e⟩
  have Y:j3 t (q:Int) l=0:=by
   unfold j3;rw [List.length_eq_zero_iff,List.filter_eq_nil_iff];intro p hp O;have I:p.2.topic=t/\p.2.queue=(q:Int):=by unfold isQ at O; simpa using O
   obtain ⟨x,A,Z,e2⟩:=h.has p hp;exact F x A ⟨Z.trans I.1,e2.trans I.2⟩
  rw [Y];exact aem t q w h.cq (aen h) F
end CqW
namespace RetW
open Go.RowKit Go.MapKept Go.Sort OctMath RecMath RecW DskW SegW MapG TapeW TapeMath PendW CacheW EntW NameW CqW KxW StoW TopW NameMath SndW
theorem aeo {base:Nat} {C:CqD} {D:DiskD} {X:KxD} {l:List (Nat×Msg)} {mk:Nat} (t:List UInt8) (q:Int) (w:World) (h:DisI base w C D X l mk) :
 Calls Tryz.prog 24 #[.pointer (some ⟨C.blk,0,none⟩),.string (S t),.int .i64 q] w λe w'=>e=.returned (.int .i64 ((j3 t q l:Nat):Int))/\Below w.heap.size w w':=by
 by_cases hq:0<=q
 . obtain ⟨n,rfl⟩:∃ n:Nat,q=(n:Int):=⟨q.toNat,by omega⟩
   exact arj t n w h
 ·
  have A:∀ x∈C.qs,¬ (x.topic=t/\x.q=q):=λx E e=>by
   obtain ⟨n,N⟩:=aen h x E;omega
  have I:j3 t q l=0:=by
   unfold j3;rw [List.length_eq_zero_iff,List.filter_eq_nil_iff];intro p hp F;have B:p.2.topic=t/\p.2.queue=q:=by unfold isQ at F; simpa using F
   obtain ⟨x,E,J,M⟩:=h.has p hp;exact A x E ⟨J.trans B.1,M.trans B.2⟩
  rw [I];exact aem t q w h.cq (aen h) A
def ac2 (m:Msg) (g:Nat) (w:World):Prop:=∃ a c,w.heap[g]?=some (.cells #[.int .i64 m.kind,.int .i64 m.queue,.int .i64 m.due,.int .i64 m.retry,.int .i64 m.ref,.int .i64 m.born,.string (S m.topic),.string (S m.tag),.string (S m.body),.slice a m.keys.length c] 71 (0,0))/\Strs w a (m.keys.map S)
def apm (g:Nat) (w:World):Prop:=w.heap[g]?=some (.cells #[.int .i64 0,.int .i64 0,.int .i64 0,.int .i64 0,.int .i64 0,.int .i64 0,.string ⟨#[]⟩,.string ⟨#[]⟩,.string ⟨#[]⟩,.slice none 0 0] 71 (0,0))
structure ReadG (s:Nat) (m:Msg) (u v:World):Prop where
 below:Below s u v
 size:u.heap.size<=v.heap.size
 zero:∀ g,s<=g->apm g u->apm g v\/ac2 m g v
 full:∀ g,s<=g->ac2 m g u->ac2 m g v
 strs:∀ a,Strs u a (m.keys.map S)->Strs v a (m.keys.map S)
theorem ReadG.refl (s:Nat) (m:Msg) (w:World):ReadG s m w w:=⟨Below.refl _ _,Nat.le_refl _,λ_ _ h=>.inl h,λ_ _ h=>h,λ_ h=>h⟩
theorem ReadG.trans {s:Nat} {m:Msg} {u v w:World} (h:ReadG s m u v) (k:ReadG s m v w):ReadG s m u w :=
 ⟨h.below.trans k.below,Nat.le_trans h.size k.size,λg A e=>(h.zero g A e).elim (k.zero g A) λB=>.inr (k.full g A B),λg A e=>k.full g A (h.full g A e),λa e=>k.strs a (h.strs a e)⟩
theorem ReadG.of_below {s:Nat} {m:Msg} {u v:World} (hb:Below u.heap.size u v) (hs:s<=u.heap.size):ReadG s m u v :=
 ⟨hb.mono hs,hb.size,λg _ e=>.inl (ag hb e),λg _ ⟨a,c,h1,A⟩=>⟨a,c,ag hb h1,Strs.below A hb⟩,λa h=>Strs.below h hb⟩
def MadeM (s:Nat) (m:Msg) (g:Nat) (w:World):Prop:=s<=g/\(apm g w\/ac2 m g w)
theorem MadeM.keep {s:Nat} {m:Msg} {g:Nat} {u v:World} (h:MadeM s m g u) (k:ReadG s m u v):MadeM s m g v :=
 ⟨h.1,h.2.elim (k.zero g h.1) λe=>.inr (k.full g h.1 e)⟩
theorem MadeM.cells {s:Nat} {m:Msg} {g:Nat} {w:World} (h:MadeM s m g w):∃ c0 c1 c2 c3 c4 c5 c6 c7 c8 c9,w.heap[g]?=some (.cells #[c0,c1,c2,c3,c4,c5,c6,c7,c8,c9] 71 (0,0)) :=
 h.2.elim (λe=>⟨_,_,_,_,_,_,_,_,_,_,e⟩) λ⟨_,_,e,_⟩=>⟨_,_,_,_,_,_,_,_,_,_,e⟩
theorem MadeM.store {s:Nat} {m:Msg} {g:Nat} {w:World} (h:MadeM s m g w) (hk:∀ t∈m.keys,t≠[]) (a:Option Addr) (c:Nat) (hS:Strs w a (m.keys.map S)) :
 ReadG s m w (o9 w g (.int .i64 m.kind) (.int .i64 m.queue) (.int .i64 m.due) (.int .i64 m.retry) (.int .i64 m.ref) (.int .i64 m.born) (.string (S m.topic)) (.string (S m.tag)) (.string (S m.body)) (.slice a m.keys.length c))/\ac2 m g (o9 w g (.int .i64 m.kind) (.int .i64 m.queue) (.int .i64 m.due) (.int .i64 m.retry) (.int .i64 m.ref) (.int .i64 m.born) (.string (S m.topic)) (.string (S m.tag)) (.string (S m.body)) (.slice a m.keys.length c)):=by
 obtain ⟨c0,c1,c2,c3,c4,c5,X,Y,Z,c9,hc⟩:=h.cells;have E:=kw rfl hc (.int .i64 m.kind) (.int .i64 m.queue) (.int .i64 m.due) (.int .i64 m.retry) (.int .i64 m.ref) (.int .i64 m.born) (.string (S m.topic)) (.string (S m.tag)) (.string (S m.body)) (.slice a m.keys.length c);have I:=mf w g (.int .i64 m.kind) (.int .i64 m.queue) (.int .i64 m.due) (.int .i64 m.retry) (.int .i64 m.ref) (.int .i64 m.born) (.string (S m.topic)) (.string (S m.tag)) (.string (S m.body)) (.slice a m.keys.length c)
 have F:∀ a2,Strs w a2 (m.keys.map S)->Strs (o9 w g (.int .i64 m.kind) (.int .i64 m.queue) (.int .i64 m.due) (.int .i64 m.retry) (.int .i64 m.ref) (.int .i64 m.born) (.string (S m.topic)) (.string (S m.tag)) (.string (S m.body)) (.slice a m.keys.length c)) a2 (m.keys.map S):=by
  intro a2 J i M;obtain ⟨b,off,e,A⟩:=J i M;refine ⟨b,off,e,?_⟩
  by_cases hb:b=g
  ·
   subst hb
   rcases h.2 with hz | ⟨a3,q3,hf,_⟩
   ·
    exfalso;rw [Lib.cell_of_heap hz] at A;have N:i < m.keys.length:=by rw [List.length_map] at M; exact M
    have O:=hk _ (List.getElem_mem N);rw [List.getElem_map] at A
    match h:off+i with
    | 0 | 1 | 2 | 3 | 4 | 5 | 9=>rw [h] at A; simp at A
    | 6 | 7 | 8=>rw [h] at A; simp at A; exact O (OctMath.S_inj (show S m.keys[i]=S [] from A.symm))
    | n+10=>rw [h] at A; simp at A
   ·
    rw [Lib.cell_of_heap hf] at A;rw [Lib.cell_of_heap E]
    match h:off+i with
    | 0 | 1 | 2 | 3 | 4 | 5 | 6 | 7 | 8=>rw [h] at A; exact A
    | 9=>rw [h] at A; simp at A
    | n+10=>rw [h] at A; simp at A
  . rw [I.cell (p:=⟨b,off+i,none⟩) (ay A) hb]; exact A
 have B:ac2 m g (o9 w g (.int .i64 m.kind) (.int .i64 m.queue) (.int .i64 m.due) (.int .i64 m.retry) (.int .i64 m.ref) (.int .i64 m.born) (.string (S m.topic)) (.string (S m.tag)) (.string (S m.body)) (.slice a m.keys.length c)):=⟨a,c,E,F a hS⟩;refine ⟨⟨I.to_below _ (by have:=(Array.getElem?_eq_some_iff.1 hc).1; have:=h.1; omega) λk e=>e ▸ h.1,I.size,λg2 R e=>?_,λg2 R e=>?_,F⟩,B⟩
 . by_cases hg:g2=g
   . subst hg; exact .inr B
   . exact .inl (di I e hg)
 ·
  by_cases hg:g2=g
  . subst hg; exact B
  . obtain ⟨a2,U,h1,J⟩:=e
    exact ⟨a2,U,di I h1 hg,F a2 J⟩
def lg (next n:Int):Bool:=decide (n < 0) || decide (next<=n)
theorem ark (n next:Int) (bx:Nat) (w:World) (hc:w.cell? ⟨bx,0,none⟩=some (.int .i64 next)) :
 Calls Tryz.prog 26 #[.int .i64 n,.pointer (some ⟨bx,0,none⟩)] w λe w'=>e=.returned (.bool (lg next n))/\w'=w:=by
 by_cases h1:n < 0
 ·
  have hb:lg next n=true:=by unfold lg; rw [decide_eq_true h1]; rfl
  rw [hb];have d1:decide (n < 0)=true:=decide_eq_true h1;clear hb;go_enter Tryz.func26,Tryz.ntmps26;go_wp2_with fail;go_ret;exact ⟨rfl,rfl⟩
 ·
  have d1:decide (n < 0)=false:=decide_eq_false h1
  by_cases h2:next<=n
  ·
   have hb:lg next n=true:=by unfold lg; rw [decide_eq_true h2,Bool.or_true]
   rw [hb];have d2:decide (next<=n)=true:=decide_eq_true h2;clear hb;go_enter Tryz.func26,Tryz.ntmps26;go_wp2_with fail;go_ret;exact ⟨rfl,rfl⟩
  ·
   have hb:lg next n=false:=by unfold lg; rw [d1,decide_eq_false h2]; rfl
   rw [hb];have d2:decide (next<=n)=false:=decide_eq_false h2;clear hb;go_enter Tryz.func26,Tryz.ntmps26;go_wp2_with fail;go_ret;exact ⟨rfl,rfl⟩
theorem arl (a:Option Addr) (cp:Nat) (A:List Int) (M:A.length<=1048576) (bx:Nat) (next:Int) (w:World) (hr:OctW.Ints w a A) (hs:w.cell? ⟨bx,0,none⟩=some (.int .i64 next)) :
 Calls Tryz.prog 61 #[.slice a A.length cp,.func (.func 26) #[] #[.pointer (some ⟨bx,0,none⟩)]] w λe w'=>∃ r:Int,e=.returned (.int .i64 r)/\decide (0<=r)=A.any (lg next)/\Below w.heap.size w w':=by
 have Y:=zq hr;have U:=zq hs;clear hr hs;go_enter Tryz.func61,Tryz.ntmps61;go_wp2_with fail;go_loopw [8] (λi wr=>∃ k:Nat,k<=A.length/\i=.int .i64 (k:Int)/\Zq (∀ x∈A.take k,lg next x=false)/\Zq (Below w.heap.size w wr)) (λi _=>A.length+1 - (intOf i).toNat)
 case atStart=>exact ⟨0,by omega,rfl,λx M=>by simp at M,Below.refl _ _⟩
 case round =>
  obtain ⟨k,hk,rfl,X,N⟩:=hrel
  by_cases hlt:k < A.length
  ·
   obtain ⟨g,off,rfl,h1⟩:=(Y.o.below N.o) k hlt;have B:=zq (λw2 Z=>ark A[k] next bx w2 Z);have F:wr.cell? ⟨bx,0,none⟩=some (.int .i64 next):=by rw [N.o.cell (ay U.o)]; exact U.o
   have E:=zq F;have I:A.take (k+1)=A.take k++[A[k]]:=List.take_succ_eq_append_getElem hlt
   by_cases he:lg next A[k]=true
   ·
    have O:Zq (decide (0<=(k:Int))=A.any (lg next)):=by
     show _=_;rw [decide_eq_true (by omega),(List.any_eq_true.2 ⟨A[k],List.getElem_mem hlt,he⟩)]
    rw [he] at B;clear I he F;generalize A[k]=z at *
    go_wp2_with fail;refine (B.o _ (by first | exact E.o | simpa using E.o)).mono ?_;rintro e w2 ⟨rfl,hb⟩;obtain rfl:=hb.symm;clear B h1;go_wp2_with fail;go_ret;exact ⟨_,rfl,O.o,N.o.trans (by first | exact Below.refl _ _ | exact (Below.refl _ _).drew)⟩
   ·
    have J:lg next A[k]=false:=by cases h:lg next A[k] with
     | true=>exact absurd h he
     | false=>rfl
    have R:Zq (∀ x∈A.take (k+1),lg next x=false):=by
     show ∀ x∈A.take (k+1),lg next x=false
     rw [I];intro x M
     rcases List.mem_append.1 M with h | h
     . exact X.o x h
     . rw [List.mem_singleton] at h; subst h; exact J
    rw [J] at B;clear I he J F;generalize A[k]=z at *
    go_wp2_with fail;refine (B.o _ (by first | exact E.o | simpa using E.o)).mono ?_;rintro e w2 ⟨rfl,hb⟩;obtain rfl:=hb.symm;clear B h1;go_wp2_with fail;go_roundw
    case rel=>exact ⟨k+1,by omega,by go_num,R,N.o.trans (by first | exact Below.refl _ _ | exact (Below.refl _ _).drew)⟩
    case measure=>simp [intOf]; omega
  ·
   obtain rfl:k=A.length:=by omega
   have O:Zq (decide (0<=(-1:Int))=A.any (lg next)):=by
    show _=_;have:=X.o;rw [List.take_length] at this;rw [List.any_eq_false.2 (λx M=>by rw [this x M]; decide)];rfl
   go_wp2_with fail;go_ret;exact ⟨_,rfl,O.o,N.o⟩
theorem abg (a:Option Addr) (cp:Nat) (xs:List Int) (hx:xs.length<=1048576) (bx:Nat) (next:Int) (w:World) (A:OctW.Ints w a xs) (hs:w.cell? ⟨bx,0,none⟩=some (.int .i64 next)) :
 Calls Tryz.prog 25 #[.slice a xs.length cp,.func (.func 26) #[] #[.pointer (some ⟨bx,0,none⟩)]] w λe w'=>e=.returned (.bool (xs.any (lg next)))/\Below w.heap.size w w':=by
 have B:=zq (arl a cp xs hx bx next w A hs);clear A hs;go_enter Tryz.func25,Tryz.ntmps25;go_wp2_with fail;refine B.o.mono ?_;rintro e w2 ⟨r,rfl,A,hb⟩;have E:=zq hb;have F:=zq A;clear hb A B;go_wp2_with fail;go_ret;rw [<- F.o];exact ⟨rfl,E.o⟩
def jy (xs:List Int):Int:=xs.foldl (λm x=>max m x) (-1)
theorem aax (xs:List Int) {k:Nat} (h:k < xs.length):jy (xs.take (k+1))=max (jy (xs.take k)) xs[k]:=by
 rw [List.take_succ_eq_append_getElem h]; unfold jy; rw [List.foldl_append]; rfl
theorem apn (xs:List Int) (h:0 < xs.length) (h0:0<=xs[0]):jy (xs.take 1)=xs[0]:=by
 rw [aax xs h];show max (-1) xs[0]=xs[0];omega
theorem atn (a:Option Addr) (cp:Nat) (A:List Int) (hx:A.length<=1048576) (h0:0 < A.length) (hp:∀ x∈A,0<=x) (w:World) (hr:OctW.Ints w a A) :
 Calls Tryz.prog 27 #[.slice a A.length cp] w λe w'=>e=.returned (.int .i64 (jy A))/\w'=w:=by
 have J:=zq hr;have M:=zq (apn A h0 (hp _ (List.getElem_mem h0)));have N:=zq (λk (h:k < A.length)=>aax A h);obtain ⟨g,off,rfl,h1⟩:=hr 0 h0;have E:¬ (A.length:Int) < 1:=by omega
 have O:decide ((A.length:Int) < 1)=false:=decide_eq_false E;rw [<- M.o,Nat.add_zero] at h1;clear hr hp;go_enter Tryz.func27,Tryz.ntmps27;go_wp2_with fail;go_loopw [3,4] (λm i wr=>∃ k:Nat,1<=k/\k<=A.length/\i=.int .i64 (k:Int)/\m=.int .i64 (jy (A.take k))/\wr=w) (λ_ i _=>A.length+1 - (intOf i).toNat)
 case atStart=>exact ⟨1,by omega,by omega,rfl,rfl,rfl⟩
 case round =>
  obtain ⟨k,R,hk,rfl,rfl,rfl⟩:=hrel
  by_cases hlt:k < A.length
  ·
   obtain ⟨g2,I,B,U⟩:=J.o k hlt;injection B with B
   injection B with B e3
   subst B e3;have F:=zq (N.o k hlt);clear h1;go_wp2_with fail;go_roundw
   case rel=>exact ⟨k+1,by omega,by omega,by go_num,by rw [F.o],by first | rfl | trivial⟩
   case measure=>simp [intOf]; omega
  ·
   obtain rfl:k=A.length:=by omega
   clear h1;go_wp2_with fail;go_ret;rw [List.take_length];exact ⟨rfl,rfl⟩
def aep (l:List (List UInt8×Nat)) (g t:List UInt8) (q:Int):Int:=if iq g=true then nu l t q else 11
theorem bars_any {base:Nat} {S0:StoD} {X:TabD} (g t:List UInt8) (q:Int) (hg:g.length<=1000) (ht:t.length<=1000) (W:World) (h:StoTab base W S0 X) (hl:X.l.length<=1000) :
 Calls Tryz.prog 23 #[.pointer (some ⟨S0.blk,0,none⟩),.string (S g),.string (S t),.int .i64 q] W λe w'=>e=.returned (.int .i64 (aep X.l g t q))/\Below W.heap.size W w':=by
 have M:=zq (NameW.tq g (by omega) W);have N:Zq (∀ w,Below W.heap.size W w->w.cell? ⟨S0.blk,3,none⟩=some (.pointer (some ⟨X.blk,0,none⟩))/\Calls Tryz.prog 45 #[.pointer (some ⟨X.blk,0,none⟩),.string (S t),.int .i64 q] w λe w'=>e=.returned (.int .i64 (nu X.l t q))/\Below w.heap.size w w'):=λw hb=>⟨ab4 (h.below hb),aek t (by omega) q w (h.below hb).tab hl⟩
 have B:Zq (aep X.l g t q=if iq g=true then nu X.l t q else 11):=rfl;clear h hg ht hl;generalize nu X.l t q=ck at *
 generalize S g=sg at *
 generalize S t=st at *
 go_enter Tryz.func23,Tryz.ntmps23;go_wp2_with fail;refine M.o.mono ?_;rintro e w2 ⟨rfl,hb⟩;have I:=zq hb;obtain ⟨c3,E⟩:=N.o w2 hb;have F:=zq E;clear hb E M N
 cases hgl:iq g with
 | false =>
   rw [hgl] at B;have A:=zq (B.o.trans (if_neg (by decide)));clear hgl B;go_wp2_with fail;go_ret;rw [A.o];exact ⟨rfl,I.o⟩
 | true =>
   rw [hgl] at B;have A:=zq (B.o.trans (if_pos rfl));clear hgl B;go_wp2_with fail;refine F.o.mono ?_;rintro e w3 ⟨rfl,hb⟩;have J:=zq (I.o.trans (hb.mono I.o.size));clear hb F c3;go_wp2_with fail;go_ret;rw [A.o];exact ⟨rfl,J.o⟩
theorem am2 (sb cb tb:Nat) (g t:ByteArray) (q p now:Int) (idn len hash born rid:Int) (m n:Msg) (sy:Bool) (hk1:∀ t∈m.keys,t≠[]) (hk2:∀ t∈n.keys,t≠[]) (W:World) (Q:World->World->Prop)
 (HBA:Zq (Calls Tryz.prog 23 #[.pointer (some ⟨sb,0,none⟩),.string g,.string t,.int .i64 q] W λe w'=>e=.returned (.int .i64 0)/\Below W.heap.size W w'))
 (HAT:Zq (∀ w,Below W.heap.size W w->w.cell? ⟨sb,1,none⟩=some (.pointer (some ⟨cb,0,none⟩))/\Calls Tryz.prog 32 #[.pointer (some ⟨cb,0,none⟩),.string t,.int .i64 q,.int .i64 p] w λe w'=>e=.returned (.tuple #[.agg #[.int .i64 idn,.int .i64 len,.int .i64 hash,.int .i64 born],.int .i64 0])/\Below w.heap.size w w'))
 (HRD:Zq (∀ w,Below W.heap.size W w->w.cell? ⟨sb,0,none⟩=some (.pointer (some ⟨tb,0,none⟩))/\Calls Tryz.prog 33 #[.pointer (some ⟨tb,0,none⟩),.int .i64 idn] w λe w'=>∃ a c,e=.returned (.tuple #[.agg #[.int .i64 m.kind,.int .i64 m.queue,.int .i64 m.due,.int .i64 m.retry,.int .i64 m.ref,.int .i64 m.born,.string (S m.topic),.string (S m.tag),.string (S m.body),.slice a m.keys.length c],.int .i64 0])/\Strs w' a (m.keys.map S)/\Below w.heap.size w w'))
 (HNO:Zq (∀ w,Below W.heap.size W w->Calls Tryz.prog 21 #[.pointer (some ⟨sb,0,none⟩)] w λe w'=>e=.returned (.int .i64 now)/\w'=w))
 (HAG:Zq (∀ w a c,Below W.heap.size W w->Strs w a (m.keys.map S)->Calls Tryz.prog 34 #[.agg #[.int .i64 m.kind,.int .i64 m.queue,.int .i64 m.due,.int .i64 m.retry,.int .i64 m.ref,.int .i64 m.born,.string (S m.topic),.string (S m.tag),.string (S m.body),.slice a m.keys.length c],.int .i64 idn,.string g,.int .i64 now] w λe w'=>∃ a2 q2,e=.returned (.tuple #[.agg #[.int .i64 n.kind,.int .i64 n.queue,.int .i64 n.due,.int .i64 n.retry,.int .i64 n.ref,.int .i64 n.born,.string (S n.topic),.string (S n.tag),.string (S n.body),.slice a2 n.keys.length q2],.int .i64 0])/\Strs w' a2 (n.keys.map S)/\Below w.heap.size w w'))
 (HPU:Zq (∀ w a c,Below W.heap.size W w->Strs w a (n.keys.map S)->Calls Tryz.prog 19 #[.pointer (some ⟨sb,0,none⟩),.agg #[.int .i64 n.kind,.int .i64 n.queue,.int .i64 n.due,.int .i64 n.retry,.int .i64 n.ref,.int .i64 n.born,.string (S n.topic),.string (S n.tag),.string (S n.body),.slice a n.keys.length c],.bool sy] w λe w'=>e=.returned (.tuple #[.int .i64 rid,.int .i64 0])/\Q w w')) :
 Calls Tryz.prog 12 #[.pointer (some ⟨sb,0,none⟩),.string g,.string t,.int .i64 q,.int .i64 p,.bool sy] W λe w'=>e=.returned (.tuple #[.int .i64 rid,.int .i64 0])/\∃ w3,Below W.heap.size W w3/\Q w3 w':=by
 have bz:=zq hk1;have b0:=zq hk2;clear hk1 hk2;go_enter Tryz.func12,Tryz.ntmps12;go_wp2_with fail;refine HBA.o.mono ?_;rintro e w1 ⟨rfl,a6⟩;have a7:=zq a6;obtain ⟨k1,bd⟩:=HAT.o w1 a6;have ap:=zq bd;clear a6 bd HBA HAT;go_wp2_with fail;refine ap.o.mono ?_;rintro e w2 ⟨rfl,bh⟩;have bj:Below w2.heap.size w2 (w2.alloc (.cells #[.int .i64 idn,.int .i64 len,.int .i64 hash,.int .i64 born] 95)):=(Below.refl _ w2).alloc (Nat.le_refl _) _;have ak:Zq ((w2.alloc (.cells #[.int .i64 idn,.int .i64 len,.int .i64 hash,.int .i64 born] 95)).heap[w2.heap.size]?=some (.cells #[.int .i64 idn,.int .i64 len,.int .i64 hash,.int .i64 born] 95 (0,0))):=heap_alloc_new w2 _;have X:=a7.o.trans (bh.mono a7.o.size);have Z:=zq (X.trans (bj.mono X.size));clear bh bj X ap k1 a7;go_upto_region 5 with fail
 generalize w2.alloc (.cells #[.int .i64 idn,.int .i64 len,.int .i64 hash,.int .i64 born] 95)=w3 at *
 obtain ⟨PB,bk⟩:∃ PB,w2.heap.size=PB:=⟨_,rfl⟩;rw [bk] at ak ⊢;clear bk;go_upto_region 7 with fail
 have N:Zq (∀ w,ReadG w3.heap.size m w3.drew w->Below w3.heap.size w3 w):=λw B=>((Below.refl _ w3).drew).trans B.below
 have HK:Zq (∀ w,ReadG w3.heap.size m w3.drew w->w.cell? ⟨sb,0,none⟩=some (.pointer (some ⟨tb,0,none⟩))/\w.cell? ⟨PB,0,none⟩=some (.int .i64 idn)/\Below W.heap.size W w):=λw B=>by
  have hb:=N.o w B;have al:=Z.o.trans (hb.mono Z.o.size);exact ⟨(HRD.o w al).1,aa (ag hb ak.o) 0 _ rfl,al⟩
 refine GrowN.aj 13 [none,none,none,none,none,none,some (.inr λ_ v w=>∃ a c,v=.tuple #[.agg #[.int .i64 m.kind,.int .i64 m.queue,.int .i64 m.due,.int .i64 m.retry,.int .i64 m.ref,.int .i64 m.born,.string (S m.topic),.string (S m.tag),.string (S m.body),.slice a m.keys.length c],.int .i64 0]/\Strs w a (m.keys.map S)),some (.inr λ_ v w=>∃ a c,v=.tuple #[.agg #[.int .i64 m.kind,.int .i64 m.queue,.int .i64 m.due,.int .i64 m.retry,.int .i64 m.ref,.int .i64 m.born,.string (S m.topic),.string (S m.tag),.string (S m.body),.slice a m.keys.length c],.int .i64 0]/\Strs w a (m.keys.map S)),some (.inr λ_ v w=>∃ a c,v=.agg #[.int .i64 m.kind,.int .i64 m.queue,.int .i64 m.due,.int .i64 m.retry,.int .i64 m.ref,.int .i64 m.born,.string (S m.topic),.string (S m.tag),.string (S m.body),.slice a m.keys.length c]/\Strs w a (m.keys.map S)),some (.inl (.int .i64 0)),some (.inr λ_ v w=>∃ g,v=.pointer (some ⟨g,0,none⟩)/\MadeM (w3.heap.size) m g w),some (.inr λl v w=>∃ g,l.head?=some (some (.pointer (some ⟨g,0,none⟩)))/\w3.heap.size<=g/\ac2 m g w),none] (ReadG w3.heap.size m) (by kernel_rfl) (by kernel_rfl) (by kernel_rfl) (ReadG.refl _ _) (λ_ _ _=>ReadG.trans) ?_ ?_
 ·
  intro K hK Y hY l v w w' hR h;simp only [List.mem_cons,List.not_mem_nil,or_false] at hK
  rcases hK with rfl | rfl | rfl | rfl | rfl | rfl | rfl | rfl | rfl | rfl | rfl | rfl | rfl <;> simp only [reduceCtorEq,Option.some.injEq,Sum.inr.injEq] at hY
  iterate 3
   . subst hY; obtain ⟨a,c,e,F⟩:=h; exact ⟨a,c,e,hR.strs a F⟩
  . subst hY; obtain ⟨g,e,O⟩:=h; exact ⟨g,e,O.keep hR⟩
  . subst hY; obtain ⟨g,e,O,hf⟩:=h; exact ⟨g,e,O,hR.full g O hf⟩
 simp only [List.take_succ_cons,List.take_zero,List.drop_succ_cons,List.drop_zero]
 iterate 6
  refine GrowN.g_det rfl ?_;apply Exists.intro;refine ⟨λw B A=>?_,?_⟩
  . clear A
    obtain ⟨c0,p0,J⟩:=HK.o w B;go_simp;exact ⟨rfl,ReadG.refl _ _ _⟩
  go_frame
 refine GrowN.g_new rfl (λw B A=>?_) (λv6=>?_)
 ·
  clear A;obtain ⟨c0,p0,J⟩:=HK.o w B;have b3:=zq (HRD.o w J).2;have ba:=B.size;clear c0 p0 J;go_simp;exact b3.o.mono λe w3 ⟨a,c,h1,h2,h3⟩=>⟨_,h1,⟨a,⟨c,rfl⟩,h2⟩,ReadG.of_below h3 ba⟩
 go_frame;refine GrowN.g_new rfl (λw B A=>?_) (λv7=>?_)
 ·
  skip
  obtain ⟨a,c,rfl,F⟩:=A _ (.head _) (by kernel_rfl);clear A;have I:=zq F;clear F;go_simp
  first | exact ⟨⟨a,⟨c,rfl⟩,I.o⟩,ReadG.refl _ _ _⟩ | exact ⟨⟨a,c,rfl,I.o⟩,ReadG.refl _ _ _⟩
 go_frame;refine GrowN.g_new rfl (λw B A=>?_) (λv8=>?_)
 ·
  skip
  obtain ⟨a,c,rfl,F⟩:=A _ (.head _) (by kernel_rfl);clear A;have I:=zq F;clear F;go_simp
  first | exact ⟨⟨a,⟨c,rfl⟩,I.o⟩,ReadG.refl _ _ _⟩ | exact ⟨⟨a,c,rfl,I.o⟩,ReadG.refl _ _ _⟩
 go_frame;refine GrowN.g_con rfl (λw B A=>?_) ?_
 ·
  skip
  obtain ⟨a,c,rfl,F⟩:=A _ (.tail _ (.head _)) (by kernel_rfl);clear A F;go_simp
  first | exact ReadG.refl _ _ _ | exact ⟨rfl,ReadG.refl _ _ _⟩
 go_frame;refine GrowN.g_new rfl (λw B A=>?_) (λv10=>?_)
 . clear A
   go_simp;exact ⟨⟨_,rfl,B.size,.inl (heap_alloc_new w _)⟩,ReadG.of_below ((Below.refl _ w).alloc (Nat.le_refl _) _) B.size⟩
 go_frame;refine GrowN.g_new rfl (λw B A=>?_) (λv11=>?_)
 ·
  skip
  obtain ⟨g,rfl,hG⟩:=A _ (.head _) (by kernel_rfl);obtain ⟨a,c,rfl,F⟩:=A _ (.tail _ (.head _)) (by kernel_rfl);clear A;obtain ⟨c0,c1,c2,c3,c4,c5,c6,c7,c8,c9,hc⟩:=hG.cells;have z0:=aa hc 0 _ rfl;have z1:=aa hc 1 _ rfl;have z2:=aa hc 2 _ rfl;have z3:=aa hc 3 _ rfl;have z4:=aa hc 4 _ rfl;have z5:=aa hc 5 _ rfl;have z6:=aa hc 6 _ rfl;have z7:=aa hc 7 _ rfl;have z8:=aa hc 8 _ rfl;have z9:=aa hc 9 _ rfl;have f0:=ae hc 0;have f1:=ae hc 1;have f2:=ae hc 2;have f3:=ae hc 3;have f4:=ae hc 4;have f5:=ae hc 5;have f6:=ae hc 6;have f7:=ae hc 7;have f8:=ae hc 8;have f9:=ae hc 9;have ab:=zq (hG.store bz.o a c F);have bb:=zq hG.1;clear hc F hG;go_simp;exact ⟨⟨g,rfl,bb.o,ab.o.2⟩,ab.o.1⟩
 go_frame;refine GrowN.g_det rfl ?_;apply Exists.intro;refine ⟨λw B A=>?_,?_⟩
 . clear A
   go_simp;exact ⟨rfl,ReadG.refl _ _ _⟩
 go_frame;refine GrowN.g_nil λw4 B A=>?_
 obtain ⟨g,hl,O,a1,q1,E,R⟩:=A _ (.head _);obtain ⟨g2,hv,_⟩:=A _ (.tail _ (.head _));clear A;subst hv;replace hl:(some (some (Value.pointer (some ⟨g2,0,none⟩))):Option (Option Value))=some (some (.pointer (some ⟨g,0,none⟩))):=hl;obtain rfl:g2=g:=by simpa using hl
 clear hl;have bc:=zq (N.o w4 B);have bm:=zq E;have bo:=zq R;have bp:=zq (ag bc.o ak.o);have M:=zq (Z.o.trans (bc.o.mono Z.o.size));clear B E R O N HK bc ak Z HRD;go_upto_region 10 with fail
 have N:Zq (∀ w,ReadG w4.heap.size n w4.drew w->Below w4.heap.size w4 w):=λw B=>((Below.refl _ w4).drew).trans B.below
 have HK:Zq (∀ w,ReadG w4.heap.size n w4.drew w->(w.cell? ⟨g2,0,none⟩=some (.int .i64 m.kind)/\w.cell? ⟨g2,1,none⟩=some (.int .i64 m.queue)/\w.cell? ⟨g2,2,none⟩=some (.int .i64 m.due)/\w.cell? ⟨g2,3,none⟩=some (.int .i64 m.retry)/\w.cell? ⟨g2,4,none⟩=some (.int .i64 m.ref)/\w.cell? ⟨g2,5,none⟩=some (.int .i64 m.born)/\w.cell? ⟨g2,6,none⟩=some (.string (S m.topic))/\w.cell? ⟨g2,7,none⟩=some (.string (S m.tag))/\w.cell? ⟨g2,8,none⟩=some (.string (S m.body))/\w.cell? ⟨g2,9,none⟩=some (.slice a1 m.keys.length q1))/\w.cell? ⟨PB,0,none⟩=some (.int .i64 idn)/\Below W.heap.size W w/\Strs w a1 (m.keys.map S)):=λw B=>by
  have hb:=N.o w B;have al:=M.o.trans (hb.mono M.o.size);have hh:=ag hb bm.o;exact ⟨⟨aa hh 0 _ rfl,aa hh 1 _ rfl,aa hh 2 _ rfl,aa hh 3 _ rfl,aa hh 4 _ rfl,aa hh 5 _ rfl,aa hh 6 _ rfl,aa hh 7 _ rfl,aa hh 8 _ rfl,aa hh 9 _ rfl⟩,aa (ag hb bp.o) 0 _ rfl,al,Strs.below bo.o hb⟩
 refine GrowN.aj 13 [none,none,none,none,none,some (.inl (.int .i64 now)),some (.inr λ_ v w=>∃ a c,v=.tuple #[.agg #[.int .i64 n.kind,.int .i64 n.queue,.int .i64 n.due,.int .i64 n.retry,.int .i64 n.ref,.int .i64 n.born,.string (S n.topic),.string (S n.tag),.string (S n.body),.slice a n.keys.length c],.int .i64 0]/\Strs w a (n.keys.map S)),some (.inr λ_ v w=>∃ a c,v=.tuple #[.agg #[.int .i64 n.kind,.int .i64 n.queue,.int .i64 n.due,.int .i64 n.retry,.int .i64 n.ref,.int .i64 n.born,.string (S n.topic),.string (S n.tag),.string (S n.body),.slice a n.keys.length c],.int .i64 0]/\Strs w a (n.keys.map S)),some (.inr λ_ v w=>∃ a c,v=.agg #[.int .i64 n.kind,.int .i64 n.queue,.int .i64 n.due,.int .i64 n.retry,.int .i64 n.ref,.int .i64 n.born,.string (S n.topic),.string (S n.tag),.string (S n.body),.slice a n.keys.length c]/\Strs w a (n.keys.map S)),some (.inl (.int .i64 0)),some (.inr λ_ v w=>∃ g,v=.pointer (some ⟨g,0,none⟩)/\MadeM (w4.heap.size) n g w),some (.inr λl v w=>∃ g,l.head?=some (some (.pointer (some ⟨g,0,none⟩)))/\w4.heap.size<=g/\ac2 n g w),none] (ReadG w4.heap.size n) (by kernel_rfl) (by kernel_rfl) (by kernel_rfl) (ReadG.refl _ _) (λ_ _ _=>ReadG.trans) ?_ ?_
 ·
  intro K hK Y hY l v w w' hR h;simp only [List.mem_cons,List.not_mem_nil,or_false] at hK
  rcases hK with rfl | rfl | rfl | rfl | rfl | rfl | rfl | rfl | rfl | rfl | rfl | rfl | rfl <;> simp only [reduceCtorEq,Option.some.injEq,Sum.inr.injEq] at hY
  iterate 3
   . subst hY; obtain ⟨a,c,e,F⟩:=h; exact ⟨a,c,e,hR.strs a F⟩
  . subst hY; obtain ⟨g,e,O⟩:=h; exact ⟨g,e,O.keep hR⟩
  . subst hY; obtain ⟨g,e,O,hf⟩:=h; exact ⟨g,e,O,hR.full g O hf⟩
 simp only [List.take_succ_cons,List.take_zero,List.drop_succ_cons,List.drop_zero]
 iterate 5
  refine GrowN.g_det rfl ?_;apply Exists.intro;refine ⟨λw B A=>?_,?_⟩
  . clear A
    obtain ⟨⟨c0,c1,c2,c3,c4,c5,c6,c7,c8,c9⟩,p0,J,ac⟩:=HK.o w B;go_simp;exact ⟨rfl,ReadG.refl _ _ _⟩
  go_frame
 refine GrowN.g_con rfl (λw B A=>?_) ?_
 ·
  clear A;obtain ⟨_,_,J,_⟩:=HK.o w B;have b8:=zq (HNO.o w J);go_simp;exact b8.o.mono λe w3 h=>⟨_,h.1,rfl,h.2 ▸ ReadG.refl _ _ _⟩
 go_frame;refine GrowN.g_new rfl (λw B A=>?_) (λv6=>?_)
 ·
  clear A;obtain ⟨_,_,J,ac⟩:=HK.o w B;have b9:=zq (HAG.o w a1 q1 J ac);have ba:=B.size;clear J ac;go_simp;exact b9.o.mono λe w3 ⟨a,c,h1,h2,h3⟩=>⟨_,h1,⟨a,⟨c,rfl⟩,h2⟩,ReadG.of_below h3 ba⟩
 go_frame;refine GrowN.g_new rfl (λw B A=>?_) (λv7=>?_)
 ·
  skip
  obtain ⟨a,c,rfl,F⟩:=A _ (.head _) (by kernel_rfl);clear A;have I:=zq F;clear F;go_simp
  first | exact ⟨⟨a,⟨c,rfl⟩,I.o⟩,ReadG.refl _ _ _⟩ | exact ⟨⟨a,c,rfl,I.o⟩,ReadG.refl _ _ _⟩
 go_frame;refine GrowN.g_new rfl (λw B A=>?_) (λv8=>?_)
 ·
  skip
  obtain ⟨a,c,rfl,F⟩:=A _ (.head _) (by kernel_rfl);clear A;have I:=zq F;clear F;go_simp
  first | exact ⟨⟨a,⟨c,rfl⟩,I.o⟩,ReadG.refl _ _ _⟩ | exact ⟨⟨a,c,rfl,I.o⟩,ReadG.refl _ _ _⟩
 go_frame;refine GrowN.g_con rfl (λw B A=>?_) ?_
 ·
  skip
  obtain ⟨a,c,rfl,F⟩:=A _ (.tail _ (.head _)) (by kernel_rfl);clear A F;go_simp
  first | exact ReadG.refl _ _ _ | exact ⟨rfl,ReadG.refl _ _ _⟩
 go_frame;refine GrowN.g_new rfl (λw B A=>?_) (λv10=>?_)
 . clear A
   go_simp;exact ⟨⟨_,rfl,B.size,.inl (heap_alloc_new w _)⟩,ReadG.of_below ((Below.refl _ w).alloc (Nat.le_refl _) _) B.size⟩
 go_frame;refine GrowN.g_new rfl (λw B A=>?_) (λv11=>?_)
 ·
  skip
  obtain ⟨g,rfl,hG⟩:=A _ (.head _) (by kernel_rfl);obtain ⟨a,c,rfl,F⟩:=A _ (.tail _ (.head _)) (by kernel_rfl);clear A;obtain ⟨c0,c1,c2,c3,c4,c5,c6,c7,c8,c9,hc⟩:=hG.cells;have z0:=aa hc 0 _ rfl;have z1:=aa hc 1 _ rfl;have z2:=aa hc 2 _ rfl;have z3:=aa hc 3 _ rfl;have z4:=aa hc 4 _ rfl;have z5:=aa hc 5 _ rfl;have z6:=aa hc 6 _ rfl;have z7:=aa hc 7 _ rfl;have z8:=aa hc 8 _ rfl;have z9:=aa hc 9 _ rfl;have f0:=ae hc 0;have f1:=ae hc 1;have f2:=ae hc 2;have f3:=ae hc 3;have f4:=ae hc 4;have f5:=ae hc 5;have f6:=ae hc 6;have f7:=ae hc 7;have f8:=ae hc 8;have f9:=ae hc 9;have ab:=zq (hG.store b0.o a c F);have bb:=zq hG.1;clear hc F hG;go_simp;exact ⟨⟨g,rfl,bb.o,ab.o.2⟩,ab.o.1⟩
 go_frame;refine GrowN.g_det rfl ?_;apply Exists.intro;refine ⟨λw B A=>?_,?_⟩
 . clear A
   go_simp;exact ⟨rfl,ReadG.refl _ _ _⟩
 go_frame;refine GrowN.g_nil λU B A=>?_
 obtain ⟨g,hl,O,a2,q2,E,R⟩:=A _ (.head _);obtain ⟨g3,hv,_⟩:=A _ (.tail _ (.head _));clear A;subst hv;replace hl:(some (some (Value.pointer (some ⟨g3,0,none⟩))):Option (Option Value))=some (some (.pointer (some ⟨g,0,none⟩))):=hl;obtain rfl:g3=g:=by simpa using hl
 clear hl;have br:=zq (N.o U B);have cp:=zq R;have av:=zq (M.o.trans (br.o.mono M.o.size));have bs:=zq (HPU.o U a2 q2 av.o R);have n0:U.cell? ⟨g3,0,none⟩=_:=aa E 0 _ rfl;have n1:U.cell? ⟨g3,1,none⟩=_:=aa E 1 _ rfl;have n2:U.cell? ⟨g3,2,none⟩=_:=aa E 2 _ rfl;have n3:U.cell? ⟨g3,3,none⟩=_:=aa E 3 _ rfl;have n4:U.cell? ⟨g3,4,none⟩=_:=aa E 4 _ rfl;have n5:U.cell? ⟨g3,5,none⟩=_:=aa E 5 _ rfl;have n6:U.cell? ⟨g3,6,none⟩=_:=aa E 6 _ rfl;have n7:U.cell? ⟨g3,7,none⟩=_:=aa E 7 _ rfl;have n8:U.cell? ⟨g3,8,none⟩=_:=aa E 8 _ rfl;have n9:U.cell? ⟨g3,9,none⟩=_:=aa E 9 _ rfl;clear B E R O N HK br bp M bm bo HNO HAG HPU;go_wp2_with fail;refine bs.o.mono ?_;rintro e w6 ⟨rfl,hq⟩;have HQ:=zq hq;clear hq bs n0 n1 n2 n3 n4 n5 n6 n7 n8 n9;go_wp2_with fail;go_ret2;exact ⟨rfl,U,av.o,HQ.o⟩
end RetW
end Go.Proofs.YtckjigopecocaaaGreatDoor
