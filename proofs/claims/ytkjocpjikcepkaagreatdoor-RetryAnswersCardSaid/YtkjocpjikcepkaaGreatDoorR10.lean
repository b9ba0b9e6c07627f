/- topic: the bytes of topics; slices.Clone of topics. And what follows. -/
import Derived.Test.YtkjocpjikcepkaaGreatDoorR09
import Derived.Lib.SliceRun
import Derived.Below
set_option linter.unusedVariables false
set_option linter.unusedSimpArgs false
set_option maxHeartbeats 25600000
set_option maxRecDepth 100000
namespace Go.Proofs.YtkjocpjikcepkaaGreatDoor
namespace TopW
open Go.RowKit Go.MapKept OctMath RecMath RecW DskW SegW CacheW StoW
open OctW (ik cz lw)
def xx (l:List (List UInt8×Nat)):List UInt8:=l.flatMap λx=>ik x.1++be 1 x.2
def ww (l:List (List UInt8×Nat)):List UInt8:=be 1 l.length++xx l
theorem aum (x:Nat) (h:x < 256):OctW.pu 1 [(x:Int)]=(be 1 x,0):=by
 have h1:OctW.pu ((1:Nat):Int) [(x:Int)]=_:=ab9 1 [(x:Int)] (by omega) (by omega) (λy A=>by
  rw [List.mem_singleton.1 A]; exact ⟨by omega,by show (x:Int) < ((256 ^ 1:Nat):Int); omega⟩)
 rw [show ((1:Nat):Int)=1 from rfl] at h1;rw [h1]; simp [OctW.numsL]
theorem atu (t:List UInt8) (h:t.length<=1000):lw [t]=(ik t,0):=by
 unfold OctW.lw;rw [if_pos (λx A=>by rw [List.mem_singleton.1 A]; omega)];simp [cz]
theorem ac8 (l:List (List UInt8×Nat)) (h:∀ x∈l,x.1.length<=1000/\x.2<=255):(xx l).length<=l.length * 1003:=by
 induction l with
 | nil=>simp [xx]
 | cons x l ih =>
   have h1:=h x (.head _);have E:=ih λy A=>h y (.tail _ A)
   have B:xx (x :: l)=(ik x.1++be 1 x.2)++xx l:=rfl;rw [B,List.length_append,List.length_append,OctW.jq,bq,List.length_cons,Nat.add_mul];omega
theorem ap2 (a:Option Addr) (cp:Nat) (l:List (List UInt8×Nat)) (hl:l.length<=255) (hn:∀ x∈l,x.1.length<=1000/\x.2<=255) (W:World) (hr:RowT W a l) :
 Calls Tryz.prog 61 #[.slice a l.length cp] W λe w'=>e=.returned (.string (S (ww l)))/\Below W.heap.size W w':=by
 have HR:=zq hr;have M:=zq hn
 have N:Zq (∀ (w:World) (x:Nat),x < 256->Calls Tryz.prog 126 #[.int .i64 1,.slice (some ⟨w.heap.size,0,none⟩) 1 1] (w.alloc (.cells #[.int .i64 (x:Int)] 3)) λe w'=>e=.returned (.tuple #[.string (S (be 1 x)),.int .i64 0])/\Below w.heap.size w w'):=λw x h=>by
  have h1:=OctW.nums_any 1 (by omega) (by omega) (some ⟨w.heap.size,0,none⟩) 1 [(x:Int)] (by simp) (λy hy=>by simp at hy; omega) _ (aar w [(x:Int)] 3);rw [aum x h] at h1;exact h1.mono λe w' ⟨he,hb⟩=>⟨he,((Below.refl _ w).alloc (Nat.le_refl _) _).trans (hb.mono (by rw [World.size_alloc]; omega))⟩
 have am:Zq (∀ (w:World) (t:List UInt8),t.length<=1000->Calls Tryz.prog 127 #[.slice (some ⟨w.heap.size,0,none⟩) 1 1] (w.alloc (.cells #[.string (S t)] 9)) λe w'=>e=.returned (.tuple #[.string (S (ik t)),.int .i64 0])/\Below w.heap.size w w'):=λw t h=>by
  have h1:=OctW.acu (some ⟨w.heap.size,0,none⟩) 1 [t] (by simp) (by simp [cz,OctW.jq]; omega) _ (ahj w [S t] 9);rw [atu t h] at h1;exact h1.mono λe w' ⟨he,hb⟩=>⟨he,((Below.refl _ w).alloc (Nat.le_refl _) _).trans (hb.mono (by rw [World.size_alloc]; omega))⟩
 have a1:=zq (ac8 l hn);clear hr hn;go_enter Tryz.func61,Tryz.ntmps61;go_wp2_with fail;refine (N.o W l.length (by omega)).mono ?_;rintro e w1 ⟨rfl,O⟩;have R:=zq O;clear O;have U:Zq (S (be 1 l.length)=S (be 1 l.length++xx (l.take 0))):=by show _=_; simp [xx]
 go_wp2_with fail;go_loopw [20,3] (λi s wr=>∃ k:Nat,k<=l.length/\i=.int .i64 (k:Int)/\s=.string (S (be 1 l.length++xx (l.take k)))/\Zq (Below W.heap.size W wr)) (λi _ _=>l.length+1 - (intOf i).toNat)
 case atStart=>exact ⟨0,by omega,rfl,by rw [U.o],R.o⟩
 case round =>
  obtain ⟨k,hk,rfl,rfl,X⟩:=hrel;clear R U
  by_cases hlt:k < l.length
  ·
   obtain ⟨g,rfl,a6,h1,h2⟩:=(HR.o.below X.o) k hlt;have E:=M.o l[k] (List.getElem_mem hlt);have Y:l.take (k+1)=l.take k++[l[k]]:=List.take_succ_eq_append_getElem hlt
   have an:(xx (l.take k)).length<=255 * 1003:=by
    have h3:=ac8 (l.take k) λx E=>M.o x (List.mem_of_mem_take E)
    have h4:(l.take k).length<=255:=by rw [List.length_take]; omega
    have h5:(l.take k).length * 1003<=255 * 1003:=Nat.mul_le_mul_right _ h4;omega
   have z1:(S (be 1 l.length++xx (l.take k))).size<=300000:=by rw [ai,List.length_append,bq]; omega
   generalize l[k]=x at *
   obtain ⟨n,q⟩:=x;dsimp only at E;have z2:(S (ik n)).size<=2000:=by rw [ai,OctW.jq]; have:=E.1; omega
   have z3:(S (be 1 q)).size<=10:=by rw [ai,bq]; omega
   have HS:Zq (S (be 1 l.length++xx (l.take k))++(S (ik n)++S (be 1 q))=S (be 1 l.length++xx (l.take (k+1)))):=by
    show _=_;rw [Y,gm,gm];simp [xx]
   have Z:=zq (λw=>am.o w n E.1);have ab:=zq (λw=>N.o w q (by have:=E.2; omega));clear Y an E;generalize S (be 1 l.length++xx (l.take k))=s1 at *
   generalize S (ik n)=s2 at *
   generalize S (be 1 q)=s3 at *
   have ac:Zq (Below wr.heap.size wr (wr.alloc (.cells #[.string (S n),.int .i64 (q:Int)] 132))):=(Below.refl _ _).alloc (Nat.le_refl _) _;have B:=heap_alloc_new wr (.cells #[.string (S n),.int .i64 (q:Int)] 132);go_upto_region 5 with fail
   generalize wr.alloc (.cells #[.string (S n),.int .i64 (q:Int)] 132)=w2 at *
   obtain ⟨A,hA⟩:∃ A,wr.heap.size=A:=⟨_,rfl⟩;have F:Zq (Below W.heap.size W w2):=X.o.trans (ac.o.mono X.o.size);rw [hA] at B ⊢;have ad:=zq B;have c0:w2.cell? ⟨A,0,none⟩=some (.string (S n)):=by rw [Lib.cell_of_heap B]; rfl
   clear hA B ac X h1 h2;go_wp2_with fail;refine (Z.o _).mono ?_;rintro e w3 ⟨rfl,I⟩;have J:Zq (Below W.heap.size W w3):=F.o.trans (I.mono F.o.size)
   have c1:w3.cell? ⟨A,1,none⟩=some (.int .i64 (q:Int)):=by
    rw [Lib.cell_of_heap ((I.block A (Array.getElem?_eq_some_iff.1 ad.o).1).trans ad.o)]; rfl
   clear I Z F c0;go_wp2_with fail;refine (ab.o _).mono ?_;rintro e w4 ⟨rfl,ak⟩;have ao:Zq (Below W.heap.size W w4):=J.o.trans (ak.mono J.o.size);clear ak ab J c1;go_wp2_with fail;go_roundw
   case rel=>exact ⟨k+1,by omega,by go_num,by rw [<- HS.o],ao⟩
   case measure=>simp [intOf]; omega
  ·
   obtain rfl:k=l.length:=by omega
   go_wp2_with fail;go_ret;rw [List.take_length];exact ⟨rfl,X.o⟩
theorem aex:∃ i,Tryz.prog.info? 132=some i/\i.zero=some (.agg #[.string ⟨#[]⟩,.int .i64 0])/\i.size=2/\i.bytes=24:=by
 have:=(show (Tryz.prog.info? 132).map (λi=>(i.zero,i.size,i.bytes))=some (some (.agg #[.string ⟨#[]⟩,.int .i64 0]),2,24) by kernel_rfl)
 cases hh:Tryz.prog.info? 132 with
 | none=>rw [hh] at this; cases this
 | some i=>rw [hh] at this; have A:=Option.some.inj this; exact ⟨i,rfl,congrArg (·.1) A,congrArg (·.2.1) A,congrArg (·.2.2) A⟩
theorem aff {base:Nat} {w:World} {v:Value} {l:List (List UInt8×Nat)} (h:w.ownsRow base 132 2 v l.length (je l)) (hl:l.length<=1048576) (bb:Addr) :
 ∃ a B F E,v=.slice a l.length B/\(Builtin.append_ #[77,77] 77 #[.slice (some bb) 0 0,.slice a l.length B]).run Tryz.prog w=.ok F E /\
  (l=[]->F=.slice (some bb) 0 0/\E=w)/\(l≠[]->E.ownsRow w.heap.size 132 2 F l.length (je l)/\Below w.heap.size w E):=by
 obtain ⟨i0,I,N,O,R⟩:=aex;obtain ⟨a,B,X,J⟩:=RowT.own h;subst X
 cases l with
 | nil=>exact ⟨a,B,_,w,rfl,ado _ _ _ i0 Tryz.underlying77 I _ a B,λ_=>⟨rfl,rfl⟩,λh=>absurd rfl h⟩
 | cons x l =>
   obtain ⟨g,rfl,_⟩:=J 0 (by simp)
   rcases h.2 with ⟨e,_⟩ | ⟨g2,cap,cur,e,hb,hg,hn,hm,hc,ht⟩
   . cases e
   ·
    cases e
    obtain ⟨F,E,Y,A,U⟩:=run_append_arg_grows (P:=Tryz.prog) (w:=w) 77 77 132 i0 (.agg #[.string ⟨#[]⟩,.int .i64 0]) 2 24 Tryz.underlying77 I N O R rfl (by omega) bb 0 0 [] rfl (by simp)
     ⟨g,0,none⟩ (x :: l).length B (je (x :: l)) (akb _) (λj u hu=>by
      have M:(⟨g,0,none⟩:Addr).add j=⟨g,j,none⟩:=by unfold Addr.add; split <;> simp_all
      rw [M,Lib.cell_of_heap hg];rw [<- ht] at hu;rw [List.getElem?_take] at hu
      split at hu
      . simpa using hu
      . cases hu) (by simp) (by unfold maxLen; simp at hl ⊢; omega) (by simp at hl ⊢; omega)
    rw [Nat.zero_add,List.nil_append] at A;exact ⟨_,B,F,E,rfl,Y,λh=>absurd h (by simp),λ_=>⟨A,(Below.refl _ _).grown U (Nat.le_refl _) (by simp)⟩⟩
theorem aih (a:Option Addr) (n c:Nat) (w:World):Sem.run Tryz.prog (binOp .eql 77 (.slice a n c) (.slice none 0 0)) w=.ok (.bool a.isNone) w :=
 Lib.run_eql_slice_nil w _ 132 a n c 0 0 Tryz.underlying77
theorem aey {base:Nat} (v:Value) (l:List (List UInt8×Nat)) (w:World) (h:w.ownsRow base 132 2 v l.length (je l)) (hl:l.length<=1048576) :
 Calls Tryz.prog 58 #[v] w λe w'=>∃ B,e=.returned B/\w'.ownsRow w.heap.size 132 2 B l.length (je l)/\Below w.heap.size w w':=by
 rcases h.2 with ⟨hv,h0⟩ | ⟨g,cap,cur,hv,_⟩
 ·
  subst hv;obtain rfl:l=[]:=List.eq_nil_of_length_eq_zero h0;have E:Sem.run Tryz.prog (binOp .eql 77 (.slice none 0 0) (.slice none 0 0)) w=.ok (.bool true) w:=aih none 0 0 w;go_enter Tryz.func58,Tryz.ntmps58;go_wp2_with fail;go_ret;exact ⟨_,rfl,⟨rfl,.inl ⟨rfl,rfl⟩⟩,Below.refl _ _⟩
 ·
  have A:Zq (Below w.heap.size w (w.alloc (.cells #[] 132))):=(Below.refl _ _).alloc (Nat.le_refl _) _;have J:(w.alloc (.cells #[] 132)).ownsRow base 132 2 v l.length (je l):=OctW.ownsRow_mod h (Mod.of_below (M:=λ_=>False) A.o) (λ_ x=>x.elim);obtain ⟨a,cp,B,N,F,O,R,U⟩:=aff J hl ⟨w.heap.size,0,none⟩;have X:(w.alloc (.cells #[] 132)).ownsRow w.heap.size 132 2 (.slice (some ⟨w.heap.size,0,none⟩) 0 0) 0 []:=⟨rfl,.inr ⟨w.heap.size,0,#[],rfl,Nat.le_refl _,heap_alloc_new w _,Nat.le_refl _,by unfold maxLen; omega,rfl,rfl⟩⟩
  have Z:Zq (N.ownsRow w.heap.size 132 2 B l.length (je l)/\Below w.heap.size w N):=by
   by_cases hl0:l=[]
   . obtain ⟨rfl,rfl⟩:=R hl0
     subst hl0;exact ⟨X,A.o⟩
   . obtain ⟨Y,h4⟩:=U hl0
     refine ⟨⟨Y.1,Y.2.imp (λh=>h) λ⟨g,cap,cur,e1,e2,rest⟩=>⟨g,cap,cur,e1,by rw [World.size_alloc] at e2; omega,rest⟩⟩,A.o.trans (h4.mono (by rw [World.size_alloc]; omega))⟩
  have I:=zq O;subst hv
  cases F
  have E:Sem.run Tryz.prog (binOp .eql 77 (.slice (some ⟨g,0,none⟩) l.length cap) (.slice none 0 0)) w=.ok (.bool false) w:=aih _ _ _ w;clear h J O R U X A;go_enter Tryz.func58,Tryz.ntmps58;go_wp2_with (at_builtin; refine Lib.wpList_append_run _ rfl (.tmp 5) (.tmp 6) 77 77 rfl _ _ rfl rfl _ _ I.o ?_);go_ret;exact ⟨B,rfl,Z.o⟩
open Go.RowKit Go.MapKept OctMath RecMath RecW DskW SegW CacheW StoW NameMath
theorem ap3 {base:Nat} {X:TabD} (w:World) (h:TabAt base w X) (hl:X.l.length<=1000) :
 Calls Tryz.prog 24 #[.pointer (some ⟨X.blk,0,none⟩)] w λe w'=>∃ A,e=.returned A/\w'.ownsRow w.heap.size 132 2 A X.l.length (je X.l)/\Below w.heap.size w w':=by
 have c1:w.cell? ⟨X.blk,1,none⟩=some X.v:=by rw [Lib.cell_of_heap h.cells]; rfl
 have B:=zq (aey X.v X.l w h.row (by omega));generalize X.v=v at *
 clear h;go_enter Tryz.func24,Tryz.ntmps24;go_wp2_with fail;refine B.o.mono ?_;rintro e w2 ⟨A,rfl,E,hb⟩;have F:=zq E;have I:=zq hb;clear E hb B c1;go_wp2_with fail;go_ret;exact ⟨A,rfl,F.o,I.o⟩
def jb (l:List (List UInt8×Nat)) (n:List UInt8):Nat:=if (ofL n).isEmpty=true then ((l.find? λx=>decide (x.1=n)).map (·.2)).getD 0 else 1
theorem ap4 (n:List UInt8) (l:List (List UInt8×Nat)) (k:Nat) (h:k < l.length) (hn:∀ x∈l.take k,x.1≠n) (he:l[k].1=n):(l.find? λx=>decide (x.1=n))=some l[k]:=by
 have h1:(l.take k++l.drop k).find? (λx=>decide (x.1=n))=some l[k]:=by
  rw [List.find?_append,List.find?_eq_none.2 (λx A=>by simpa using hn x A),Option.none_or,List.drop_eq_getElem_cons h,List.find?_cons_of_pos (by simpa using he)]
 rw [List.take_append_drop] at h1;exact h1
theorem aii (n:List UInt8) (l:List (List UInt8×Nat)) (hn:∀ x∈l,x.1≠n):(l.find? λx=>decide (x.1=n))=none:=List.find?_eq_none.2 (λx A=>by simpa using hn x A)
theorem aij {base:Nat} {X:TabD} (n:List UInt8) (hn:n.length<=1099511627776) (W:World) (h:TabAt base W X) (hl:X.l.length<=1000) :
 Calls Tryz.prog 129 #[.pointer (some ⟨X.blk,0,none⟩),.string (S n)] W λe w'=>e=.returned (.int .i64 (jb X.l n:Int))/\Below W.heap.size W w':=by
 obtain ⟨tb,dk,v,l⟩:=X;have HC:=zq h.cells;obtain ⟨a,cp,hv,B⟩:=RowT.own h.row;dsimp only at hv B HC hl ⊢;subst hv;have HR:=zq B;have HO:=zq (λw=>NameW.of_any n hn w);have HQ:Zq (jb l n=if (ofL n).isEmpty=true then ((l.find? λx=>decide (x.1=n)).map (·.2)).getD 0 else 1):=rfl;generalize hob:(ofL n).isEmpty=ob at *
 clear h B hob;go_enter Tryz.func129,Tryz.ntmps129;go_wp2_with fail;refine (HO.o W).mono ?_;rintro e w1 ⟨rfl,I⟩;have J:=zq I;have N:Zq (w1.heap[tb]?=_):=(I.block tb (Array.getElem?_eq_some_iff.1 HC.o).1).trans HC.o;have c1:w1.cell? ⟨tb,1,none⟩=some (.slice a l.length cp):=by rw [Lib.cell_of_heap N.o]; rfl
 clear I HO
 cases ob with
 | false =>
   go_wp2_with fail;go_ret;rw [HQ.o];exact ⟨rfl,J.o⟩
 | true =>
   go_wp2_with fail;go_loopw [22] (λi wr=>∃ k:Nat,k<=l.length/\i=.int .i64 (k:Int)/\Zq (∀ x∈l.take k,x.1≠n)/\Zq (Below W.heap.size W wr)) (λi _=>l.length+1 - (intOf i).toNat)
   case atStart=>exact ⟨0,by omega,rfl,λx Z=>by simp at Z,J.o⟩
   case round =>
    obtain ⟨k,hk,rfl,HA,O⟩:=hrel;clear J N c1
    by_cases hlt:k < l.length
    ·
     obtain ⟨g,rfl,a1,h1,h2⟩:=(HR.o.below O.o) k hlt;have R:l.take (k+1)=l.take k++[l[k]]:=List.take_succ_eq_append_getElem hlt;have U:Zq (Below wr.heap.size wr (wr.alloc (.cells #[.string (S l[k].1),.int .i64 (l[k].2:Int)] 132))):=(Below.refl _ _).alloc (Nat.le_refl _) _;have F:=heap_alloc_new wr (.cells #[.string (S l[k].1),.int .i64 (l[k].2:Int)] 132);have HF:Zq (l[k].1=n->jb l n=l[k].2):=λE=>by rw [HQ.o,if_pos trivial,ap4 n l k hlt HA.o E]; rfl
     have HN:Zq (l[k].1≠n->∀ x∈l.take (k+1),x.1≠n):=λE x Z=>by
      rw [R] at Z
      rcases List.mem_append.1 Z with h | h
      . exact HA.o x h
      . rw [List.mem_singleton] at h; subst h; exact E
     clear R;generalize l[k]=x at *
     obtain ⟨m,q⟩:=x;dsimp only at *
     go_upto_region 9 with fail
     generalize wr.alloc (.cells #[.string (S m),.int .i64 (q:Int)] 132)=w2 at *
     obtain ⟨A,hA⟩:∃ A,wr.heap.size=A:=⟨_,rfl⟩;have Y:Zq (Below W.heap.size W w2):=O.o.trans (U.o.mono O.o.size);rw [hA] at F ⊢;have c0:w2.cell? ⟨A,0,none⟩=some (.string (S m)):=by rw [Lib.cell_of_heap F]; rfl
     have d1:w2.cell? ⟨A,1,none⟩=some (.int .i64 (q:Int)):=by rw [Lib.cell_of_heap F]; rfl
     clear hA F U O h1 h2
     by_cases E:m=n
     . have M:=zq (HF.o E)
       subst E;clear HF HN;go_wp2_with fail;go_ret;rw [M.o];exact ⟨rfl,Y.o⟩
     ·
      have a7:((S m).toList == (S n).toList)=false:=by rw [DskW.S_toList,DskW.S_toList]; simp [E]
      have am:=zq (HN.o E);clear HF HN;have HE:=zq E;clear E;go_wp2_with fail;go_roundw
      case rel=>exact ⟨k+1,by omega,by go_num,am,Y⟩
      case measure=>simp [intOf]; omega
    ·
     obtain rfl:k=l.length:=by omega
     have M:Zq (jb l n=0):=by
      have h1:=HA.o;rw [List.take_length] at h1;show _=_;rw [HQ.o,if_pos trivial,aii n l h1]; rfl
     go_wp2_with fail;go_ret;rw [M.o];exact ⟨rfl,O.o⟩
def ni (l:List (List UInt8×Nat)) (n:List UInt8) (q:Int):Int:=if jb l n=0 then 12 else if q < 0\/(jb l n:Int)<=q then 13 else 0
theorem aez {base:Nat} {X:TabD} (n:List UInt8) (hn:n.length<=1099511627776) (q:Int) (W:World) (h:TabAt base W X) (hl:X.l.length<=1000) :
 Calls Tryz.prog 63 #[.pointer (some ⟨X.blk,0,none⟩),.string (S n),.int .i64 q] W λe w'=>e=.returned (.int .i64 (ni X.l n q))/\Below W.heap.size W w':=by
 have J:=zq (aij n hn W h hl);have E:Zq (ni X.l n q=if jb X.l n=0 then 12 else if q < 0\/(jb X.l n:Int)<=q then 13 else 0):=rfl;generalize jb X.l n=m at *
 clear h;go_enter Tryz.func63,Tryz.ntmps63;go_wp2_with fail;refine J.o.mono ?_;rintro e w1 ⟨rfl,F⟩;have B:=zq F;clear F J
 by_cases h0:m=0
 ·
  have A:Zq (ni X.l n q=12):=by show _=_; rw [E.o,if_pos h0]
  subst h0;clear E;go_wp2_with fail;go_ret;rw [A.o];exact ⟨rfl,B.o⟩
 have M:((m:Int) == 0)=false:=beq_eq_false_iff_ne.2 (by omega)
 by_cases h1:q < 0
 ·
  have A:Zq (ni X.l n q=13):=by show _=_; rw [E.o,if_neg h0,if_pos (.inl h1)]
  have hd:decide (q < 0)=true:=decide_eq_true h1;clear E h1;go_wp2_with fail;go_ret;rw [A.o];exact ⟨rfl,B.o⟩
 have hd:decide (q < 0)=false:=decide_eq_false h1
 by_cases h2:(m:Int)<=q
 ·
  have A:Zq (ni X.l n q=13):=by show _=_; rw [E.o,if_neg h0,if_pos (.inr h2)]
  have I:decide ((m:Int)<=q)=true:=decide_eq_true h2;clear E h1 h2;go_wp2_with fail;go_ret;rw [A.o];exact ⟨rfl,B.o⟩
 ·
  have A:Zq (ni X.l n q=0):=by show _=_; rw [E.o,if_neg h0,if_neg (by omega)]
  have I:decide ((m:Int)<=q)=false:=decide_eq_false h2;clear E h1 h2;go_wp2_with fail;go_ret;rw [A.o];exact ⟨rfl,B.o⟩
end TopW
namespace SndW
open Go.RowKit Go.MapKept OctMath RecMath RecW DskW SegW TapeW TapeMath PendW CacheW StoW TopW NameMath
theorem aik (a:Option Addr) (cap:Nat) (ts:List (List UInt8)) (hx:ts.length<=1048576) (W:World) (hS:Strs W a (ts.map S)) :
 Calls Tryz.prog 67 #[.slice a ts.length cap] W λe w'=>e=.returned (.bool (decide ts.Nodup))/\Below W.heap.size W w':=by
 have N:=zq (TagW.aek a ts.length cap W);have B:Zq (Below W.heap.size W (W.alloc (.cells #[.slice a ts.length cap] 33))):=(Below.refl _ _).alloc (Nat.le_refl _) _;have F:=zq (SeqW.abg W.heap.size cap a ts hx (W.alloc (.cells #[.slice a ts.length cap] 33)) (Strs.below hS B.o) (by simp) (by rw [World.cell?_alloc_new]; rfl));have A:(ts.mergeSort (λx y=>decide (x<=y))).length=ts.length:=List.length_mergeSort _
 have I:Zq (decide ts.Nodup=!decide ((Lib.compact (ts.mergeSort (λx y=>decide (x<=y)))).length < ts.length)):=by
  have h1:=DupMath.afy ts;unfold TagW.arq at h1;rw [decide_eq_true_eq] at h1;show _=_
  by_cases h:ts.Nodup
  . rw [decide_eq_true h,decide_eq_false (λR=>h1.1 R h)]; rfl
  . rw [decide_eq_false h,decide_eq_true (h1.2 h)]; rfl
 have U:(Lib.compact (ts.mergeSort (λx y=>decide (x<=y)))).length<=ts.length:=by
  rw [<- A];unfold Lib.compact Lib.compactUpTo;rw [List.length_map];exact Nat.le_trans (List.length_filter_le _ _) (by simp)
 generalize ts.mergeSort (λx y=>decide (x<=y))=ss at *
 clear hS;go_enter Tryz.func67,Tryz.ntmps67;go_wp2_with fail;refine N.o.mono ?_;rintro e w2 ⟨rfl,rfl⟩;clear N;go_wp2_with fail;refine F.o.mono ?_;rintro e w3 ⟨v,rfl,E,hb⟩;have M:=zq (B.o.trans (hb.mono B.o.size));have O:=zq (TagW.adf W.heap.size v ss (by omega) W w3 M.o (by rw [A]; exact SeqW.own_base E B.o.size));generalize (Lib.compact ss).length=cn at *
 generalize ts.length=tn at *
 clear E hb F A;go_wp2_with fail;refine O.o.mono ?_;rintro e w4 ⟨⟨a4,c4,rfl⟩,hb⟩;have J:=zq hb;clear hb O
 by_cases h:cn=tn
 ·
  subst h;go_wp2_with fail;go_ret;exact ⟨bf (by rw [I.o]; simp),J.o⟩
 ·
  have X:¬ (cn:Int)=(tn:Int):=by omega
  go_wp2_with fail;go_ret;exact ⟨bf (by rw [I.o,decide_eq_true (by omega:cn < tn)]; first | rfl | (simp; omega)),J.o⟩
structure ib where
 topic:List UInt8
 queue:Int
 tag:List UInt8
 keys:List (List UInt8)
 body:List UInt8
def ig (x:ib) (a:Option Addr) (c:Nat):Array Value:=#[.string (S x.topic),.int .i64 x.queue,.string (S x.tag),.slice a x.keys.length c,.string (S x.body)]
structure su (x:ib):Prop where
 queue:inI x.queue
 topic:x.topic.length<=1073741824
 tag:x.tag.length<=1073741824
 body:x.body.length<=1073741824
 keys:x.keys.length<=1048576
 key:∀ t∈x.keys,t.length<=1073741824
def pq (l:List (List UInt8×Nat)) (x:ib):Int :=
 if (ofL x.topic).isEmpty=false then 12 else if ni l x.topic x.queue≠0 then ni l x.topic x.queue else
 if (ara x.tag && x.keys.all qx)=false then 11 else if 3 < x.keys.length\/200 < x.body.length then 6 else if x.keys.Nodup then 0 else 10
theorem ae0 {base:Nat} {S0:StoD} {X:TabD} (x:ib) (hx:su x) (a:Option Addr) (c:Nat) (W:World) (h:StoTab base W S0 X) (hl:X.l.length<=1000) (hS:Strs W a (x.keys.map S)) :
 Calls Tryz.prog 26 #[.pointer (some ⟨S0.blk,0,none⟩),.agg (ig x a c)] W λe w'=>e=.returned (.int .i64 (pq X.l x))/\Below W.heap.size W w':=by
 have Z:Zq (Below W.heap.size W (W.alloc (.cells (ig x a c) 35))):=(Below.refl _ W).alloc (Nat.le_refl _) _;have ab:Zq (RecW.Boxed (W.alloc (.cells (ig x a c) 35)) W.heap.size (ig x a c)):=RecW.Boxed.new W _ _;have a1:=zq (h.below Z.o);have a6:=zq (Strs.below hS Z.o);have bs:(ig x a c).size=5:=rfl;have HO:=zq (λw=>NameW.of_any x.topic (by have:=hx.topic; omega) w);have a7:=zq (λw (hw:StoTab base w S0 X)=>aez x.topic (by have:=hx.topic; omega) x.queue w hw.tab hl);have ba:=zq (λw=>NameW.ak6 x.tag (by have:=hx.tag; omega) w);have bb:=zq (λw (hs:Strs w a (x.keys.map S))=>ahi a c x.keys hx.keys (λt ht=>by have:=hx.key t ht; omega) w hs);have bc:=zq (λw (hs:Strs w a (x.keys.map S))=>aik a c x.keys hx.keys w hs)
 have ac:Zq (pq X.l x=if (ofL x.topic).isEmpty=false then 12 else if ni X.l x.topic x.queue≠0 then ni X.l x.topic x.queue else
  if ((x.tag.isEmpty || fu x.tag) && x.keys.all qx)=false then 11 else if 3 < x.keys.length\/200 < x.body.length then 6 else if x.keys.Nodup then 0 else 10):=rfl
 have bd:=ai x.body;have b7:=hx.body;have b8:=hx.keys;generalize pq X.l x=R at *
 generalize (ofL x.topic).isEmpty=ob at *
 generalize ni X.l x.topic x.queue=ct at *
 generalize (x.tag.isEmpty || fu x.tag)=tg at *
 generalize x.keys.all qx=ak at *
 clear h hS hx;go_enter Tryz.func26,Tryz.ntmps26;go_upto_region 1 with fail
 generalize W.alloc (.cells (ig x a c) 35)=w1 at *
 clear bs;obtain ⟨A,hA⟩:∃ A,W.heap.size=A:=⟨_,rfl⟩;rw [hA] at ab ⊢;have b9:=zq hA;clear hA;have k0:w1.cell? ⟨A,0,none⟩=some (.string (S x.topic)):=ab.o 0 _ rfl;go_wp2_with fail;refine (HO.o w1).mono ?_;rintro e w2 ⟨rfl,hb⟩;have I:Zq (Below W.heap.size W w2):=Z.o.trans (hb.mono Z.o.size);have O:=zq (ab.o.below hb);have U:=zq (a1.o.below hb);have ad:=zq (Strs.below a6.o hb);clear hb HO k0 ab a1 a6 Z
 cases ob with
 | false =>
   have J:R=12:=by rw [ac.o,if_pos rfl]
   clear ac;go_wp2_with fail;go_ret;rw [J];exact ⟨rfl,I.o⟩
 | true =>
 have M:Zq (R=if ct≠0 then ct else if (tg && ak)=false then 11 else if 3 < x.keys.length\/200 < x.body.length then 6 else if x.keys.Nodup then 0 else 10):=by
  show _=_; rw [ac.o,if_neg (by decide)]
 clear ac;have al:w2.cell? ⟨S0.blk,3,none⟩=some S0.top:=U.o.sto.cell 3 _ rfl;rw [U.o.top] at al;have k0:w2.cell? ⟨A,0,none⟩=some (.string (S x.topic)):=O.o 0 _ rfl;have k1:w2.cell? ⟨A,1,none⟩=some (.int .i64 x.queue):=O.o 1 _ rfl
 have HK:Zq (∀ w,RecW.ExtR w2.drew w->w.cell? ⟨S0.blk,3,none⟩=some (.pointer (some ⟨X.blk,0,none⟩))/\w.cell? ⟨A,0,none⟩=some (.string (S x.topic))/\w.cell? ⟨A,1,none⟩=some (.int .i64 x.queue)/\Below w2.heap.size w2 w):=λw hw=>by
  have hb:Below w2.heap.size w2 w:=((Below.refl _ w2).drew).trans hw;exact ⟨by rw [hb.cell (ax al)]; exact al,by rw [hb.cell (ax k0)]; exact k0,by rw [hb.cell (ax k1)]; exact k1,hb⟩
 clear k0 k1 al;go_upto_region 6 with fail
 refine GrowN.au 8 [none,none,none,none,none,none,none,none] RecW.ExtR (by kernel_rfl) (by kernel_rfl) (by kernel_rfl) RecW.ExtR.refl (λ_ _ _=>RecW.ExtR.trans) ?_ ?_
 . exact GrowN.jy rfl
 simp only [List.take_succ_cons,List.take_zero,List.drop_succ_cons,List.drop_zero]
 iterate 8
  refine GrowN.g_det rfl ?_;apply Exists.intro;refine ⟨λw hw hF=>?_,?_⟩
  . clear hF
    obtain ⟨k1,k2,k3,_⟩:=HK.o w hw;go_simp;exact ⟨rfl,RecW.ExtR.refl _⟩
  go_frame
 refine GrowN.g_nil λbj bk hF=>?_
 clear hF;obtain ⟨_,_,_,F⟩:=HK.o bj bk;have I:Zq (Below W.heap.size W bj):=I.o.trans (F.mono I.o.size);have O:=zq (O.o.below F);have U:=zq (U.o.below F);have ad:=zq (Strs.below ad.o F);clear F bk HK;go_wp2_with fail;refine (a7.o _ U.o).mono ?_;rintro e w3 ⟨rfl,hb⟩;have am:Zq (Below W.heap.size W w3):=I.o.trans (hb.mono I.o.size);have ao:=zq (O.o.below hb);have bl:=zq (Strs.below ad.o hb);clear hb a7 O U ad I
 by_cases h0:ct=0
 case neg =>
  have J:R=ct:=by rw [M.o,if_pos h0]
  have ca:(ct != 0)=true:=bne_iff_ne.2 h0;clear M h0;go_wp2_with fail;go_ret;rw [J];exact ⟨rfl,am.o⟩
 case pos =>
 have B:Zq (R=if (tg && ak)=false then 11 else if 3 < x.keys.length\/200 < x.body.length then 6 else if x.keys.Nodup then 0 else 10):=by
  show _=_; rw [M.o,if_neg (by simpa using h0)]
 clear M;subst h0;have k2:w3.cell? ⟨A,2,none⟩=some (.string (S x.tag)):=ao.o 2 _ rfl;go_wp2_with fail;refine (ba.o w3).mono ?_;rintro e w4 ⟨rfl,hb⟩;have an:Zq (Below W.heap.size W w4):=am.o.trans (hb.mono am.o.size);have ap:=zq (ao.o.below hb);have ar:=zq (Strs.below bl.o hb);clear hb ba k2 ao bl am;have k3:w4.cell? ⟨A,3,none⟩=some (.slice a x.keys.length c):=ap.o 3 _ rfl
 cases tg with
 | false =>
   have J:R=11:=by rw [B.o,if_pos (by simp)]
   clear B;go_wp2_with fail;go_ret;rw [J];exact ⟨rfl,an.o⟩
 | true =>
 go_wp2_with fail;refine (bb.o w4 ar.o).mono ?_;rintro e w5 ⟨rfl,hb⟩;have Y:Zq (Below W.heap.size W w5):=an.o.trans (hb.mono an.o.size);have av:=zq (ap.o.below hb);have bm:=zq (Strs.below ar.o hb);clear hb bb k3 ap ar an
 cases ak with
 | false =>
   have J:R=11:=by rw [B.o,if_pos (by simp)]
   clear B;go_wp2_with fail;go_ret;rw [J];exact ⟨rfl,Y.o⟩
 | true =>
 have E:Zq (R=if 3 < x.keys.length\/200 < x.body.length then 6 else if x.keys.Nodup then 0 else 10):=by
  show _=_; rw [B.o,if_neg (by simp)]
 clear B;have k3:w5.cell? ⟨A,3,none⟩=some (.slice a x.keys.length c):=av.o 3 _ rfl;have k4:w5.cell? ⟨A,4,none⟩=some (.string (S x.body)):=av.o 4 _ rfl
 by_cases h3:3 < x.keys.length
 ·
  have J:R=6:=by rw [E.o,if_pos (.inl h3)]
  have b2:(3:Int) < (x.keys.length:Int):=by omega
  clear E h3;go_wp2_with fail;go_ret;rw [J];exact ⟨rfl,Y.o⟩
 have b2:(x.keys.length:Int)<=(3:Int):=by omega
 by_cases h4:200 < x.body.length
 ·
  have J:R=6:=by rw [E.o,if_pos (.inr h4)]
  have b3:(200:Int) < ((S x.body).size:Int):=by omega
  clear E h3 h4 bd;go_wp2_with fail;go_ret;rw [J];exact ⟨rfl,Y.o⟩
 have b3:((S x.body).size:Int)<=(200:Int):=by omega
 have N:Zq (R=if x.keys.Nodup then 0 else 10):=by
  show _=_; rw [E.o,if_neg (by omega)]
 clear E h3 h4 bd;go_wp2_with fail;refine (bc.o w5 bm.o).mono ?_;rintro e w6 ⟨rfl,hb⟩;have bo:Zq (Below W.heap.size W w6):=Y.o.trans (hb.mono Y.o.size);clear hb bc k3 k4 av bm Y
 by_cases hn:x.keys.Nodup
 ·
  have J:R=0:=by rw [N.o,if_pos hn]
  rw [decide_eq_true hn];clear N hn;go_wp2_with fail;go_ret;rw [J];exact ⟨rfl,bo.o⟩
 ·
  have J:R=10:=by rw [N.o,if_neg hn]
  rw [decide_eq_false hn];clear N hn;go_wp2_with fail;go_ret;rw [J];exact ⟨rfl,bo.o⟩
end SndW
namespace TopW
open Go.RowKit Go.MapKept OctMath RecMath RecW DskW SegW CacheW StoW NameMath TapeW
theorem afg {base:Nat} {w:World} {v:Value} {l:List (List UInt8×Nat)} (h:w.ownsRow base 132 2 v l.length (je l)) (n:List UInt8) (q b:Nat) (hb:w.heap[b]?=some (.cells #[.string (S n),.int .i64 (q:Int)] 132 (0,0))) (hl:l.length<=1048576) (hbase:base<=w.heap.size) :
 ∃ F A,(Builtin.append_ #[77,77] 77 #[v,.slice (some ⟨b,0,none⟩) 1 1]).run Tryz.prog w=.ok F A /\
  A.ownsRow base 132 2 F (l.length+1) (je (l++[(n,q)]))/\w.grownBy A v.ownBlock:=by
 obtain ⟨i0,I,J,M,N⟩:=aex
 obtain ⟨F,A,U,B,O,_,X⟩:=run_append_own_at (P:=Tryz.prog) _ base 77 77 132 i0 (.agg #[.string ⟨#[]⟩,.int .i64 0]) 2 24 Tryz.underlying77 I J M N rfl (by omega) _ _ _ h
  ⟨b,0,none⟩ 1 1 [.string (S n),.int .i64 (q:Int)] rfl (λj u hu=>by
   have E:(⟨b,0,none⟩:Addr).add j=⟨b,j,none⟩:=by unfold Addr.add; split <;> simp_all
   rw [E,Lib.cell_of_heap hb]
   match j,hu with
   | 0,hu=>exact hu
   | 1,hu=>exact hu
   | j+2,hu=>cases hu) (λu hu=>by
   simp only [List.mem_cons,List.not_mem_nil,or_false] at hu
   rcases hu with rfl | rfl <;> rfl) (by unfold maxLen; omega) (by omega) hbase
 have R:je l++[.string (S n),.int .i64 (q:Int)]=je (l++[(n,q)]):=by unfold je; simp
 exact ⟨F,A,U,by rw [<- R]; exact B,O⟩
theorem ap5 {l:List (List UInt8×Nat)} {n:List UInt8} {q:Int} (h:qo l n q=0):1<=q/\q<=3:=by
 unfold qo at h
 split at h
 . cases h
 . split at h
   . cases h
   . rename_i h1 A; omega
theorem atv {base tb:Nat} {D:DiskD} {v:Value} {l:List (List UInt8×Nat)} (n:List UInt8) (q:Nat) (W:World) (h:TabAt base W ⟨tb,D.blk,v,l⟩) (hD:DiskAt base W D)
 (haw:∀ k,D.foot k->k≠tb) (hq:Quiet D) (E:D.waits=[]) (hno:∀ x∈D.files.map (·.1),Lib.hasPrefix x (yh jw)=false) (hfl:D.files.length<=1048576) (hnl:∀ p∈D.files,p.1.length<=maxLen)
 (hok:qo l n q=0) (hn:n.length<=1000) (hl:∀ x∈l,x.1.length<=1000/\x.2<=255) (hroom:((CrcMath.aj (ww (l++[(n,q)]))).length:Int)<=D.room) (hbase:base<=W.heap.size) :
 Calls Tryz.prog 25 #[.pointer (some ⟨tb,0,none⟩),.string (S n),.int .i64 (q:Int)] W λe w'=>e=.returned (.int .i64 0)/\∃ v' b wv m,TabAt base w' ⟨tb,D.blk,v',l++[(n,q)]⟩/\DiskAt base w' (DiskD.saved D jw b (CrcMath.aj (ww (l++[(n,q)]))) wv) /\
  Mod (λk=>D.foot k\/k=tb) W w'/\W.heap.size<=m/\m<=b/\(∀ k,wv.ownBlock=some k->D.wv.ownBlock=some k\/m<=k)/\∀ k,v'.ownBlock=some k->W.heap.size<=k/\k < m:=by
 obtain ⟨a,Z,hv,b6⟩:=RowT.own h.row;dsimp only at hv;subst hv;have dv:l.length < 6:=ah4 hok;have cv:=ap5 hok;have J:Zq (Below W.heap.size W (W.alloc (.cells #[.string (S n),.int .i64 (q:Int)] 132))):=(Below.refl _ W).alloc (Nat.le_refl _) _;have I:Zq ((W.alloc (.cells #[.string (S n),.int .i64 (q:Int)] 132)).heap[W.heap.size]?=_):=heap_alloc_new W (.cells #[.string (S n),.int .i64 (q:Int)] 132);have HX:=zq h;have HD:=zq hD
 have bl:∀ x∈l++[(n,q)],x.1.length<=1000/\x.2<=255:=λx hx=>by
  rcases List.mem_append.1 hx with h1 | h1
  . exact hl x h1
  . rw [List.mem_singleton.1 h1]; exact ⟨hn,by omega⟩
 have bm:=zq (λ(w:World) (hr:RowT w a l)=>right_any a Z l (by omega) n (by omega) (q:Int) w hr);rw [hok] at bm;have b7:=zq (λ(w:World) (h:w.ownsRow base 132 2 (.slice a l.length Z) l.length (je l))=>aey _ l w h (by omega));have b8:=zq (λ(a:Option Addr) (Z:Nat) (w:World) (h:RowT w a (l++[(n,q)]))=>ap2 a Z (l++[(n,q)]) (by simp; omega) bl w h)
 have b9:(ww (l++[(n,q)])).length<=100000:=by
  have h1:=ac8 _ bl;have h2:(l++[(n,q)]).length * 1003<=6 * 1003:=Nat.mul_le_mul_right _ (by simp; omega);unfold ww;rw [List.length_append,bq];omega
 have bp:=zq (λ(w:World) (hd:DiskAt base w D) (hb:base<=w.heap.size)=>att jw (ww (l++[(n,q)])) w hd hq E hno hfl hnl (by decide) b9 hroom hb);rw [show S jw=⟨#[116,111,112,105,99,115]⟩ from rfl] at bp;have cx:=zq haw;have ca:=zq hbase;have cb:=zq (λ(v:Value) (s b:Nat) (w:World) (h:w.ownsRow s 132 2 v l.length (je l)) (hb:w.heap[b]?=some (.cells #[.string (S n),.int .i64 (q:Int)] 132 (0,0))) (hz:s<=w.heap.size)=>afg h n q b hb (by omega) hz);have bd:(l++[(n,q)]).length=l.length+1:=by simp
 clear h hD haw hq E hno hfl hnl hok hn hl hroom hbase b6 bl cv b9;generalize ww (l++[(n,q)])=pt at *
 generalize l++[(n,q)]=l2 at *
 have cy:=zq bd;clear bd;go_enter Tryz.func25,Tryz.ntmps25;go_upto_region 4 with fail
 generalize W.alloc (.cells #[.string (S n),.int .i64 (q:Int)] 132)=w1 at *
 have X:Zq (TabAt base w1 ⟨tb,D.blk,.slice a l.length Z,l⟩):=HX.o.below J.o;obtain ⟨A,hA⟩:∃ A,W.heap.size=A:=⟨_,rfl⟩;rw [hA] at I ⊢;have dz:=zq hA;clear hA;have c1:w1.cell? ⟨tb,1,none⟩=some (.slice a l.length Z):=by rw [Lib.cell_of_heap X.o.cells]; rfl
 have d0:w1.cell? ⟨A,0,none⟩=some (.string (S n)):=by rw [Lib.cell_of_heap I.o]; rfl
 have d1:w1.cell? ⟨A,1,none⟩=some (.int .i64 (q:Int)):=by rw [Lib.cell_of_heap I.o]; rfl
 have av:Zq (RowT w1 a l):=by
  obtain ⟨a2,d5,e2,h2⟩:=RowT.own X.o.row
  cases e2
  exact h2
 have br:Zq (∀ w,RecW.ExtR w1.drew w->w.cell? ⟨tb,1,none⟩=some (.slice a l.length Z)/\w.cell? ⟨A,0,none⟩=some (.string (S n))/\w.cell? ⟨A,1,none⟩=some (.int .i64 (q:Int))/\Below w1.heap.size w1 w):=λw E=>by
  have hb:Below w1.heap.size w1 w:=((Below.refl _ w1).drew).trans E;exact ⟨by rw [hb.cell (ax c1)]; exact c1,by rw [hb.cell (ax d0)]; exact d0,by rw [hb.cell (ax d1)]; exact d1,hb⟩
 refine GrowN.au 5 [none,none,none,none,none] RecW.ExtR (by kernel_rfl) (by kernel_rfl) (by kernel_rfl) RecW.ExtR.refl (λ_ _ _=>RecW.ExtR.trans) ?_ ?_
 . exact GrowN.jy rfl
 simp only [List.take_succ_cons,List.take_zero,List.drop_succ_cons,List.drop_zero]
 iterate 5
  refine GrowN.g_det rfl ?_;apply Exists.intro;refine ⟨λw E F=>?_,?_⟩
  . clear F
    obtain ⟨k1,k2,k3,_⟩:=br.o w E;go_simp;exact ⟨rfl,RecW.ExtR.refl _⟩
  go_frame
 refine GrowN.g_nil λab cc F=>?_
 clear F;obtain ⟨_,_,_,ac⟩:=br.o ab cc;have J:Zq (Below W.heap.size W ab):=J.o.trans (ac.mono J.o.size);have X:Zq (TabAt base ab ⟨tb,D.blk,.slice a l.length Z,l⟩):=X.o.below ac;have I:Zq (ab.heap[A]?=_):=(ac.block A (Array.getElem?_eq_some_iff.1 I.o).1).trans I.o;have av:Zq (RowT ab a l):=av.o.below ac;clear c1 d0 d1 ac cc br;go_wp2_with fail;refine (bm.o _ (av.o)).mono ?_;rintro e w2 ⟨rfl,hb⟩;have bs:Zq (Below W.heap.size W w2):=J.o.trans (hb.mono J.o.size);have cd:Zq (TabAt base w2 ⟨tb,D.blk,.slice a l.length Z,l⟩):=X.o.below hb;have ce:Zq (w2.heap[A]?=_):=(hb.block A (Array.getElem?_eq_some_iff.1 I.o).1).trans I.o;clear hb bm av X I J;go_upto_region 7 with fail
 have HK:Zq (∀ w,RecW.ExtR w2.drew w->w.cell? ⟨tb,1,none⟩=some (.slice a l.length Z)/\w.cell? ⟨A,0,none⟩=some (.string (S n))/\w.cell? ⟨A,1,none⟩=some (.int .i64 (q:Int))/\TabAt base w ⟨tb,D.blk,.slice a l.length Z,l⟩/\w2.heap.size<=w.heap.size):=λw E=>by
  have hb:Below w2.heap.size w2 w:=((Below.refl _ w2).drew).trans E;have hx:=cd.o.below hb;have hc:w.heap[A]?=_:=(hb.block A (Array.getElem?_eq_some_iff.1 ce.o).1).trans ce.o;exact ⟨by rw [Lib.cell_of_heap hx.cells]; rfl,by rw [Lib.cell_of_heap hc]; rfl,by rw [Lib.cell_of_heap hc]; rfl,hx,hb.size⟩
 refine GrowN.au 7 [none,none,none,none,some (.inr (λ_ v w=>w.ownsRow w2.heap.size 132 2 v l.length (je l))),none,some (.inr (λ_ v w=>∃ b,v=.slice (some ⟨b,0,none⟩) 1 1/\w.heap[b]?=some (.cells #[.string (S n),.int .i64 (q:Int)] 132 (0,0))))] RecW.ExtR (by kernel_rfl) (by kernel_rfl) (by kernel_rfl) RecW.ExtR.refl (λ_ _ _=>RecW.ExtR.trans) ?_ ?_
 ·
  intro K hK Y hY l v w w' hR h;simp only [List.mem_cons,List.not_mem_nil,or_false] at hK
  rcases hK with rfl | rfl | rfl | rfl | rfl | rfl | rfl <;> simp only [reduceCtorEq,Option.some.injEq,Sum.inr.injEq] at hY
  . subst hY; exact OctW.ownsRow_mod h (Mod.of_below (M:=λ_=>False) hR) (λ_ x=>x.elim)
  . subst hY; obtain ⟨b,e,hh⟩:=h; exact ⟨b,e,(hR.block b (Array.getElem?_eq_some_iff.1 hh).1).trans hh⟩
 simp only [List.take_succ_cons,List.take_zero,List.drop_succ_cons,List.drop_zero]
 iterate 4
  refine GrowN.g_det rfl ?_;apply Exists.intro;refine ⟨λw E F=>?_,?_⟩
  . clear F
    obtain ⟨k1,k2,k3,_,_⟩:=HK.o w E;go_simp;exact ⟨rfl,RecW.ExtR.refl _⟩
  go_frame
 refine GrowN.g_new rfl (λw E F=>?_) (λv4=>?_)
 ·
  clear F;obtain ⟨_,_,_,k4,k5⟩:=HK.o w E;have da:=zq (b7.o w k4.row);have K5:=zq k5;clear k4 k5;go_simp;exact da.o.mono λe w3 ⟨v,h1,h2,h3⟩=>⟨_,h1,ahs h2 K5.o,h3⟩
 go_frame;refine GrowN.g_det rfl ?_;apply Exists.intro;refine ⟨λw E F=>?_,?_⟩
 ·
  clear F;obtain ⟨k1,k2,k3,_,_⟩:=HK.o w E;go_simp;exact ⟨rfl,RecW.ExtR.refl _⟩
 go_frame;refine GrowN.g_new rfl (λw E F=>?_) (λv6=>?_)
 . clear F
   go_simp;exact ⟨⟨_,rfl,heap_alloc_new w _⟩,(Below.refl _ w).alloc (Nat.le_refl _) _⟩
 go_frame;refine GrowN.g_nil λw3 a1 F=>?_
 obtain ⟨b,rfl,bw⟩:=F _ (.head _);have a6:=F _ (.tail _ (.head _));clear F;dsimp only at a6 bw;obtain ⟨v8,w8,cf,cg,ci⟩:=cb.o v4 _ b w3 a6 bw (HK.o w3 a1).2.2.2.2;have cj:=zq cf;have ck:Zq (Below w2.heap.size w2 w8):=(((Below.refl _ w2).drew).trans a1).trans ((Below.refl _ w3).grown ci (HK.o w3 a1).2.2.2.2 (az a6));have bz:Zq (w8.ownsRow w2.heap.size 132 2 v8 l2.length (je l2)):=by rw [cy.o]; exact cg
 clear a6 bw cf cg ci a1 HK cb b7;go_wp2_with (at_builtin; refine Lib.wpList_append_run _ rfl (.tmp 29) (.tmp 31) 77 77 rfl _ _ rfl rfl _ _ cj.o ?_);obtain ⟨a8,ad,db,ak⟩:=RowT.own bz.o;subst db;have cm:=zq ak;clear ak cj;have b0:Zq (Below W.heap.size W w8):=bs.o.trans (ck.o.mono bs.o.size);have b1:=zq (cd.o.below ck.o)
 have ba:Zq (∀ w,RecW.ExtR w8.drew w->w.cell? ⟨tb,0,none⟩=some (.pointer (some ⟨D.blk,0,none⟩))/\RowT w a8 l2/\Below w8.heap.size w8 w):=λw E=>by
  have hb:Below w8.heap.size w8 w:=((Below.refl _ w8).drew).trans E;exact ⟨by rw [Lib.cell_of_heap (b1.o.below hb).cells]; rfl,cm.o.below hb,hb⟩
 refine GrowN.au 6 [none,none,none,none,none,some (.inl (.string (S pt)))] RecW.ExtR (by kernel_rfl) (by kernel_rfl) (by kernel_rfl) RecW.ExtR.refl (λ_ _ _=>RecW.ExtR.trans) ?_ ?_
 . exact GrowN.jy rfl
 simp only [List.take_succ_cons,List.take_zero,List.drop_succ_cons,List.drop_zero]
 iterate 5
  refine GrowN.g_det rfl ?_;apply Exists.intro;refine ⟨λw E F=>?_,?_⟩
  . clear F
    obtain ⟨k1,_,_⟩:=ba.o w E;go_simp;exact ⟨rfl,RecW.ExtR.refl _⟩
  go_frame
 refine GrowN.g_con rfl (λw E F=>?_) ?_
 ·
  clear F;have dc:=zq (b8.o a8 ad w (ba.o w E).2.1);go_simp;exact dc.o.mono λe w3 ⟨h1,h2⟩=>⟨_,h1,rfl,h2⟩
 go_frame;refine GrowN.g_nil λw9 cn F=>?_
 clear F;obtain ⟨_,_,bc⟩:=ba.o w9 cn;have O:Zq (Below W.heap.size W w9):=b0.o.trans (bc.mono b0.o.size);have co:=zq (b1.o.below bc);have b2:Zq (w9.ownsRow w2.heap.size 132 2 (.slice a8 l2.length ad) l2.length (je l2)):=OctW.ownsRow_mod bz.o (Mod.of_below (M:=λ_=>False) bc) (λ_ x=>x.elim);clear cn bc ba b0 b1 bz b8 cm;go_wp2_with fail;refine (bp.o w9 (HD.o.below O.o) (Nat.le_trans ca.o O.o.size)).mono ?_;rintro e al ⟨rfl,b,wv,bh,am,bj,an⟩;have b3:tb < W.heap.size:=HX.o.lt (.inl rfl);have ao:¬ D.foot tb:=λh=>cx.o tb h rfl
 have R:al.heap[tb]?=_:=(am.block tb (co.o.lt (.inl rfl)) ao).trans co.o.cells;have cq:=zq R;have cr:=zq bh;have bk:=zq am;have U:Zq (w9.heap.size<=b/\∀ k,wv.ownBlock=some k->D.wv.ownBlock=some k\/w9.heap.size<=k):=⟨bj,an⟩;have HZ:Zq (tb < W.heap.size/\¬ D.foot tb):=⟨b3,ao⟩;have k1:al.cell? ⟨tb,1,none⟩=some (.slice a l.length Z):=by rw [Lib.cell_of_heap R]; rfl
 have f1:al.frozen? ⟨tb,1,none⟩=false:=Lib.frozen_of_heap R 1;clear R bh am bj an bp b3 ao;go_wp2_with fail;go_ret;obtain ⟨b3,ao⟩:=HZ.o;have ap:Mod (λk=>k=tb) al (al.setCell ⟨tb,1,none⟩ (.slice a8 l2.length ad)):=jv _ _ _ _;have dd:=O.o.size;have de:=bs.o.size;have ar:∀ k,(Value.slice a8 l2.length ad).ownBlock=some k->w2.heap.size<=k:=az b2.o
 have dj:∀ k,(Value.slice a8 l2.length ad).ownBlock=some k->k < w9.heap.size:=λk hk=>by
  rcases b2.o.2 with ⟨e,_⟩ | ⟨g,cap,cur,e,_,hg,_⟩
  . rw [e] at hk; cases hk
  . rw [e] at hk; cases hk; exact (Array.getElem?_eq_some_iff.1 hg).1
 refine ⟨rfl,_,b,wv,w9.heap.size,⟨DskW.heap_set1 cq.o _ rfl,ahs (SegW.ownsRow_mod (SegW.ownsRow_mod b2.o bk.o (λk hk h=>by have h1:=ar k hk; have h2:=HD.o.lt h; omega)) ap (λk hk h=>by have h1:=ar k hk; omega)) (Nat.le_trans ca.o de),HX.o.low⟩,
  cr.o.mod ap (λk hk e=>by
   subst e
   rcases abv (B:=w9.heap.size) U.o.1 U.o.2 _ hk with h | h
   . exact ao h
   . omega),?_,dd,U.o.1,U.o.2,λk hk=>⟨by have:=ar k hk; omega,dj k hk⟩⟩
 exact ((Mod.of_below O.o).trans (bk.o.mono (N:=λk=>D.foot k\/k=tb) λk _ h=>.inl h)).trans (ap.mono λk _ h=>.inr h)
end TopW
namespace SndW
open Go.RowKit Go.MapKept Go.Sort OctMath RecMath RecW DskW SegW TapeW TapeMath PendW CacheW StoW TopW NameMath
def jh (x:ib) (ki due now:Int):Msg:=⟨ki,x.queue,due,0,0,now,x.topic,x.tag,x.body,x.keys⟩
theorem alj (ts:List (List UInt8)):ts.map encStr=(ts.map S).map Value.string:=by rw [List.map_map]; rfl
theorem akm (x:ib) (hx:su x) (ki due now:Int) (a:Option Addr) (c:Nat) (W:World) (hS:Strs W a (x.keys.map S)) :
 Calls Tryz.prog 28 #[.agg (ig x a c),.int .i64 ki,.int .i64 due,.int .i64 now] W λe w'=>∃ a' c',e=.returned (.agg (af (jh x ki due now) a' c'))/\Strs w' a' (x.keys.map S)/\Below W.heap.size W w':=by
 have O:Below W.heap.size W ((W.alloc (.cells (ig x a c) 35)).alloc (.cells #[.int .i64 0,.int .i64 0,.int .i64 0,.int .i64 0,.int .i64 0,.int .i64 0,.string ⟨#[]⟩,.string ⟨#[]⟩,.string ⟨#[]⟩,.slice none 0 0] 65)):=((Below.refl _ W).alloc (Nat.le_refl _) _).alloc (by rw [World.size_alloc]; omega) _;have ac:((W.alloc (.cells (ig x a c) 35)).alloc (.cells #[.int .i64 0,.int .i64 0,.int .i64 0,.int .i64 0,.int .i64 0,.int .i64 0,.string ⟨#[]⟩,.string ⟨#[]⟩,.string ⟨#[]⟩,.slice none 0 0] 65)).heap[W.heap.size]?=some (.cells (ig x a c) 35 (0,0)):=ag ((Below.refl _ _).alloc (Nat.le_refl _) _) (heap_alloc_new W _)
 have B:((W.alloc (.cells (ig x a c) 35)).alloc (.cells #[.int .i64 0,.int .i64 0,.int .i64 0,.int .i64 0,.int .i64 0,.int .i64 0,.string ⟨#[]⟩,.string ⟨#[]⟩,.string ⟨#[]⟩,.slice none 0 0] 65)).heap[W.heap.size+1]?=some (.cells #[.int .i64 0,.int .i64 0,.int .i64 0,.int .i64 0,.int .i64 0,.int .i64 0,.string ⟨#[]⟩,.string ⟨#[]⟩,.string ⟨#[]⟩,.slice none 0 0] 65 (0,0)):=by
  have:=heap_alloc_new (W.alloc (.cells (ig x a c) 35)) (.cells #[.int .i64 0,.int .i64 0,.int .i64 0,.int .i64 0,.int .i64 0,.int .i64 0,.string ⟨#[]⟩,.string ⟨#[]⟩,.string ⟨#[]⟩,.slice none 0 0] 65);rw [World.size_alloc] at this;exact this
 have R:=zq O;have U:=zq ac;have J:=zq B;have ak:=zq (Strs.below hS O);have a1:(ig x a c).size=5:=rfl;have al:=zq (λw (hs:Strs w a (x.keys.map S))=>TagW.afx a c x.keys hx.keys w hs);clear O ac B hS hx;go_enter Tryz.func28,Tryz.ntmps28;go_upto_region 1 with fail
 generalize (W.alloc (.cells (ig x a c) 35)).alloc (.cells #[.int .i64 0,.int .i64 0,.int .i64 0,.int .i64 0,.int .i64 0,.int .i64 0,.string ⟨#[]⟩,.string ⟨#[]⟩,.string ⟨#[]⟩,.slice none 0 0] 65)=w1 at *
 clear a1;obtain ⟨A,hA⟩:∃ A,W.heap.size=A:=⟨_,rfl⟩;rw [hA] at U J ⊢;have a7:=zq hA;clear hA
 have HK:Zq (∀ w,RecW.ExtR w1.drew w->w.cell? ⟨A,0,none⟩=some (.string (S x.topic))/\w.cell? ⟨A,1,none⟩=some (.int .i64 x.queue)/\w.cell? ⟨A,2,none⟩=some (.string (S x.tag))/\w.cell? ⟨A,3,none⟩=some (.slice a x.keys.length c)/\w.cell? ⟨A,4,none⟩=some (.string (S x.body))/\Below w1.heap.size w1 w):=λw hw=>by
  have hb:Below w1.heap.size w1 w:=((Below.refl _ w1).drew).trans hw;have hc:=ag hb U.o;exact ⟨aa hc 0 _ rfl,aa hc 1 _ rfl,aa hc 2 _ rfl,aa hc 3 _ rfl,aa hc 4 _ rfl,hb⟩
 refine GrowN.au 14 [none,none,none,none,none,none,none,none,none,none,none,none,none,some (.inr (λ_ v w=>w.ownsRow w1.heap.size 9 1 v x.keys.length (x.keys.map encStr)))] RecW.ExtR (by kernel_rfl) (by kernel_rfl) (by kernel_rfl) RecW.ExtR.refl (λ_ _ _=>RecW.ExtR.trans) ?_ ?_
 ·
  intro K hK Y hY l v w w' hR h;simp only [List.mem_cons,List.not_mem_nil,or_false] at hK
  rcases hK with rfl | rfl | rfl | rfl | rfl | rfl | rfl | rfl | rfl | rfl | rfl | rfl | rfl | rfl <;> simp only [reduceCtorEq,Option.some.injEq,Sum.inr.injEq] at hY
  subst hY; exact OctW.ownsRow_mod h (Mod.of_below (M:=λ_=>False) hR) (λ_ x=>x.elim)
 simp only [List.take_succ_cons,List.take_zero,List.drop_succ_cons,List.drop_zero]
 iterate 13
  refine GrowN.g_det rfl ?_;apply Exists.intro;refine ⟨λw hw Z=>?_,?_⟩
  . clear Z
    obtain ⟨k0,k1,k2,k3,k4,_⟩:=HK.o w hw;go_simp;exact ⟨rfl,RecW.ExtR.refl _⟩
  go_frame
 refine GrowN.g_new rfl (λw hw Z=>?_) (λv13=>?_)
 ·
  clear Z;obtain ⟨_,_,_,_,_,hb⟩:=HK.o w hw;have a8:=zq (al.o w (Strs.below ak.o hb));have K5:Zq (w1.heap.size<=w.heap.size):=hb.size;clear hb;go_simp;exact a8.o.mono λe w3 ⟨v,h1,h2,h3⟩=>⟨_,h1,ahs h2 K5.o,h3⟩
 go_frame;refine GrowN.g_nil λw2 an Z=>?_
 have N:=Z _ (.head _);clear Z;dsimp only at N;obtain ⟨a2,I,hv,F,_⟩:=Row1.of_own N;subst hv;rw [alj] at F;obtain ⟨_,_,_,_,_,X⟩:=HK.o w2 an;have bp:=zq (Row1.to_strs F);have ao:Zq (Below W.heap.size W w2):=R.o.trans (X.mono R.o.size);have B:=ag X J.o;have HH:=zq (kw rfl B (.int .i64 ki) (.int .i64 x.queue) (.int .i64 due) (.int .i64 0) (.int .i64 0) (.int .i64 now) (.string (S x.topic)) (.string (S x.tag)) (.string (S x.body)) (.slice a2 x.keys.length I));have ap:=zq (mg w2 (A+1) (.int .i64 ki) (.int .i64 x.queue) (.int .i64 due) (.int .i64 0) (.int .i64 0) (.int .i64 now) (.string (S x.topic)) (.string (S x.tag)) (.string (S x.body)) (.slice a2 x.keys.length I));have ar:Zq ((∀ ad,a2=some ad->w1.heap.size<=ad.block)/\A+2<=w1.heap.size):=⟨λad e=>az N ad.block (by subst e; rfl),(Array.getElem?_eq_some_iff.1 J.o).1⟩;have ba:=zq F;have y0:=aa B 0 _ rfl;have z0:=ae B 0;have y1:=aa B 1 _ rfl;have z1:=ae B 1;have y2:=aa B 2 _ rfl;have z2:=ae B 2;have y3:=aa B 3 _ rfl;have z3:=ae B 3;have y4:=aa B 4 _ rfl;have z4:=ae B 4;have y5:=aa B 5 _ rfl;have z5:=ae B 5;have y6:=aa B 6 _ rfl;have z6:=ae B 6;have y7:=aa B 7 _ rfl;have z7:=ae B 7;have y8:=aa B 8 _ rfl;have z8:=ae B 8;have y9:=aa B 9 _ rfl;have z9:=ae B 9;clear B N F X an HK al ak U J R;go_wp2_with fail;clear y0 y1 y2 y3 y4 y5 y6 y7 y8 y9 z0 z1 z2 z3 z4 z5 z6 z7 z8 z9;change bodyPost _ _ _ _ _ (o9 w2 (A+1) (.int .i64 ki) (.int .i64 x.queue) (.int .i64 due) (.int .i64 0) (.int .i64 0) (.int .i64 now) (.string (S x.topic)) (.string (S x.tag)) (.string (S x.body)) (.slice a2 x.keys.length I));generalize o9 w2 (A+1) (.int .i64 ki) (.int .i64 x.queue) (.int .i64 due) (.int .i64 0) (.int .i64 0) (.int .i64 now) (.string (S x.topic)) (.string (S x.tag)) (.string (S x.body)) (.slice a2 x.keys.length I)=w9 at *
 have E:=HH.o;have c0:=aa E 0 _ rfl;have c1:=aa E 1 _ rfl;have c2:=aa E 2 _ rfl;have c3:=aa E 3 _ rfl;have c4:=aa E 4 _ rfl;have c5:=aa E 5 _ rfl;have c6:=aa E 6 _ rfl;have c7:=aa E 7 _ rfl;have c8:=aa E 8 _ rfl;have c9:=aa E 9 _ rfl;have bb:Below W.heap.size W w9:=ao.o.trans (ap.o.to_below _ ao.o.size (λk e=>by have:=a7.o; omega));have bc:Strs w9 a2 (x.keys.map S):=Row1.to_strs (Row1.mod ba.o ap.o λad e h=>by have h1:=ar.o.1 ad e; have h2:=ar.o.2; omega);refine bodyPost_ret (v:=.agg (af (jh x ki due now) a2 I)) ?_ rfl ⟨a2,I,rfl,bc,bb⟩;clear E;simp [results,Tryz.results28,go_sem,af,jh,c0,c1,c2,c3,c4,c5,c6,c7,c8,c9]
theorem Put.mono {B B2:Nat} {S0 S1:StoD} {m:Msg} {sy:Bool} (h:Put B S0 S1 m sy) (hb:B2<=B):Put B2 S0 S1 m sy :=
 { h with foot:=λk hk=>(h.foot k hk).imp (λh=>h) λh=>by omega }
theorem StoTab.put {base B:Nat} {w w':World} {S0 S1:StoD} {X:TabD} {m:Msg} {sy:Bool} (h:StoTab base w S0 X) (h1:StoAt base w' S1) (hp:Put B S0 S1 m sy) (hm:Mod S0.foot w w') (hb:w.heap.size<=B):StoTab base w' S1 X :=
 ⟨h1,h.tab.mod hm (λk hk A=>h.away k A hk),by rw [hp.same]; exact h.top,by rw [h.dk,hp.dblk],λk hk A=>(hp.foot k hk).elim (λE=>h.away k E A) λE=>by have:=h.tab.lt A; omega⟩
theorem ail {l:List (List UInt8×Nat)} {n:List UInt8} {q:Int} (hp:∀ y∈l,fu y.1=true/\y.2<=3) (h0:(ofL n).isEmpty=true) (h:ni l n q=0):fu n=true/\0<=q/\q < 3:=by
 unfold ni at h
 split at h
 . cases h
 ·
  rename_i h1
  split at h
  . cases h
  ·
   rename_i A
   unfold jb at h1 A;rw [if_pos h0] at h1 A
   cases hf:l.find? λx=>decide (x.1=n) with
   | none=>rw [hf] at h1; exact absurd rfl h1
   | some y =>
     have B:=hp y (List.mem_of_find?_eq_some hf);have E:y.1=n:=by simpa using List.find?_some hf
     rw [hf] at A;have F:¬ (q < 0\/(y.2:Int)<=q):=A;exact ⟨E ▸ B.1,by omega,by omega⟩
theorem aaw {l:List (List UInt8×Nat)} {x:ib} (hp:∀ y∈l,fu y.1=true/\y.2<=3) (h:pq l x=0) {ki due now:Int} (hk:ki=1/\due=0\/ki=2) (hd:gp due=false) (hn:gp now=false):bn (jh x ki due now)=true:=by
 unfold pq at h
 split at h
 . cases h
 ·
  rename_i h1
  have A:(ofL x.topic).isEmpty=true:=by simpa using h1
  split at h
  . rename_i B; exact absurd h B
  ·
   rename_i B
   split at h
   . cases h
   ·
    rename_i N
    split at h
    . cases h
    ·
     rename_i X
     split at h
     ·
      rename_i O
      obtain ⟨g1,g2,g3⟩:=ail hp A (by simpa using B);have E:(ara x.tag && x.keys.all qx)=true:=by simpa using N
      have F:bu (jh x ki due now)=true:=by
       unfold bu j6;obtain ⟨R,U⟩:=Bool.and_eq_true_iff.1 E;simp only [jh,g1,R,U,O,Bool.true_or,Bool.true_and,Bool.and_true,decide_true];simp only [Bool.and_eq_true,decide_eq_true_eq];exact ⟨⟨⟨⟨⟨decide_eq_true g2,decide_eq_true g3⟩,rfl⟩,rfl⟩,decide_eq_true (by omega)⟩,decide_eq_true (by omega)⟩
      unfold bn;have I:gp (jh x ki due now).ref=false:=rfl;have J:gp (jh x ki due now).due=false:=hd;have M:gp (jh x ki due now).born=false:=hn;rw [I,J,M,F]
      rcases hk with ⟨rfl,rfl⟩ | rfl
      . rfl
      . rfl
     . cases h
theorem alk {x:ib} (hx:su x) {ki due now:Int} (h1:inI ki) (h2:inI due) (h3:inI now):vv (jh x ki due now) :=
 ⟨h1,hx.queue,h2,acy,acy,h3,hx.topic,hx.tag,hx.body,hx.keys,hx.key⟩
end SndW
namespace LitMap
open Go Go.MapKept Go.RowKit
section
variable {P:Program} {w:World} {mty kt et:TypeId} {b N:Nat}
end
/-! a row of cells that is filled in any order -/
def as2 (B:Nat) (ty:TypeId) (n:Nat) (w:World):Prop:=∃ cs,w.heap[B]?=some (.cells cs ty (0,0))/\cs.size=n
def At (B:Nat) (ty:TypeId) (T:Array Value) (f:Nat) (w:World):Prop:=∃ cs,w.heap[B]?=some (.cells cs ty (0,0))/\cs.size=T.size/\cs[f]?=T[f]?
structure Sets (B:Nat) (ty:TypeId) (T:Array Value) (u v:World):Prop where
 below:Below B u v
 row:∀ cs,u.heap[B]?=some (.cells cs ty (0,0))->cs.size=T.size->∃ cs',v.heap[B]?=some (.cells cs' ty (0,0))/\cs'.size=T.size/\∀ i:Nat,cs'[i]?=cs[i]?\/cs'[i]?=T[i]?
theorem Sets.refl (B:Nat) (ty:TypeId) (T:Array Value) (w:World):Sets B ty T w w:=⟨Below.refl _ _,λcs h A=>⟨cs,h,A,λ_=>.inl rfl⟩⟩
theorem Sets.trans {B:Nat} {ty:TypeId} {T:Array Value} {u v w:World} (h:Sets B ty T u v) (g:Sets B ty T v w):Sets B ty T u w:=by
 refine ⟨h.below.trans g.below,λcs hc A=>?_⟩;obtain ⟨c1,h1,s1,E⟩:=h.row cs hc A;obtain ⟨c2,F,s2,I⟩:=g.row c1 h1 s1;refine ⟨c2,F,s2,λi=>?_⟩
 rcases I i with e | e
 . rcases E i with e1 | e1
   . exact .inl (e.trans e1)
   . exact .inr (e.trans e1)
 . exact .inr e
theorem At.lasts {B:Nat} {ty:TypeId} {T:Array Value} {f:Nat} {u v:World} (h:At B ty T f u) (hR:Sets B ty T u v):At B ty T f v:=by
 obtain ⟨cs,h1,A,E⟩:=h;obtain ⟨c1,g1,g2,g3⟩:=hR.row cs h1 A;exact ⟨c1,g1,g2,(g3 f).elim (λe=>e.trans E) id⟩
theorem Sets.store {B:Nat} {ty:TypeId} {T:Array Value} {w1 w:World} (hw:Sets B ty T w1 w) (hrow:as2 B ty T.size w1) (f:Nat) (x:Value) (hx:T[f]?=some x) :
 ∃ old,w.cell? ⟨B,f,none⟩=some old/\w.frozen? ⟨B,f,none⟩=false/\Sets B ty T w (w.setCell ⟨B,f,none⟩ x)/\At B ty T f (w.setCell ⟨B,f,none⟩ x):=by
 obtain ⟨c0,h0,s0⟩:=hrow;obtain ⟨cs,hc,I,_⟩:=hw.row c0 h0 s0;have J:f < cs.size:=by rw [I]; exact (Array.getElem?_eq_some_iff.1 hx).1
 have E:=heap_setCell_same w B f cs ty x hc;have A:(cs.setIfInBounds f x)[f]?=T[f]?:=by rw [hx]; simp [J]
 refine ⟨cs[f],?_,?_,⟨(Below.refl B w).setCell (p:=⟨B,f,none⟩) (Nat.le_refl _) _,λc F M=>?_⟩,⟨_,E,by simp [I],A⟩⟩
 . unfold World.cell?; rw [show w.heap[(⟨B,f,none⟩:Addr).block]?=_ from hc]; simp [J]
 . unfold World.frozen?; rw [show w.heap[(⟨B,f,none⟩:Addr).block]?=_ from hc]; rfl
 ·
  rw [hc] at F; cases F;refine ⟨_,E,by simp [I],λi=>?_⟩
  by_cases e:f=i
  . subst e; exact .inr A
  . exact .inl (Array.getElem?_setIfInBounds_ne e)
theorem Sets.done {B:Nat} {ty:TypeId} {T c0:Array Value} {w1 w:World} (hw:Sets B ty T w1 w) (h0:w1.heap[B]?=some (.cells c0 ty (0,0))) (hs:c0.size=T.size)
 (hall:∀ i,i < T.size->c0[i]?=T[i]?\/At B ty T i w):w.heap[B]?=some (.cells T ty (0,0)):=by
 obtain ⟨cs,hc,A,E⟩:=hw.row c0 h0 hs
 have:cs=T:=by
  apply Array.ext_getElem?;intro i
  by_cases hi:i < T.size
  ·
   rcases hall i hi with e | ⟨c2,g1,g2,g3⟩
   . rcases E i with e2 | e2
     . exact e2.trans e
     . exact e2
   . rw [hc] at g1; cases g1; exact g3
  . rw [Array.getElem?_eq_none (by omega),Array.getElem?_eq_none (by omega)]
 rw [<- this]; exact hc
end LitMap
namespace RetW
open Go.RowKit Go.MapKept Go.Sort OctMath RecMath RecW DskW SegW TapeW TapeMath PendW CacheW StoW TopW NameMath SndW
theorem asf (p g:List UInt8) (hg:iq g=true) (hl:g.length<=100) (hp:p.length<=100) (W:World) :
 Calls Tryz.prog 99 #[.string (S p),.string (S g)] W λe w'=>e=.returned (.string (S (p++g)))/\Below W.heap.size W w':=by
 have A:=zq (NameW.uq g (by omega) W);rw [hg] at A;have B:Zq (S p++S g=S (p++g)):=by show _=_; rw [gm]
 have E:(S p).size<=100:=by rw [ai]; exact hp
 have F:(S g).size<=100:=by rw [ai]; exact hl
 clear hg hl hp;go_enter Tryz.func99,Tryz.ntmps99;go_wp2_with fail;refine A.o.mono ?_;rintro e w2 ⟨rfl,hb⟩;have I:=zq hb;clear hb A;go_wp2_with fail;go_ret;rw [<- B.o];exact ⟨rfl,I.o⟩
theorem ann (g:List UInt8) (hg:iq g=true) (hl:g.length<=100) (W:World) :
 Calls Tryz.prog 49 #[.string (S g)] W λe w'=>e=.returned (.string (S (iy++g)))/\Below W.heap.size W w':=by
 have A:=zq (asf iy g hg hl (by decide) W);change Zq (Calls _ _ #[.string ⟨#[37,114,101,116,114,121,37]⟩,_] _ _) at A;clear hg hl;go_enter Tryz.func49,Tryz.ntmps49;go_wp2_with fail;refine A.o.mono ?_;rintro e w2 ⟨rfl,hb⟩;have B:=zq hb;clear hb A;go_wp2_with fail;go_ret;exact ⟨rfl,B.o⟩
theorem ano (w:World):Calls Tryz.prog 78 #[.int .i64 1] w λe w'=>e=.returned (.int .i64 2)/\w'=w:=by
 go_enter Tryz.func78,Tryz.ntmps78;go_wp2_with fail;go_ret;exact ⟨rfl,rfl⟩
theorem ap6 (n m:Int) (h1:0<=n) (h2:n<=1099511626776) (h3:0<=m) (h4:m<=1099511626776) (g c:Nat) (w:World) (hc:w.cell? ⟨g,0,none⟩=some (.int .i64 n)) (hd:w.cell? ⟨g,1,none⟩=some (.int .i64 m)) :
 Calls Tryz.prog 76 #[.slice (some ⟨g,0,none⟩) 2 c] w λe w'=>e=.returned (.bool true)/\w'=w:=by
 have d1:decide (n < 0)=false:=decide_eq_false (by omega);have d2:decide (1099511626776 < n)=false:=decide_eq_false (by omega);have A:¬ n < 0:=by omega
 have B:¬ (1099511626776:Int) < n:=by omega
 have d3:decide (m < 0)=false:=decide_eq_false (by omega);have d4:decide (1099511626776 < m)=false:=decide_eq_false (by omega);have n3:¬ m < 0:=by omega
 have n4:¬ (1099511626776:Int) < m:=by omega
 clear h1 h2 h3 h4;go_enter Tryz.func76,Tryz.ntmps76;go_wp2_with fail;go_loopw [7] (λi wr=>∃ k:Nat,k<=2/\i=.int .i64 (k:Int)/\wr=w) (λi _=>2 - (intOf i).toNat)
 case atStart=>exact ⟨0,by omega,rfl,rfl⟩
 case round =>
  obtain ⟨k,hk,rfl,rfl⟩:=hrel
  rcases (show k=0\/k=1\/k=2 by omega) with rfl | rfl | rfl
  . go_wp2_with fail
    go_roundw
    case rel=>exact ⟨1,by omega,by go_num,trivial⟩
    case measure=>simp [intOf]
  . go_wp2_with fail
    go_roundw
    case rel=>exact ⟨2,by omega,by go_num,trivial⟩
    case measure=>simp [intOf]
  . go_wp2_with fail
    go_ret;exact ⟨rfl,rfl⟩
theorem ap7 (m:Msg) (hk:m.keys.length<=1048576) (a:Option Addr) (c:Nat) (W:World) (hS:Strs W a (m.keys.map S)) :
 Calls Tryz.prog 77 #[.agg (af m a c)] W λe w'=>∃ a2 I,e=.returned (.agg (af m a2 I))/\Strs w' a2 (m.keys.map S)/\Below W.heap.size W w'/\∀ M,a2=some M->W.heap.size<=M.block:=by
 change Calls _ _ #[.agg #[.int .i64 m.kind,.int .i64 m.queue,.int .i64 m.due,.int .i64 m.retry,.int .i64 m.ref,.int .i64 m.born,.string (S m.topic),.string (S m.tag),.string (S m.body),.slice a m.keys.length c]] _ _;have Z:Below W.heap.size W ((W.alloc (.cells #[.int .i64 m.kind,.int .i64 m.queue,.int .i64 m.due,.int .i64 m.retry,.int .i64 m.ref,.int .i64 m.born,.string (S m.topic),.string (S m.tag),.string (S m.body),.slice a m.keys.length c] 65)).alloc (.cells #[.int .i64 0,.int .i64 0,.int .i64 0,.int .i64 0,.int .i64 0,.int .i64 0,.string ⟨#[]⟩,.string ⟨#[]⟩,.string ⟨#[]⟩,.slice none 0 0] 65)):=((Below.refl _ W).alloc (Nat.le_refl _) _).alloc (by rw [World.size_alloc]; omega) _;have F:((W.alloc (.cells #[.int .i64 m.kind,.int .i64 m.queue,.int .i64 m.due,.int .i64 m.retry,.int .i64 m.ref,.int .i64 m.born,.string (S m.topic),.string (S m.tag),.string (S m.body),.slice a m.keys.length c] 65)).alloc (.cells #[.int .i64 0,.int .i64 0,.int .i64 0,.int .i64 0,.int .i64 0,.int .i64 0,.string ⟨#[]⟩,.string ⟨#[]⟩,.string ⟨#[]⟩,.slice none 0 0] 65)).heap[W.heap.size]?=some (.cells #[.int .i64 m.kind,.int .i64 m.queue,.int .i64 m.due,.int .i64 m.retry,.int .i64 m.ref,.int .i64 m.born,.string (S m.topic),.string (S m.tag),.string (S m.body),.slice a m.keys.length c] 65 (0,0)):=ag ((Below.refl _ _).alloc (Nat.le_refl _) _) (heap_alloc_new W _)
 have N:((W.alloc (.cells #[.int .i64 m.kind,.int .i64 m.queue,.int .i64 m.due,.int .i64 m.retry,.int .i64 m.ref,.int .i64 m.born,.string (S m.topic),.string (S m.tag),.string (S m.body),.slice a m.keys.length c] 65)).alloc (.cells #[.int .i64 0,.int .i64 0,.int .i64 0,.int .i64 0,.int .i64 0,.int .i64 0,.string ⟨#[]⟩,.string ⟨#[]⟩,.string ⟨#[]⟩,.slice none 0 0] 65)).heap[W.heap.size+1]?=some (.cells #[.int .i64 0,.int .i64 0,.int .i64 0,.int .i64 0,.int .i64 0,.int .i64 0,.string ⟨#[]⟩,.string ⟨#[]⟩,.string ⟨#[]⟩,.slice none 0 0] 65 (0,0)):=by
  have:=heap_alloc_new (W.alloc (.cells #[.int .i64 m.kind,.int .i64 m.queue,.int .i64 m.due,.int .i64 m.retry,.int .i64 m.ref,.int .i64 m.born,.string (S m.topic),.string (S m.tag),.string (S m.body),.slice a m.keys.length c] 65)) (.cells #[.int .i64 0,.int .i64 0,.int .i64 0,.int .i64 0,.int .i64 0,.int .i64 0,.string ⟨#[]⟩,.string ⟨#[]⟩,.string ⟨#[]⟩,.slice none 0 0] 65);rw [World.size_alloc] at this;exact this
 have ab:=zq Z;have U:=zq F;have X:=zq N;have ak:=zq (Strs.below hS Z);have al:=zq (λw (hs:Strs w a (m.keys.map S))=>TagW.afx a c m.keys hk w hs);clear Z F N hS hk;go_enter Tryz.func77,Tryz.ntmps77;go_upto_region 1 with fail
 generalize (W.alloc (.cells #[.int .i64 m.kind,.int .i64 m.queue,.int .i64 m.due,.int .i64 m.retry,.int .i64 m.ref,.int .i64 m.born,.string (S m.topic),.string (S m.tag),.string (S m.body),.slice a m.keys.length c] 65)).alloc (.cells #[.int .i64 0,.int .i64 0,.int .i64 0,.int .i64 0,.int .i64 0,.int .i64 0,.string ⟨#[]⟩,.string ⟨#[]⟩,.string ⟨#[]⟩,.slice none 0 0] 65)=w1 at *
 obtain ⟨A,hA⟩:∃ A,W.heap.size=A:=⟨_,rfl⟩;rw [hA] at U X ⊢;have am:=zq hA;clear hA;have k9:w1.cell? ⟨A,9,none⟩=_:=aa U.o 9 _ rfl;go_wp2_with fail;refine (al.o w1 ak.o).mono ?_;rintro e w2 ⟨v,rfl,R,hb⟩;obtain ⟨a2,I,hv,ac,_⟩:=Row1.of_own R;subst hv;rw [alj] at ac;have F:=ag hb U.o;have N:=ag hb X.o;have an:Zq (Below W.heap.size W w2):=ab.o.trans (hb.mono ab.o.size);have O:Zq ((∀ M,a2=some M->w1.heap.size<=M.block)/\A+2<=w1.heap.size):=⟨λM e=>az R M.block (by subst e; rfl),(Array.getElem?_eq_some_iff.1 X.o).1⟩;have y9:=aa F 9 _ rfl;have z9:=ae F 9;have J:(w2.setCell ⟨A,9,none⟩ (.slice a2 m.keys.length I)).heap[A]?=some (.cells #[.int .i64 m.kind,.int .i64 m.queue,.int .i64 m.due,.int .i64 m.retry,.int .i64 m.ref,.int .i64 m.born,.string (S m.topic),.string (S m.tag),.string (S m.body),.slice a2 m.keys.length I] 65 (0,0)):=heap_setCell_same w2 A 9 _ _ _ F;have Y:Mod (λk=>k=A) w2 (w2.setCell ⟨A,9,none⟩ (.slice a2 m.keys.length I)):=(Mod.refl (λk=>k=A) w2).setCell (a:=⟨A,9,none⟩) (.inl rfl) _;have B:(w2.setCell ⟨A,9,none⟩ (.slice a2 m.keys.length I)).heap[A+1]?=some (.cells #[.int .i64 0,.int .i64 0,.int .i64 0,.int .i64 0,.int .i64 0,.int .i64 0,.string ⟨#[]⟩,.string ⟨#[]⟩,.string ⟨#[]⟩,.slice none 0 0] 65 (0,0)):=(Y.block (A+1) (Array.getElem?_eq_some_iff.1 N).1 (λe=>by omega)).trans N;have H3:=zq J;have H4:=zq B;have av:=zq Y;have a1:Zq (Row1 (w2.setCell ⟨A,9,none⟩ (.slice a2 m.keys.length I)) a2 ((m.keys.map S).map .string)):=Row1.mod ac Y λM e h=>by have h1:=O.o.1 M e; have h2:=O.o.2; omega
 clear R ac hb F N J B Y k9 al ak U X ab;go_upto_region 2 with fail
 clear y9 z9;generalize w2.setCell ⟨A,9,none⟩ (.slice a2 m.keys.length I)=w3 at *
 have J:=H3.o;have B:=H4.o;have k0:w3.cell? ⟨A,0,none⟩=_:=aa J 0 _ rfl;have k1:w3.cell? ⟨A,1,none⟩=_:=aa J 1 _ rfl;have k2:w3.cell? ⟨A,2,none⟩=_:=aa J 2 _ rfl;have k3:w3.cell? ⟨A,3,none⟩=_:=aa J 3 _ rfl;have k4:w3.cell? ⟨A,4,none⟩=_:=aa J 4 _ rfl;have k5:w3.cell? ⟨A,5,none⟩=_:=aa J 5 _ rfl;have k6:w3.cell? ⟨A,6,none⟩=_:=aa J 6 _ rfl;have k7:w3.cell? ⟨A,7,none⟩=_:=aa J 7 _ rfl;have k8:w3.cell? ⟨A,8,none⟩=_:=aa J 8 _ rfl;have k9:w3.cell? ⟨A,9,none⟩=_:=aa J 9 _ rfl;have n0:w3.cell? ⟨A+1,0,none⟩=_:=aa B 0 _ rfl;have n1:w3.cell? ⟨A+1,1,none⟩=_:=aa B 1 _ rfl;have n2:w3.cell? ⟨A+1,2,none⟩=_:=aa B 2 _ rfl;have n3:w3.cell? ⟨A+1,3,none⟩=_:=aa B 3 _ rfl;have n4:w3.cell? ⟨A+1,4,none⟩=_:=aa B 4 _ rfl;have n5:w3.cell? ⟨A+1,5,none⟩=_:=aa B 5 _ rfl;have n6:w3.cell? ⟨A+1,6,none⟩=_:=aa B 6 _ rfl;have n7:w3.cell? ⟨A+1,7,none⟩=_:=aa B 7 _ rfl;have n8:w3.cell? ⟨A+1,8,none⟩=_:=aa B 8 _ rfl;have n9:w3.cell? ⟨A+1,9,none⟩=_:=aa B 9 _ rfl;have z0:=ae B 0;have z1:=ae B 1;have z2:=ae B 2;have z3:=ae B 3;have z4:=ae B 4;have z5:=ae B 5;have z6:=ae B 6;have z7:=ae B 7;have z8:=ae B 8;have z9:=ae B 9;have HH:=zq (kw rfl B (.int .i64 m.kind) (.int .i64 m.queue) (.int .i64 m.due) (.int .i64 m.retry) (.int .i64 m.ref) (.int .i64 m.born) (.string (S m.topic)) (.string (S m.tag)) (.string (S m.body)) (.slice a2 m.keys.length I));have ao:=zq (mg w3 (A+1) (.int .i64 m.kind) (.int .i64 m.queue) (.int .i64 m.due) (.int .i64 m.retry) (.int .i64 m.ref) (.int .i64 m.born) (.string (S m.topic)) (.string (S m.tag)) (.string (S m.body)) (.slice a2 m.keys.length I));clear J B;go_wp2_with fail;clear k0 k1 k2 k3 k4 k5 k6 k7 k8 k9 n0 n1 n2 n3 n4 n5 n6 n7 n8 n9 z0 z1 z2 z3 z4 z5 z6 z7 z8 z9;change bodyPost _ _ _ _ _ (o9 w3 (A+1) (.int .i64 m.kind) (.int .i64 m.queue) (.int .i64 m.due) (.int .i64 m.retry) (.int .i64 m.ref) (.int .i64 m.born) (.string (S m.topic)) (.string (S m.tag)) (.string (S m.body)) (.slice a2 m.keys.length I));generalize o9 w3 (A+1) (.int .i64 m.kind) (.int .i64 m.queue) (.int .i64 m.due) (.int .i64 m.retry) (.int .i64 m.ref) (.int .i64 m.born) (.string (S m.topic)) (.string (S m.tag)) (.string (S m.body)) (.slice a2 m.keys.length I)=w9 at *
 have E:=HH.o;have c0:w9.cell? ⟨A+1,0,none⟩=_:=aa E 0 _ rfl;have c1:w9.cell? ⟨A+1,1,none⟩=_:=aa E 1 _ rfl;have c2:w9.cell? ⟨A+1,2,none⟩=_:=aa E 2 _ rfl;have c3:w9.cell? ⟨A+1,3,none⟩=_:=aa E 3 _ rfl;have c4:w9.cell? ⟨A+1,4,none⟩=_:=aa E 4 _ rfl;have c5:w9.cell? ⟨A+1,5,none⟩=_:=aa E 5 _ rfl;have c6:w9.cell? ⟨A+1,6,none⟩=_:=aa E 6 _ rfl;have c7:w9.cell? ⟨A+1,7,none⟩=_:=aa E 7 _ rfl;have c8:w9.cell? ⟨A+1,8,none⟩=_:=aa E 8 _ rfl;have c9:w9.cell? ⟨A+1,9,none⟩=_:=aa E 9 _ rfl;have a6:Mod (λk=>k=A\/k=A+1) w2 w9:=(av.o.mono λk _ e=>.inl e).trans (ao.o.mono λk _ e=>.inr e);have a7:Below W.heap.size W w9:=an.o.trans (a6.to_below _ an.o.size (λk e=>by have:=am.o; omega));have a8:Strs w9 a2 (m.keys.map S):=Row1.to_strs (Row1.mod a1.o ao.o λM e h=>by have h1:=O.o.1 M e; have h2:=O.o.2; omega);refine bodyPost_ret (v:=.agg #[.int .i64 m.kind,.int .i64 m.queue,.int .i64 m.due,.int .i64 m.retry,.int .i64 m.ref,.int .i64 m.born,.string (S m.topic),.string (S m.tag),.string (S m.body),.slice a2 m.keys.length I]) ?_ rfl ⟨a2,I,rfl,a8,a7,λM e=>by have h1:=O.o.1 M e; have h2:=O.o.2; have:=am.o; omega⟩;clear E;simp [results,Tryz.results77,go_sem,c0,c1,c2,c3,c4,c5,c6,c7,c8,c9]
theorem akn {B:Nat} {ty:TypeId} {T:Array Value} {u v:World} (h:Below u.heap.size u v) (hB:B < u.heap.size):LitMap.Sets B ty T u v :=
 ⟨h.mono (Nat.le_of_lt hB),λcs hc A=>⟨cs,ag h hc,A,λ_=>.inl rfl⟩⟩
def kg (x:ib) (id:Nat) (now:Int) (g:List UInt8):Msg:=⟨2,0,now+2,1,id,now,iy++g,x.tag,x.body,x.keys⟩
theorem anp (x:ib) (hx:su x) (b now:Int) (idn:Nat) (g:List UInt8) (hg:iq g=true) (hgl:g.length<=100) (hr:bn (jh x 1 0 b)=true) (hid:idn<=99999999) (hn:0<=now/\now<=1000000) (hb:inI b) (a:Option Addr) (c:Nat) (W:World) (hS:Strs W a (x.keys.map S)) :
 Calls Tryz.prog 37 #[.agg (af (jh x 1 0 b) a c),.int .i64 (idn:Int),.string (S g),.int .i64 now] W λe w'=>∃ a2 F,e=.returned (.tuple #[.agg (af (kg x idn now g) a2 F),.int .i64 0])/\Strs w' a2 (x.keys.map S)/\Below W.heap.size W w':=by
 change Calls _ _ #[.agg #[.int .i64 1,.int .i64 x.queue,.int .i64 0,.int .i64 0,.int .i64 0,.int .i64 b,.string (S x.topic),.string (S x.tag),.string (S x.body),.slice a x.keys.length c],_,_,_] _ _;have HG:Zq (∀ w,Calls Tryz.prog 48 #[.string (S g)] w λe w'=>e=.returned (.bool true)/\Below w.heap.size w w'):=λw=>by have:=NameW.uq g (by omega) w; rw [hg] at this; exact this
 have HR:Zq (∀ w,Strs w a (x.keys.map S)->Calls Tryz.prog 75 #[.agg #[.int .i64 1,.int .i64 x.queue,.int .i64 0,.int .i64 0,.int .i64 0,.int .i64 b,.string (S x.topic),.string (S x.tag),.string (S x.body),.slice a x.keys.length c]] w λe w'=>e=.returned (.bool true)/\Below w.heap.size w w'):=λw hs=>by have:=RecW.right_any (jh x 1 0 b) (alk hx (by unfold inI; omega) (by unfold inI; omega) hb) a c w hs; rw [hr] at this; exact this
 have HT:Zq (∀ (w:World) (g0 c0:Nat),w.cell? ⟨g0,0,none⟩=some (.int .i64 (idn:Int))->w.cell? ⟨g0,1,none⟩=some (.int .i64 now)->Calls Tryz.prog 76 #[.slice (some ⟨g0,0,none⟩) 2 c0] w λe w'=>e=.returned (.bool true)/\w'=w):=λw g0 c0 h1 U=>ap6 (idn:Int) now (by omega) (by omega) (by omega) (by omega) g0 c0 w h1 U
 have HC:Zq (∀ w,Strs w a (x.keys.map S)->Calls Tryz.prog 77 #[.agg #[.int .i64 1,.int .i64 x.queue,.int .i64 0,.int .i64 0,.int .i64 0,.int .i64 b,.string (S x.topic),.string (S x.tag),.string (S x.body),.slice a x.keys.length c]] w λe w'=>∃ a2 F,e=.returned (.agg #[.int .i64 1,.int .i64 x.queue,.int .i64 0,.int .i64 0,.int .i64 0,.int .i64 b,.string (S x.topic),.string (S x.tag),.string (S x.body),.slice a2 x.keys.length F])/\Strs w' a2 (x.keys.map S)/\Below w.heap.size w w'/\∀ ad,a2=some ad->w.heap.size<=ad.block):=λw hs=>ap7 (jh x 1 0 b) hx.keys a c w hs
 have HO:=zq (λw=>ann g hg hgl w);have HD:=zq (λw=>ano w);have b0:IntKind.i64.wrap (now+2)=now+2:=IntWalk.i64_in _ (by omega);have dd:=zq b0;have HE:Zq (∀ a2 F,af (kg x idn now g) a2 F=#[.int .i64 2,.int .i64 0,.int .i64 (now+2),.int .i64 1,.int .i64 (idn:Int),.int .i64 now,.string (S (iy++g)),.string (S x.tag),.string (S x.body),.slice a2 x.keys.length F]):=λa2 F=>rfl
 have b1:Below W.heap.size W ((W.alloc (.cells #[.int .i64 1,.int .i64 x.queue,.int .i64 0,.int .i64 0,.int .i64 0,.int .i64 b,.string (S x.topic),.string (S x.tag),.string (S x.body),.slice a x.keys.length c] 65)).alloc (.cells #[.int .i64 0,.int .i64 0,.int .i64 0,.int .i64 0,.int .i64 0,.int .i64 0,.string ⟨#[]⟩,.string ⟨#[]⟩,.string ⟨#[]⟩,.slice none 0 0] 65)):=((Below.refl _ W).alloc (Nat.le_refl _) _).alloc (by rw [World.size_alloc]; omega) _;have cc:((W.alloc (.cells #[.int .i64 1,.int .i64 x.queue,.int .i64 0,.int .i64 0,.int .i64 0,.int .i64 b,.string (S x.topic),.string (S x.tag),.string (S x.body),.slice a x.keys.length c] 65)).alloc (.cells #[.int .i64 0,.int .i64 0,.int .i64 0,.int .i64 0,.int .i64 0,.int .i64 0,.string ⟨#[]⟩,.string ⟨#[]⟩,.string ⟨#[]⟩,.slice none 0 0] 65)).heap[W.heap.size]?=some (.cells #[.int .i64 1,.int .i64 x.queue,.int .i64 0,.int .i64 0,.int .i64 0,.int .i64 b,.string (S x.topic),.string (S x.tag),.string (S x.body),.slice a x.keys.length c] 65 (0,0)):=ag ((Below.refl _ _).alloc (Nat.le_refl _) _) (heap_alloc_new W _)
 have cd:((W.alloc (.cells #[.int .i64 1,.int .i64 x.queue,.int .i64 0,.int .i64 0,.int .i64 0,.int .i64 b,.string (S x.topic),.string (S x.tag),.string (S x.body),.slice a x.keys.length c] 65)).alloc (.cells #[.int .i64 0,.int .i64 0,.int .i64 0,.int .i64 0,.int .i64 0,.int .i64 0,.string ⟨#[]⟩,.string ⟨#[]⟩,.string ⟨#[]⟩,.slice none 0 0] 65)).heap[W.heap.size+1]?=some (.cells #[.int .i64 0,.int .i64 0,.int .i64 0,.int .i64 0,.int .i64 0,.int .i64 0,.string ⟨#[]⟩,.string ⟨#[]⟩,.string ⟨#[]⟩,.slice none 0 0] 65 (0,0)):=by
  have:=heap_alloc_new (W.alloc (.cells #[.int .i64 1,.int .i64 x.queue,.int .i64 0,.int .i64 0,.int .i64 0,.int .i64 b,.string (S x.topic),.string (S x.tag),.string (S x.body),.slice a x.keys.length c] 65)) (.cells #[.int .i64 0,.int .i64 0,.int .i64 0,.int .i64 0,.int .i64 0,.int .i64 0,.string ⟨#[]⟩,.string ⟨#[]⟩,.string ⟨#[]⟩,.slice none 0 0] 65);rw [World.size_alloc] at this;exact this
 have ce:=zq b1;have al:=zq cc;have a8:=zq cd;have de:=zq (Strs.below hS b1);clear b1 cc cd hS hg hgl hr hid hn hb b0 hx;generalize iy++g=rg at *
 generalize (idn:Int)=id at *
 generalize S g=sg at *
 go_enter Tryz.func37,Tryz.ntmps37;go_upto_region 1 with fail
 generalize (W.alloc (.cells #[.int .i64 1,.int .i64 x.queue,.int .i64 0,.int .i64 0,.int .i64 0,.int .i64 b,.string (S x.topic),.string (S x.tag),.string (S x.body),.slice a x.keys.length c] 65)).alloc (.cells #[.int .i64 0,.int .i64 0,.int .i64 0,.int .i64 0,.int .i64 0,.int .i64 0,.string ⟨#[]⟩,.string ⟨#[]⟩,.string ⟨#[]⟩,.slice none 0 0] 65)=w1 at *
 obtain ⟨A,hA⟩:∃ A,W.heap.size=A:=⟨_,rfl⟩;rw [hA] at al a8 ⊢;have cf:=zq hA;clear hA;go_wp2_with fail;refine (HG.o w1).mono ?_;rintro e w2 ⟨rfl,ba⟩;have b2:=zq ba;have U:=ag ba al.o;have b3:=zq (Strs.below de.o ba);clear ba;have k0:w2.cell? ⟨A,0,none⟩=_:=aa U 0 _ rfl;have k1:w2.cell? ⟨A,1,none⟩=_:=aa U 1 _ rfl;have k2:w2.cell? ⟨A,2,none⟩=_:=aa U 2 _ rfl;have k3:w2.cell? ⟨A,3,none⟩=_:=aa U 3 _ rfl;have k4:w2.cell? ⟨A,4,none⟩=_:=aa U 4 _ rfl;have k5:w2.cell? ⟨A,5,none⟩=_:=aa U 5 _ rfl;have k6:w2.cell? ⟨A,6,none⟩=_:=aa U 6 _ rfl;have k7:w2.cell? ⟨A,7,none⟩=_:=aa U 7 _ rfl;have k8:w2.cell? ⟨A,8,none⟩=_:=aa U 8 _ rfl;have k9:w2.cell? ⟨A,9,none⟩=_:=aa U 9 _ rfl;clear U;go_wp2_with fail;refine (HR.o w2 b3.o).mono ?_;rintro e w3 ⟨rfl,b4⟩;have bp:=zq (b2.o.trans (b4.mono b2.o.size));have cg:=zq (Strs.below b3.o b4);have Z:=ag bp.o al.o;clear b4 b2 b3;clear k0 k1 k2 k3 k4 k5 k6 k7 k8 k9;have k0:w3.cell? ⟨A,0,none⟩=_:=aa Z 0 _ rfl;have k1:w3.cell? ⟨A,1,none⟩=_:=aa Z 1 _ rfl;have k2:w3.cell? ⟨A,2,none⟩=_:=aa Z 2 _ rfl;have k3:w3.cell? ⟨A,3,none⟩=_:=aa Z 3 _ rfl;have k4:w3.cell? ⟨A,4,none⟩=_:=aa Z 4 _ rfl;have k5:w3.cell? ⟨A,5,none⟩=_:=aa Z 5 _ rfl;have k6:w3.cell? ⟨A,6,none⟩=_:=aa Z 6 _ rfl;have k7:w3.cell? ⟨A,7,none⟩=_:=aa Z 7 _ rfl;have k8:w3.cell? ⟨A,8,none⟩=_:=aa Z 8 _ rfl;have k9:w3.cell? ⟨A,9,none⟩=_:=aa Z 9 _ rfl;clear Z;go_wp2_with fail;refine (HT.o _ _ _ (by rw [World.cell?_alloc_new]; rfl) (by rw [World.cell?_alloc_new]; rfl)).mono ?_;rintro e w4 ⟨rfl,he⟩;obtain rfl:=he.symm;have b5:Below w3.heap.size w3 (w3.alloc (.cells #[.int .i64 id,.int .i64 now] 3)):=(Below.refl _ w3).alloc (Nat.le_refl _) _;have ap:=zq (bp.o.trans (b5.mono bp.o.size));have ci:=zq (Strs.below cg.o b5);clear b5 bp cg;generalize w3.alloc (.cells #[.int .i64 id,.int .i64 now] 3)=w4 at *
 have h4:=ag ap.o al.o;clear k0 k1 k2 k3 k4 k5 k6 k7 k8 k9;have k0:w4.cell? ⟨A,0,none⟩=_:=aa h4 0 _ rfl;have k1:w4.cell? ⟨A,1,none⟩=_:=aa h4 1 _ rfl;have k2:w4.cell? ⟨A,2,none⟩=_:=aa h4 2 _ rfl;have k3:w4.cell? ⟨A,3,none⟩=_:=aa h4 3 _ rfl;have k4:w4.cell? ⟨A,4,none⟩=_:=aa h4 4 _ rfl;have k5:w4.cell? ⟨A,5,none⟩=_:=aa h4 5 _ rfl;have k6:w4.cell? ⟨A,6,none⟩=_:=aa h4 6 _ rfl;have k7:w4.cell? ⟨A,7,none⟩=_:=aa h4 7 _ rfl;have k8:w4.cell? ⟨A,8,none⟩=_:=aa h4 8 _ rfl;have k9:w4.cell? ⟨A,9,none⟩=_:=aa h4 9 _ rfl;clear h4;go_wp2_with fail;refine (HC.o w4 ci.o).mono ?_;rintro e w5 ⟨a2,F,rfl,b6,cj,bz⟩;have b7:Below w5.heap.size w5 (w5.alloc (.cells #[.int .i64 1,.int .i64 x.queue,.int .i64 0,.int .i64 0,.int .i64 0,.int .i64 b,.string (S x.topic),.string (S x.tag),.string (S x.body),.slice a2 x.keys.length F] 65)):=(Below.refl _ w5).alloc (Nat.le_refl _) _;have J:=heap_alloc_new w5 (.cells #[.int .i64 1,.int .i64 x.queue,.int .i64 0,.int .i64 0,.int .i64 0,.int .i64 b,.string (S x.topic),.string (S x.tag),.string (S x.body),.slice a2 x.keys.length F] 65);have bs:=zq (ap.o.trans (cj.mono ap.o.size));have bw:=zq (bs.o.trans (b7.mono bs.o.size));have dk:=zq (Strs.below b6 b7)
 have av:Zq (A+2<=w5.heap.size):=by
  have h1:=(Array.getElem?_eq_some_iff.1 a8.o).1;have U:=bs.o.size;show _<=_;omega
 have ck:Zq (∀ ad,a2=some ad->x.keys.map S≠[]->ad.block < w5.heap.size):=λad e dl=>by
  obtain ⟨bb,off,e2,hc⟩:=b6 0 (List.length_pos_iff.2 dl);rw [e] at e2; injection e2 with e2; rw [e2]
  exact ax hc
 have dn:Zq (∀ ad,a2=some ad->A+2<=ad.block):=λad e=>by
  have h1:=(Array.getElem?_eq_some_iff.1 a8.o).1;have U:=ap.o.size;have Z:=bz ad e;omega
 clear cj b7 ap ci b6 bz;go_upto_region 6 with fail
 generalize w5.alloc (.cells #[.int .i64 1,.int .i64 x.queue,.int .i64 0,.int .i64 0,.int .i64 0,.int .i64 b,.string (S x.topic),.string (S x.tag),.string (S x.body),.slice a2 x.keys.length F] 65)=w6 at *
 obtain ⟨B,hB⟩:∃ B,w5.heap.size=B:=⟨_,rfl⟩;rw [hB] at J av ck ⊢;clear hB bs;have H6:=zq J;have M:=ag bw.o al.o;clear k0 k1 k2 k3 k4 k5 k6 k7 k8 k9;have k0:w6.cell? ⟨A,0,none⟩=_:=aa M 0 _ rfl;have k1:w6.cell? ⟨A,1,none⟩=_:=aa M 1 _ rfl;have k2:w6.cell? ⟨A,2,none⟩=_:=aa M 2 _ rfl;have k3:w6.cell? ⟨A,3,none⟩=_:=aa M 3 _ rfl;have k4:w6.cell? ⟨A,4,none⟩=_:=aa M 4 _ rfl;have k5:w6.cell? ⟨A,5,none⟩=_:=aa M 5 _ rfl;have k6:w6.cell? ⟨A,6,none⟩=_:=aa M 6 _ rfl;have k7:w6.cell? ⟨A,7,none⟩=_:=aa M 7 _ rfl;have k8:w6.cell? ⟨A,8,none⟩=_:=aa M 8 _ rfl;have k9:w6.cell? ⟨A,9,none⟩=_:=aa M 9 _ rfl;have u0:w6.cell? ⟨B,0,none⟩=_:=aa J 0 _ rfl;have u1:w6.cell? ⟨B,1,none⟩=_:=aa J 1 _ rfl;have u2:w6.cell? ⟨B,2,none⟩=_:=aa J 2 _ rfl;have u3:w6.cell? ⟨B,3,none⟩=_:=aa J 3 _ rfl;have u4:w6.cell? ⟨B,4,none⟩=_:=aa J 4 _ rfl;have u5:w6.cell? ⟨B,5,none⟩=_:=aa J 5 _ rfl;have u6:w6.cell? ⟨B,6,none⟩=_:=aa J 6 _ rfl;have u7:w6.cell? ⟨B,7,none⟩=_:=aa J 7 _ rfl;have u8:w6.cell? ⟨B,8,none⟩=_:=aa J 8 _ rfl;have u9:w6.cell? ⟨B,9,none⟩=_:=aa J 9 _ rfl;have z0:=ae J 0;have z1:=ae J 1;have z2:=ae J 2;have z3:=ae J 3;have z4:=ae J 4;have z5:=ae J 5;have z6:=ae J 6;have z7:=ae J 7;have z8:=ae J 8;have z9:=ae J 9;have h7:((w6.setCell ⟨B,1,none⟩ (.int .i64 0)).setCell ⟨B,5,none⟩ (.int .i64 now)).heap[B]?=some (.cells #[.int .i64 1,.int .i64 0,.int .i64 0,.int .i64 0,.int .i64 0,.int .i64 now,.string (S x.topic),.string (S x.tag),.string (S x.body),.slice a2 x.keys.length F] 65 (0,0)):=heap_setCell_same _ B 5 _ _ _ (heap_setCell_same w6 B 1 _ _ _ J);have am:Mod (λk=>k=B) w6 ((w6.setCell ⟨B,1,none⟩ (.int .i64 0)).setCell ⟨B,5,none⟩ (.int .i64 now)):=(((Mod.refl (λk=>k=B) w6).setCell (a:=⟨B,1,none⟩) (.inl rfl) _).setCell (a:=⟨B,5,none⟩) (.inl rfl) _);have H7:=zq h7;have cm:=zq am;clear J h7 am M;go_upto_region 7 with fail
 clear k0 k1 k2 k3 k4 k5 k6 k7 k8 k9;clear u0 u1 u2 u3 u4 u5 u6 u7 u8 u9;clear z0 z1 z2 z3 z4 z5 z6 z7 z8 z9;generalize (w6.setCell ⟨B,1,none⟩ (.int .i64 0)).setCell ⟨B,5,none⟩ (.int .i64 now)=w7 at *
 have h7:=H7.o;have am:=cm.o;have cn:w7.heap[A]?=_:=(am.block A (by have h1:=(Array.getElem?_eq_some_iff.1 H6.o).1; have U:=av.o; omega) (λe=>by have U:=av.o; omega)).trans (ag bw.o al.o);have k3:=aa cn 3 _ rfl;have u3:=aa h7 3 _ rfl;have z3:=ae h7 3;have h8:(w7.setCell ⟨B,3,none⟩ (.int .i64 1)).heap[B]?=some (.cells #[.int .i64 1,.int .i64 0,.int .i64 0,.int .i64 1,.int .i64 0,.int .i64 now,.string (S x.topic),.string (S x.tag),.string (S x.body),.slice a2 x.keys.length F] 65 (0,0)):=heap_setCell_same w7 B 3 _ _ _ h7;have co:Mod (λk=>k=B) w6 (w7.setCell ⟨B,3,none⟩ (.int .i64 1)):=am.trans ((Mod.refl (λk=>k=B) w7).setCell (a:=⟨B,3,none⟩) (.inl rfl) _);have H8:=zq h8;have dt:=zq co;clear h7 am cn h8 co H7 cm;go_upto_region 11 with fail
 clear k3 u3 z3;generalize w7.setCell ⟨B,3,none⟩ (.int .i64 1)=w8 at *
 have du:Zq (B < w8.heap.size):=(Array.getElem?_eq_some_iff.1 H8.o).1;have ab:LitMap.as2 B 65 10 w8.drew:=⟨_,H8.o,rfl⟩;refine GrowN.au 16 [none,some (.inl (.string (S rg))),none,none,some (.inl (.int .i64 1)),some (.inl (.int .i64 2)),some (.inl (.int .i64 (now+2))),none,none,some (.inr λ_ _ w=>LitMap.At B 65 #[.int .i64 2,.int .i64 0,.int .i64 (now+2),.int .i64 1,.int .i64 id,.int .i64 now,.string (S rg),.string (S x.tag),.string (S x.body),.slice a2 x.keys.length F] 0 w),none,some (.inr λ_ _ w=>LitMap.At B 65 #[.int .i64 2,.int .i64 0,.int .i64 (now+2),.int .i64 1,.int .i64 id,.int .i64 now,.string (S rg),.string (S x.tag),.string (S x.body),.slice a2 x.keys.length F] 6 w),none,some (.inr λ_ _ w=>LitMap.At B 65 #[.int .i64 2,.int .i64 0,.int .i64 (now+2),.int .i64 1,.int .i64 id,.int .i64 now,.string (S rg),.string (S x.tag),.string (S x.body),.slice a2 x.keys.length F] 2 w),none,some (.inr λ_ _ w=>LitMap.At B 65 #[.int .i64 2,.int .i64 0,.int .i64 (now+2),.int .i64 1,.int .i64 id,.int .i64 now,.string (S rg),.string (S x.tag),.string (S x.body),.slice a2 x.keys.length F] 4 w)] (LitMap.Sets B 65 #[.int .i64 2,.int .i64 0,.int .i64 (now+2),.int .i64 1,.int .i64 id,.int .i64 now,.string (S rg),.string (S x.tag),.string (S x.body),.slice a2 x.keys.length F]) (by kernel_rfl) (by kernel_rfl) (by kernel_rfl) (LitMap.Sets.refl _ _ _) (λ_ _ _=>LitMap.Sets.trans) ?_ ?_
 ·
  intro K hK Y hY l v w w' hR h;simp only [List.mem_cons,List.not_mem_nil,or_false] at hK
  rcases hK with rfl | rfl | rfl | rfl | rfl | rfl | rfl | rfl | rfl | rfl | rfl | rfl | rfl | rfl | rfl | rfl <;> simp only [reduceCtorEq,Option.some.injEq,Sum.inr.injEq] at hY
  all_goals (subst hY; exact LitMap.At.lasts h hR)
 simp only [List.take_succ_cons,List.take_zero,List.drop_succ_cons,List.drop_zero];refine GrowN.g_det rfl ?_;apply Exists.intro;refine ⟨λw X E=>?_,?_⟩
 . clear E
   go_simp;exact ⟨rfl,LitMap.Sets.refl _ _ _ _⟩
 go_frame;refine GrowN.g_con rfl (λw X E=>?_) ?_
 . clear E
   go_simp;exact (HO.o w).mono λe w3 h=>⟨_,h.1,rfl,akn h.2 (Nat.lt_of_lt_of_le du.o X.below.size)⟩
 iterate 2
  go_frame;refine GrowN.g_det rfl ?_;apply Exists.intro;refine ⟨λw X E=>?_,?_⟩
  . clear E
    go_simp;exact ⟨rfl,LitMap.Sets.refl _ _ _ _⟩
 go_frame;refine GrowN.g_con rfl (λw X E=>?_) ?_
 ·
  clear E;obtain ⟨cs,cp,_,hq⟩:=X.row _ H8.o rfl;have Z:cs[3]?=some (.int .i64 1):=(hq 3).elim (λe=>e.trans rfl) λe=>e.trans rfl
  have c3:=aa cp 3 _ Z;clear cp hq Z;go_simp
  all_goals exact LitMap.Sets.refl _ _ _ _
 go_frame;refine GrowN.g_con rfl (λw X E=>?_) ?_
 . clear E
   go_simp;exact (HD.o w).mono λe w3 h=>⟨_,h.1,rfl,h.2 ▸ LitMap.Sets.refl _ _ _ _⟩
 go_frame;refine GrowN.g_con rfl (λw X E=>?_) ?_
 ·
  clear E;have b0:=dd.o;go_simp
  all_goals exact LitMap.Sets.refl _ _ _ _
 iterate 2
  go_frame;refine GrowN.g_det rfl ?_;apply Exists.intro;refine ⟨λw X E=>?_,?_⟩
  . clear E
    go_simp;exact ⟨rfl,LitMap.Sets.refl _ _ _ _⟩
 go_frame;refine GrowN.g_new rfl (λw X E=>?_) (λ_=>?_)
 ·
  clear E;obtain ⟨a1,ac,b9,N,ak⟩:=LitMap.Sets.store X ab 0 (.int .i64 2) rfl;go_simp
  all_goals exact ⟨ak,N⟩
 go_frame;refine GrowN.g_det rfl ?_;apply Exists.intro;refine ⟨λw X E=>?_,?_⟩
 . clear E
   go_simp;exact ⟨rfl,LitMap.Sets.refl _ _ _ _⟩
 go_frame;refine GrowN.g_new rfl (λw X E=>?_) (λ_=>?_)
 ·
  clear E;obtain ⟨a1,ac,b9,N,ak⟩:=LitMap.Sets.store X ab 6 (.string (S rg)) rfl;go_simp
  all_goals exact ⟨ak,N⟩
 go_frame;refine GrowN.g_det rfl ?_;apply Exists.intro;refine ⟨λw X E=>?_,?_⟩
 . clear E
   go_simp;exact ⟨rfl,LitMap.Sets.refl _ _ _ _⟩
 go_frame;refine GrowN.g_new rfl (λw X E=>?_) (λ_=>?_)
 ·
  clear E;obtain ⟨a1,ac,b9,N,ak⟩:=LitMap.Sets.store X ab 2 (.int .i64 (now+2)) rfl;go_simp
  all_goals exact ⟨ak,N⟩
 go_frame;refine GrowN.g_det rfl ?_;apply Exists.intro;refine ⟨λw X E=>?_,?_⟩
 . clear E
   go_simp;exact ⟨rfl,LitMap.Sets.refl _ _ _ _⟩
 go_frame;refine GrowN.g_new rfl (λw X E=>?_) (λ_=>?_)
 ·
  clear E;obtain ⟨a1,ac,b9,N,ak⟩:=LitMap.Sets.store X ab 4 (.int .i64 id) rfl;go_simp
  all_goals exact ⟨ak,N⟩
 go_frame;refine GrowN.g_nil λI ca E=>?_
 have dv:Zq (I.heap[B]?=some (.cells #[.int .i64 2,.int .i64 0,.int .i64 (now+2),.int .i64 1,.int .i64 id,.int .i64 now,.string (S rg),.string (S x.tag),.string (S x.body),.slice a2 x.keys.length F] 65 (0,0))):=LitMap.Sets.done ca H8.o rfl (λi hi=>match i,hi with
  | 0,_=>.inr (E (9,LitMap.At B 65 #[.int .i64 2,.int .i64 0,.int .i64 (now+2),.int .i64 1,.int .i64 id,.int .i64 now,.string (S rg),.string (S x.tag),.string (S x.body),.slice a2 x.keys.length F] 0) (by simp only [List.mem_cons,true_or,or_true]))
  | 1,_=>.inl rfl
  | 2,_=>.inr (E (13,LitMap.At B 65 #[.int .i64 2,.int .i64 0,.int .i64 (now+2),.int .i64 1,.int .i64 id,.int .i64 now,.string (S rg),.string (S x.tag),.string (S x.body),.slice a2 x.keys.length F] 2) (by simp only [List.mem_cons,true_or,or_true]))
  | 3,_=>.inl rfl
  | 4,_=>.inr (E (15,LitMap.At B 65 #[.int .i64 2,.int .i64 0,.int .i64 (now+2),.int .i64 1,.int .i64 id,.int .i64 now,.string (S rg),.string (S x.tag),.string (S x.body),.slice a2 x.keys.length F] 4) (by simp only [List.mem_cons,true_or,or_true]))
  | 5,_=>.inl rfl
  | 6,_=>.inr (E (11,LitMap.At B 65 #[.int .i64 2,.int .i64 0,.int .i64 (now+2),.int .i64 1,.int .i64 id,.int .i64 now,.string (S rg),.string (S x.tag),.string (S x.body),.slice a2 x.keys.length F] 6) (by simp only [List.mem_cons,true_or,or_true]))
  | 7,_=>.inl rfl
  | 8,_=>.inl rfl
  | 9,_=>.inl rfl
  | i+10,h=>absurd h (by simp))
 have cr:Below B w8 I:=((Below.refl B w8).drew).trans ca.below;have cv:Below B w6 I:=(dt.o.to_below B (Nat.le_of_lt (Array.getElem?_eq_some_iff.1 H6.o).1) (λk e=>by omega)).trans cr;have cb:=zq cv;clear E ca ab cr cv;have h9:=dv.o;have R:I.heap[A+1]?=some (.cells #[.int .i64 0,.int .i64 0,.int .i64 0,.int .i64 0,.int .i64 0,.int .i64 0,.string ⟨#[]⟩,.string ⟨#[]⟩,.string ⟨#[]⟩,.slice none 0 0] 65 (0,0)):=(cb.o.block (A+1) (by have:=av.o; omega)).trans (ag bw.o a8.o);have k0:I.cell? ⟨B,0,none⟩=_:=aa h9 0 _ rfl;have k1:I.cell? ⟨B,1,none⟩=_:=aa h9 1 _ rfl;have k2:I.cell? ⟨B,2,none⟩=_:=aa h9 2 _ rfl;have k3:I.cell? ⟨B,3,none⟩=_:=aa h9 3 _ rfl;have k4:I.cell? ⟨B,4,none⟩=_:=aa h9 4 _ rfl;have k5:I.cell? ⟨B,5,none⟩=_:=aa h9 5 _ rfl;have k6:I.cell? ⟨B,6,none⟩=_:=aa h9 6 _ rfl;have k7:I.cell? ⟨B,7,none⟩=_:=aa h9 7 _ rfl;have k8:I.cell? ⟨B,8,none⟩=_:=aa h9 8 _ rfl;have k9:I.cell? ⟨B,9,none⟩=_:=aa h9 9 _ rfl;have n0:I.cell? ⟨A+1,0,none⟩=_:=aa R 0 _ rfl;have n1:I.cell? ⟨A+1,1,none⟩=_:=aa R 1 _ rfl;have n2:I.cell? ⟨A+1,2,none⟩=_:=aa R 2 _ rfl;have n3:I.cell? ⟨A+1,3,none⟩=_:=aa R 3 _ rfl;have n4:I.cell? ⟨A+1,4,none⟩=_:=aa R 4 _ rfl;have n5:I.cell? ⟨A+1,5,none⟩=_:=aa R 5 _ rfl;have n6:I.cell? ⟨A+1,6,none⟩=_:=aa R 6 _ rfl;have n7:I.cell? ⟨A+1,7,none⟩=_:=aa R 7 _ rfl;have n8:I.cell? ⟨A+1,8,none⟩=_:=aa R 8 _ rfl;have n9:I.cell? ⟨A+1,9,none⟩=_:=aa R 9 _ rfl;have z0:=ae R 0;have z1:=ae R 1;have z2:=ae R 2;have z3:=ae R 3;have z4:=ae R 4;have z5:=ae R 5;have z6:=ae R 6;have z7:=ae R 7;have z8:=ae R 8;have z9:=ae R 9;have HH:=zq (kw rfl R (.int .i64 2) (.int .i64 0) (.int .i64 (now+2)) (.int .i64 1) (.int .i64 id) (.int .i64 now) (.string (S rg)) (.string (S x.tag)) (.string (S x.body)) (.slice a2 x.keys.length F));have cw:=zq (mg I (A+1) (.int .i64 2) (.int .i64 0) (.int .i64 (now+2)) (.int .i64 1) (.int .i64 id) (.int .i64 now) (.string (S rg)) (.string (S x.tag)) (.string (S x.body)) (.slice a2 x.keys.length F));clear h9 R;go_wp2_with fail;clear k0 k1 k2 k3 k4 k5 k6 k7 k8 k9 n0 n1 n2 n3 n4 n5 n6 n7 n8 n9 z0 z1 z2 z3 z4 z5 z6 z7 z8 z9;change bodyPost _ _ _ _ _ (o9 I (A+1) (.int .i64 2) (.int .i64 0) (.int .i64 (now+2)) (.int .i64 1) (.int .i64 id) (.int .i64 now) (.string (S rg)) (.string (S x.tag)) (.string (S x.body)) (.slice a2 x.keys.length F));generalize o9 I (A+1) (.int .i64 2) (.int .i64 0) (.int .i64 (now+2)) (.int .i64 1) (.int .i64 id) (.int .i64 now) (.string (S rg)) (.string (S x.tag)) (.string (S x.body)) (.slice a2 x.keys.length F)=w9 at *
 have O:=HH.o;have c0:w9.cell? ⟨A+1,0,none⟩=_:=aa O 0 _ rfl;have c1:w9.cell? ⟨A+1,1,none⟩=_:=aa O 1 _ rfl;have c2:w9.cell? ⟨A+1,2,none⟩=_:=aa O 2 _ rfl;have c3:w9.cell? ⟨A+1,3,none⟩=_:=aa O 3 _ rfl;have c4:w9.cell? ⟨A+1,4,none⟩=_:=aa O 4 _ rfl;have c5:w9.cell? ⟨A+1,5,none⟩=_:=aa O 5 _ rfl;have c6:w9.cell? ⟨A+1,6,none⟩=_:=aa O 6 _ rfl;have c7:w9.cell? ⟨A+1,7,none⟩=_:=aa O 7 _ rfl;have c8:w9.cell? ⟨A+1,8,none⟩=_:=aa O 8 _ rfl;have c9:w9.cell? ⟨A+1,9,none⟩=_:=aa O 9 _ rfl
 have dx:Below W.heap.size W w9:=by
  have h1:Below W.heap.size W w6:=ce.o.trans (bw.o.mono ce.o.size);have U:Below W.heap.size w6 I:=cb.o.mono (by have:=av.o; have:=cf.o; omega);have Z:=h1.trans U;exact Z.trans (cw.o.to_below _ Z.size (λk e=>by have:=cf.o; omega))
 have dy:Strs w9 a2 (x.keys.map S):=by
  intro i hi;obtain ⟨bb,off,e,hc⟩:=dk.o i hi;refine ⟨bb,off,e,?_⟩;have dz:bb < B:=ck.o ⟨bb,off,none⟩ e (λh=>by rw [h] at hi; exact absurd hi (by simp));have cx:I.cell? ⟨bb,off+i,none⟩=some (.string (x.keys.map S)[i]):=by rw [cb.o.cell (p:=⟨bb,off+i,none⟩) dz]; exact hc
  have hq:bb≠A+1:=λh=>by have U:A+2<=bb:=dn.o ⟨bb,off,none⟩ e; omega
  rw [cw.o.cell (p:=⟨bb,off+i,none⟩) (ax cx) hq]; exact cx
 refine bodyPost_ret (v:=.tuple #[.agg #[.int .i64 2,.int .i64 0,.int .i64 (now+2),.int .i64 1,.int .i64 id,.int .i64 now,.string (S rg),.string (S x.tag),.string (S x.body),.slice a2 x.keys.length F],.int .i64 0]) ?_ rfl ⟨a2,F,by rw [HE.o],dy,dx⟩;clear O;simp [results,Tryz.results37,go_sem,c0,c1,c2,c3,c4,c5,c6,c7,c8,c9]
theorem aim:∀ l:List UInt8,Op.bytesLess l l=false
 | []=>rfl
 | a :: l=>by
   unfold Op.bytesLess;rw [aim l];simp
theorem aun (t:ByteArray) (w:World):Calls Tryz.prog 160 #[.string t] w λe w'=>e=.returned (.bool false)/\w'=w:=by
 have A:(t != t)=false:=by simp [bne,(bytes_beq t t).2 rfl]
 have B:(t != t)=false:=A;go_enter Tryz.func160,Tryz.ntmps160;go_wp2_with fail;go_ret;exact ⟨by simp [A],rfl⟩
theorem auo (t:ByteArray) (w:World):Calls Tryz.prog 96 #[.string t,.string t] w λe w'=>e=.returned (.int .i64 0)/\w'=w:=by
 have A:=zq (λw=>aun t w);have B:=aim t.toList;go_enter Tryz.func96,Tryz.ntmps96;go_wp2_with fail;refine (A.o w).mono ?_;rintro e w2 ⟨rfl,rfl⟩;go_wp2_with fail;refine (A.o _).mono ?_;rintro e w3 ⟨rfl,rfl⟩;clear A;go_wp2_with fail;go_ret;exact ⟨rfl,rfl⟩
theorem aup (t:Int) (w:World):Calls Tryz.prog 161 #[.int .i64 t] w λe w'=>e=.returned (.bool false)/\w'=w:=by
 have A:(t != t)=false:=by simp [bne]
 have B:(t != t)=false:=A;go_enter Tryz.func161,Tryz.ntmps161;go_wp2_with fail;go_ret;exact ⟨by simp [A],rfl⟩
theorem auq (t:Int) (w:World):Calls Tryz.prog 97 #[.int .i64 t,.int .i64 t] w λe w'=>e=.returned (.int .i64 0)/\w'=w:=by
 have A:=zq (λw=>aup t w);go_enter Tryz.func97,Tryz.ntmps97;go_wp2_with fail;refine (A.o w).mono ?_;rintro e w2 ⟨rfl,rfl⟩;go_wp2_with fail;refine (A.o _).mono ?_;rintro e w3 ⟨rfl,rfl⟩;clear A;go_wp2_with fail;go_ret;exact ⟨rfl,rfl⟩
theorem asg (g c:Nat) (w:World) (h0:w.cell? ⟨g,0,none⟩=some (.int .i64 0)) (h1:w.cell? ⟨g,1,none⟩=some (.int .i64 0)) (h2:w.cell? ⟨g,2,none⟩=some (.int .i64 0)) :
 Calls Tryz.prog 95 #[.slice (some ⟨g,0,none⟩) 3 c] w λe w'=>e=.returned (.int .i64 0)/\w'=w:=by
 go_enter Tryz.func95,Tryz.ntmps95;go_wp2_with fail;go_loopw [8] (λi wr=>∃ k:Nat,k<=3/\i=.int .i64 (k:Int)/\wr=w) (λi _=>3 - (intOf i).toNat)
 case atStart=>exact ⟨0,by omega,rfl,rfl⟩
 case round =>
  obtain ⟨k,hk,rfl,rfl⟩:=hrel
  rcases (show k=0\/k=1\/k=2\/k=3 by omega) with rfl | rfl | rfl | rfl
  . go_wp2_with fail
    go_roundw
    case rel=>exact ⟨1,by omega,by go_num,trivial⟩
    case measure=>simp [intOf]
  . go_wp2_with fail
    go_roundw
    case rel=>exact ⟨2,by omega,by go_num,trivial⟩
    case measure=>simp [intOf]
  . go_wp2_with fail
    go_roundw
    case rel=>exact ⟨3,by omega,by go_num,trivial⟩
    case measure=>simp [intOf]
  . go_wp2_with fail
    go_ret;exact ⟨rfl,rfl⟩
theorem ap8 (g t:ByteArray) (q p1 p2:Int) (w:World) :
 Calls Tryz.prog 47 #[.agg #[.string g,.string t,.int .i64 q,.int .i64 p1],.agg #[.string g,.string t,.int .i64 q,.int .i64 p2]] w λe w'=>e=.returned (.int .i64 0)/\Below w.heap.size w w':=by
 have M:Below w.heap.size w ((w.alloc (.cells #[.string g,.string t,.int .i64 q,.int .i64 p1] 112)).alloc (.cells #[.string g,.string t,.int .i64 q,.int .i64 p2] 112)):=((Below.refl _ w).alloc (Nat.le_refl _) _).alloc (by rw [World.size_alloc]; omega) _;have N:((w.alloc (.cells #[.string g,.string t,.int .i64 q,.int .i64 p1] 112)).alloc (.cells #[.string g,.string t,.int .i64 q,.int .i64 p2] 112)).heap[w.heap.size]?=some (.cells #[.string g,.string t,.int .i64 q,.int .i64 p1] 112 (0,0)):=ag ((Below.refl _ _).alloc (Nat.le_refl _) _) (heap_alloc_new w _)
 have O:((w.alloc (.cells #[.string g,.string t,.int .i64 q,.int .i64 p1] 112)).alloc (.cells #[.string g,.string t,.int .i64 q,.int .i64 p2] 112)).heap[w.heap.size+1]?=some (.cells #[.string g,.string t,.int .i64 q,.int .i64 p2] 112 (0,0)):=by
  have:=heap_alloc_new (w.alloc (.cells #[.string g,.string t,.int .i64 q,.int .i64 p1] 112)) (.cells #[.string g,.string t,.int .i64 q,.int .i64 p2] 112);rw [World.size_alloc] at this;exact this
 have I:=zq M;have HS:=zq (λ(t:ByteArray) w=>auo t w);have HI:=zq (λ(t:Int) w=>auq t w)
 have F:Zq (∀ w2,RecW.ExtR ((w.alloc (.cells #[.string g,.string t,.int .i64 q,.int .i64 p1] 112)).alloc (.cells #[.string g,.string t,.int .i64 q,.int .i64 p2] 112)).drew w2->w2.cell? ⟨w.heap.size,0,none⟩=some (.string g)/\w2.cell? ⟨w.heap.size,1,none⟩=some (.string t)/\w2.cell? ⟨w.heap.size,2,none⟩=some (.int .i64 q)/\w2.cell? ⟨w.heap.size+1,0,none⟩=some (.string g)/\w2.cell? ⟨w.heap.size+1,1,none⟩=some (.string t)/\w2.cell? ⟨w.heap.size+1,2,none⟩=some (.int .i64 q)/\Below ((w.alloc (.cells #[.string g,.string t,.int .i64 q,.int .i64 p1] 112)).alloc (.cells #[.string g,.string t,.int .i64 q,.int .i64 p2] 112)).heap.size ((w.alloc (.cells #[.string g,.string t,.int .i64 q,.int .i64 p1] 112)).alloc (.cells #[.string g,.string t,.int .i64 q,.int .i64 p2] 112)) w2):=λw2 E=>by
  have hb:Below ((w.alloc (.cells #[.string g,.string t,.int .i64 q,.int .i64 p1] 112)).alloc (.cells #[.string g,.string t,.int .i64 q,.int .i64 p2] 112)).heap.size ((w.alloc (.cells #[.string g,.string t,.int .i64 q,.int .i64 p1] 112)).alloc (.cells #[.string g,.string t,.int .i64 q,.int .i64 p2] 112)) w2:=((Below.refl _ _).drew).trans E;have h1:=ag hb N;have h2:=ag hb O;exact ⟨aa h1 0 _ rfl,aa h1 1 _ rfl,aa h1 2 _ rfl,aa h2 0 _ rfl,aa h2 1 _ rfl,aa h2 2 _ rfl,hb⟩
 clear N O M;go_enter Tryz.func47,Tryz.ntmps47;go_upto_region 1 with fail
 generalize (w.alloc (.cells #[.string g,.string t,.int .i64 q,.int .i64 p1] 112)).alloc (.cells #[.string g,.string t,.int .i64 q,.int .i64 p2] 112)=w1 at *
 obtain ⟨A,hA⟩:∃ A,w.heap.size=A:=⟨_,rfl⟩;rw [hA] at F I ⊢;refine GrowN.au 18 [none,none,none,none,some (.inl (.int .i64 0)),none,none,none,none,some (.inl (.int .i64 0)),none,none,none,none,some (.inl (.int .i64 0)),some (.inr λ_ v w=>∃ g,v=.slice (some ⟨g,0,none⟩) 3 3/\w.heap[g]?=some (.cells #[.int .i64 0,.int .i64 0,.int .i64 0] 3 (0,0))),some (.inl (.int .i64 0)),none] (RecW.ExtR) (by kernel_rfl) (by kernel_rfl) (by kernel_rfl) (RecW.ExtR.refl) (λ_ _ _=>RecW.ExtR.trans) ?_ ?_
 ·
  intro K hK Y hY l v w w' hR h;simp only [List.mem_cons,List.not_mem_nil,or_false] at hK
  rcases hK with rfl | rfl | rfl | rfl | rfl | rfl | rfl | rfl | rfl | rfl | rfl | rfl | rfl | rfl | rfl | rfl | rfl | rfl <;> simp only [reduceCtorEq,Option.some.injEq,Sum.inr.injEq] at hY
  subst hY; obtain ⟨g,e,J⟩:=h; exact ⟨g,e,ag hR J⟩
 simp only [List.take_succ_cons,List.take_zero,List.drop_succ_cons,List.drop_zero]
 iterate 2
  refine GrowN.g_det rfl ?_;apply Exists.intro;refine ⟨λw E B=>?_,?_⟩
  . clear B
    obtain ⟨a0,R,a2,b0,U,X,_⟩:=F.o w E;go_simp;exact ⟨rfl,RecW.ExtR.refl _⟩
  go_frame;refine GrowN.g_det rfl ?_;apply Exists.intro;refine ⟨λw E B=>?_,?_⟩
  . clear B
    obtain ⟨a0,R,a2,b0,U,X,_⟩:=F.o w E;go_simp;exact ⟨rfl,RecW.ExtR.refl _⟩
  go_frame;refine GrowN.g_det rfl ?_;apply Exists.intro;refine ⟨λw E B=>?_,?_⟩
  . clear B
    obtain ⟨a0,R,a2,b0,U,X,_⟩:=F.o w E;go_simp;exact ⟨rfl,RecW.ExtR.refl _⟩
  go_frame;refine GrowN.g_det rfl ?_;apply Exists.intro;refine ⟨λw E B=>?_,?_⟩
  . clear B
    obtain ⟨a0,R,a2,b0,U,X,_⟩:=F.o w E;go_simp;exact ⟨rfl,RecW.ExtR.refl _⟩
  go_frame;refine GrowN.g_con rfl (λw E B=>?_) ?_
  . clear B
    go_simp;exact (HS.o _ w).mono λe w3 h=>⟨_,h.1,rfl,h.2 ▸ RecW.ExtR.refl _⟩
  go_frame
 iterate 4
  refine GrowN.g_det rfl ?_;apply Exists.intro;refine ⟨λw E B=>?_,?_⟩
  . clear B
    obtain ⟨a0,R,a2,b0,U,X,_⟩:=F.o w E;go_simp;exact ⟨rfl,RecW.ExtR.refl _⟩
  go_frame
 refine GrowN.g_con rfl (λw E B=>?_) ?_
 . clear B
   go_simp;exact (HI.o _ w).mono λe w3 h=>⟨_,h.1,rfl,h.2 ▸ RecW.ExtR.refl _⟩
 go_frame;refine GrowN.g_new rfl (λw E B=>?_) (λv15=>?_)
 . clear B
   go_simp;exact ⟨⟨_,rfl,heap_alloc_new w _⟩,(Below.refl _ w).alloc (Nat.le_refl _) _⟩
 go_frame;refine GrowN.g_con rfl (λw E B=>?_) ?_
 ·
  skip
  obtain ⟨g,rfl,J⟩:=B _ (.head _) (by kernel_rfl);clear B;have ad:=zq (asg g 3 w (aa J 0 _ rfl) (aa J 1 _ rfl) (aa J 2 _ rfl));clear J;go_simp;exact ad.o.mono λe w3 h=>⟨_,h.1,rfl,h.2 ▸ RecW.ExtR.refl _⟩
 go_frame;refine GrowN.g_det rfl ?_;apply Exists.intro;refine ⟨λw E B=>?_,?_⟩
 ·
  clear B;obtain ⟨a0,R,a2,b0,U,X,_⟩:=F.o w E;go_simp;exact ⟨rfl,RecW.ExtR.refl _⟩
 go_frame;refine GrowN.g_nil λw2 Z B=>?_
 clear B;have ak:=zq ((I.o).trans ((F.o w2 Z).2.2.2.2.2.2.mono (hA ▸ I.o.size)));clear Z F HS HI;go_wp2_with fail;go_ret;exact ⟨rfl,hA ▸ ak.o⟩
theorem ap9 (g t:ByteArray) (q p2:Int) (w:World) :
 Calls Tryz.prog 46 #[.slice none 0 0,.agg #[.string g,.string t,.int .i64 q,.int .i64 p2],.func (.func 47) #[] #[]] w λe w'=>e=.returned (.tuple #[.int .i64 0,.bool false])/\Below w.heap.size w w':=by
 have A:Zq (Below w.heap.size w (w.alloc (.cells #[.string g,.string t,.int .i64 q,.int .i64 p2] 112))):=(Below.refl _ w).alloc (Nat.le_refl _) _;go_enter Tryz.func46,Tryz.ntmps46;go_upto_region 1 with fail
 generalize w.alloc (.cells #[.string g,.string t,.int .i64 q,.int .i64 p2] 112)=w1 at *
 go_wp2_with fail;go_loopw [9,10] (λi j wr=>i=.int .i64 0/\j=.int .i64 0/\wr=w1) (λ_ _ _=>0)
 case atStart=>exact ⟨rfl,rfl,rfl⟩
 case round =>
  obtain ⟨rfl,rfl,rfl⟩:=hrel;go_wp2_with fail;refine GrowN.au 16 [none,none,none,none,none,none,none,none,none,none,none,none,none,none,none,none] (RecW.ExtR) (by kernel_rfl) (by kernel_rfl) (by kernel_rfl) (RecW.ExtR.refl) (λ_ _ _=>RecW.ExtR.trans) ?_ ?_
  . exact GrowN.jy rfl
  simp only [List.take_succ_cons,List.take_zero,List.drop_succ_cons,List.drop_zero]
  iterate 16
   first
   | refine GrowN.g_skip rfl ?_
   | refine GrowN.g_det rfl ?_
     apply Exists.intro;refine ⟨λw I E=>?_,?_⟩
     . clear E
       go_simp;exact ⟨rfl,RecW.ExtR.refl _⟩
   go_frame
  refine GrowN.g_nil λw2 B E=>?_
  clear E;have F:=zq ((A.o).trans ((((Below.refl wr.heap.size wr).drew).trans B).mono A.o.size));clear B;go_wp2_with fail;go_ret2;exact ⟨rfl,F.o⟩
theorem atw (g t:ByteArray) (q p1 p2:Int) (G c:Nat) (w:World) (h0:w.cell? ⟨G,0,none⟩=some (.string g)) (h1:w.cell? ⟨G,1,none⟩=some (.string t)) (h2:w.cell? ⟨G,2,none⟩=some (.int .i64 q)) (h3:w.cell? ⟨G,3,none⟩=some (.int .i64 p1)) :
 Calls Tryz.prog 46 #[.slice (some ⟨G,0,none⟩) 1 c,.agg #[.string g,.string t,.int .i64 q,.int .i64 p2],.func (.func 47) #[] #[]] w λe w'=>e=.returned (.tuple #[.int .i64 0,.bool true])/\Below w.heap.size w w':=by
 have I:Below w.heap.size w (w.alloc (.cells #[.string g,.string t,.int .i64 q,.int .i64 p2] 112)):=(Below.refl _ w).alloc (Nat.le_refl _) _;have R:(w.alloc (.cells #[.string g,.string t,.int .i64 q,.int .i64 p2] 112)).heap[w.heap.size]?=some (.cells #[.string g,.string t,.int .i64 q,.int .i64 p2] 112 (0,0)):=heap_alloc_new w _
 have HK:Zq (∀ w2,Below (w.alloc (.cells #[.string g,.string t,.int .i64 q,.int .i64 p2] 112)).heap.size (w.alloc (.cells #[.string g,.string t,.int .i64 q,.int .i64 p2] 112)) w2->w2.cell? ⟨G,0,none⟩=some (.string g)/\w2.cell? ⟨G,1,none⟩=some (.string t)/\w2.cell? ⟨G,2,none⟩=some (.int .i64 q)/\w2.cell? ⟨G,3,none⟩=some (.int .i64 p1)/\w2.cell? ⟨w.heap.size,0,none⟩=some (.string g)/\w2.cell? ⟨w.heap.size,1,none⟩=some (.string t)/\w2.cell? ⟨w.heap.size,2,none⟩=some (.int .i64 q)/\w2.cell? ⟨w.heap.size,3,none⟩=some (.int .i64 p2)/\True):=λw2 hb=>by
  have J:=I.trans (hb.mono I.size);have M:=ag hb R;exact ⟨by rw [J.cell (ax h0)]; exact h0,by rw [J.cell (ax h1)]; exact h1,by rw [J.cell (ax h2)]; exact h2,by rw [J.cell (ax h3)]; exact h3,aa M 0 _ rfl,aa M 1 _ rfl,aa M 2 _ rfl,aa M 3 _ rfl,trivial⟩
 have HO:=zq (λw=>ap8 g t q p1 p2 w);have N:=zq I;clear I R h0 h1 h2 h3;go_enter Tryz.func46,Tryz.ntmps46;go_upto_region 1 with fail
 generalize w.alloc (.cells #[.string g,.string t,.int .i64 q,.int .i64 p2] 112)=w1 at *
 obtain ⟨A,hA⟩:∃ A,w.heap.size=A:=⟨_,rfl⟩;rw [hA] at HK N ⊢;go_wp2_with fail;go_loopw [9,10] (λi j wr=>i=.int .i64 0/\∃ k:Nat,k<=1/\j=.int .i64 (k:Int)/\Zq (Below w1.heap.size w1 wr)) (λ_ j _=>(intOf j).toNat)
 case atStart=>exact ⟨rfl,1,by omega,rfl,Below.refl _ _⟩
 case round =>
  obtain ⟨rfl,k,hk,rfl,U⟩:=hrel;obtain ⟨X,rfl⟩:∃ X:World,X=wr:=⟨_,rfl⟩;have B:Zq (∀ w,RecW.ExtR X.drew w->Below w1.heap.size w1 w):=λw F=>U.o.trans ((((Below.refl X.heap.size X).drew).trans F).mono U.o.size)
  rcases (show k=0\/k=1 by omega) with rfl | rfl
  ·
   go_wp2_with fail;refine GrowN.au 16 [none,none,none,none,none,none,none,none,none,none,none,some (.inl (.int .i64 0)),none,none,none,none] (RecW.ExtR) (by kernel_rfl) (by kernel_rfl) (by kernel_rfl) (RecW.ExtR.refl) (λ_ _ _=>RecW.ExtR.trans) ?_ ?_
   . exact GrowN.jy rfl
   simp only [List.take_succ_cons,List.take_zero,List.drop_succ_cons,List.drop_zero]
   iterate 11
    refine GrowN.g_det rfl ?_;apply Exists.intro;refine ⟨λw F E=>?_,?_⟩
    . clear E
      obtain ⟨a0,a1,a2,a3,b0,b1,b2,b3,_⟩:=HK.o w (B.o w F);go_simp;exact ⟨rfl,RecW.ExtR.refl _⟩
    go_frame
   refine GrowN.g_con rfl (λw F E=>?_) ?_
   . clear E
     have hb:=B.o w F;go_simp;exact (HO.o w).mono λe w3 h=>⟨_,h.1,rfl,h.2⟩
   iterate 4
    go_frame;refine GrowN.g_det rfl ?_;apply Exists.intro;refine ⟨λw F E=>?_,?_⟩
    . clear E
      go_simp;exact ⟨rfl,RecW.ExtR.refl _⟩
   go_frame;refine GrowN.g_nil λw3 Y E=>?_
   clear E;have O:=zq (N.o.trans ((B.o w3 Y).mono (hA ▸ N.o.size)));clear Y B HK HO;go_wp2_with fail;go_ret2;exact ⟨rfl,hA ▸ O.o⟩
  ·
   go_wp2_with fail;refine GrowN.au 8 [none,none,none,none,none,none,some (.inl (.int .i64 0)),none] (RecW.ExtR) (by kernel_rfl) (by kernel_rfl) (by kernel_rfl) (RecW.ExtR.refl) (λ_ _ _=>RecW.ExtR.trans) ?_ ?_
   . exact GrowN.jy rfl
   simp only [List.take_succ_cons,List.take_zero,List.drop_succ_cons,List.drop_zero]
   iterate 6
    refine GrowN.g_det rfl ?_;apply Exists.intro;refine ⟨λw F E=>?_,?_⟩
    . clear E
      obtain ⟨a0,a1,a2,a3,b0,b1,b2,b3,_⟩:=HK.o w (B.o w F);go_simp;exact ⟨rfl,RecW.ExtR.refl _⟩
    go_frame
   refine GrowN.g_con rfl (λw F E=>?_) ?_
   . clear E
     have hb:=B.o w F;go_simp;exact (HO.o w).mono λe w3 h=>⟨_,h.1,rfl,h.2⟩
   go_frame;refine GrowN.g_det rfl ?_;apply Exists.intro;refine ⟨λw F E=>?_,?_⟩
   . clear E
     go_simp;exact ⟨rfl,RecW.ExtR.refl _⟩
   go_frame;refine GrowN.g_nil λw2 Z E=>?_
   clear E;have O:=zq (B.o w2 Z);clear Z B;go_wp2_with fail;go_roundw
   case rel=>exact ⟨rfl,0,by omega,by go_num,O⟩
   case measure=>simp [intOf]
end RetW
namespace SndW
open Go.RowKit Go.MapKept Go.Sort OctMath RecMath RecW DskW SegW TapeW TapeMath PendW CacheW StoW TopW NameMath
theorem aqa {base:Nat} {S0:StoD} {X:TabD} (x:ib) (sy:Bool) (hx:su x) (r:Int) (hc:pq X.l x=r) (h0:r≠0) (a:Option Addr) (c:Nat) (W:World) (h:StoTab base W S0 X) (hl:X.l.length<=1000) (hS:Strs W a (x.keys.map S)) :
 Calls Tryz.prog 8 #[.pointer (some ⟨S0.blk,0,none⟩),.agg (ig x a c),.bool sy] W λe w'=>e=.returned (.tuple #[.int .i64 0,.int .i64 r])/\Below W.heap.size W w':=by
 have E:Zq (Below W.heap.size W (W.alloc (.cells (ig x a c) 35))):=(Below.refl _ W).alloc (Nat.le_refl _) _;have B:Zq (RecW.Boxed (W.alloc (.cells (ig x a c) 35)) W.heap.size (ig x a c)):=RecW.Boxed.new W _ _;have F:=zq (ae0 x hx a c _ (h.below E.o) hl (Strs.below hS E.o));rw [hc] at F;have I:(ig x a c).size=5:=rfl;have N:(r != 0)=true:=bne_iff_ne.2 h0;clear h hS hx hc h0;go_enter Tryz.func8,Tryz.ntmps8;go_upto_region 1 with fail
 generalize W.alloc (.cells (ig x a c) 35)=w1 at *
 clear I;obtain ⟨A,M⟩:∃ A,W.heap.size=A:=⟨_,rfl⟩;rw [M] at B ⊢;have O:w1.cell? ⟨A,0,none⟩=some (.string (S x.topic)):=B.o 0 _ rfl;have k1:w1.cell? ⟨A,1,none⟩=some (.int .i64 x.queue):=B.o 1 _ rfl;have R:w1.cell? ⟨A,2,none⟩=some (.string (S x.tag)):=B.o 2 _ rfl;have U:w1.cell? ⟨A,3,none⟩=some (.slice a x.keys.length c):=B.o 3 _ rfl;have Y:w1.cell? ⟨A,4,none⟩=some (.string (S x.body)):=B.o 4 _ rfl;rw [show ig x a c=#[.string (S x.topic),.int .i64 x.queue,.string (S x.tag),.slice a x.keys.length c,.string (S x.body)] from rfl] at F;clear M;go_wp2_with fail;refine F.o.mono ?_;rintro e w2 ⟨rfl,hb⟩;have J:Zq (Below W.heap.size W w2):=E.o.trans (hb.mono E.o.size);clear hb F O k1 R U Y;go_wp2_with fail;go_ret2;exact ⟨rfl,J.o⟩
theorem aqb {base:Nat} {S0:StoD} {X:TabD} (x:ib) (sy:Bool) (hx:su x) (hc:pq X.l x=0) (a:Option Addr) (c:Nat) (W:World) (h:StoTab base W S0 X) (hl:X.l.length<=1000) (hS:Strs W a (x.keys.map S)) (idn r:Int) (Q:World->World->Prop)
 (HPO:Zq (∀ (I:Option Addr) (M:Nat) (w:World),Below W.heap.size W w->Strs w I (x.keys.map S)->Calls Tryz.prog 27 #[.pointer (some ⟨S0.blk,0,none⟩),.agg (af (jh x 1 0 S0.now) I M),.bool sy] w λe w'=>e=.returned (.tuple #[.int .i64 idn,.int .i64 r])/\Q w w')) :
 Calls Tryz.prog 8 #[.pointer (some ⟨S0.blk,0,none⟩),.agg (ig x a c),.bool sy] W λe w'=>e=.returned (.tuple #[.int .i64 idn,.int .i64 r])/\∃ w3,Below W.heap.size W w3/\Q w3 w':=by
 have J:Zq (Below W.heap.size W (W.alloc (.cells (ig x a c) 35))):=(Below.refl _ W).alloc (Nat.le_refl _) _;have B:Zq (RecW.Boxed (W.alloc (.cells (ig x a c) 35)) W.heap.size (ig x a c)):=RecW.Boxed.new W _ _;have HC:=zq (ae0 x hx a c _ (h.below J.o) hl (Strs.below hS J.o));rw [hc] at HC;have ao:(ig x a c).size=5:=rfl;have O:=zq (λ(w:World) (hb:Below W.heap.size W w)=>akm x hx 1 0 S0.now a c w (Strs.below hS hb));have R:=zq (λ(w:World) (hb:Below W.heap.size W w)=>alf w (h.sto.below hb));clear h hS hx hc;go_enter Tryz.func8,Tryz.ntmps8;go_upto_region 1 with fail
 generalize W.alloc (.cells (ig x a c) 35)=w1 at *
 clear ao;obtain ⟨A,hA⟩:∃ A,W.heap.size=A:=⟨_,rfl⟩;have bh:=zq hA;rw [hA] at B ⊢;have k0:w1.cell? ⟨A,0,none⟩=some (.string (S x.topic)):=B.o 0 _ rfl;have k1:w1.cell? ⟨A,1,none⟩=some (.int .i64 x.queue):=B.o 1 _ rfl;have k2:w1.cell? ⟨A,2,none⟩=some (.string (S x.tag)):=B.o 2 _ rfl;have k3:w1.cell? ⟨A,3,none⟩=some (.slice a x.keys.length c):=B.o 3 _ rfl;have k4:w1.cell? ⟨A,4,none⟩=some (.string (S x.body)):=B.o 4 _ rfl;rw [show ig x a c=#[.string (S x.topic),.int .i64 x.queue,.string (S x.tag),.slice a x.keys.length c,.string (S x.body)] from rfl] at HC;clear hA;go_wp2_with fail;refine HC.o.mono ?_;rintro e w2 ⟨rfl,hb⟩;have F:Zq (Below W.heap.size W w2):=J.o.trans (hb.mono J.o.size);have U:=zq (B.o.below hb);clear hb HC k0 k1 k2 k3 k4 B J;go_upto_region 4 with fail
 rw [show ig x a c=#[.string (S x.topic),.int .i64 x.queue,.string (S x.tag),.slice a x.keys.length c,.string (S x.body)] from rfl] at O
 have Z:Zq (∀ w,RecW.ExtR w2.drew w->w.cell? ⟨A,0,none⟩=some (.string (S x.topic))/\w.cell? ⟨A,1,none⟩=some (.int .i64 x.queue)/\w.cell? ⟨A,2,none⟩=some (.string (S x.tag))/\w.cell? ⟨A,3,none⟩=some (.slice a x.keys.length c)/\w.cell? ⟨A,4,none⟩=some (.string (S x.body))/\Below w2.heap.size w2 w):=λw N=>by
  have hb:Below w2.heap.size w2 w:=((Below.refl _ w2).drew).trans N;have hc:=U.o.below hb;exact ⟨hc 0 _ rfl,hc 1 _ rfl,hc 2 _ rfl,hc 3 _ rfl,hc 4 _ rfl,hb⟩
 refine GrowM.j3 (by kernel_rfl) ?_;refine GrowM.j5 6 [none,none,none,some (.inl (.int .i64 S0.now)),some (.inr (λ_ v w=>∃ I M,v=.agg (af (jh x 1 0 S0.now) I M)/\Strs w I (x.keys.map S))),none] RecW.ExtR (by kernel_rfl) (by kernel_rfl) RecW.ExtR.refl (λ_ _ _=>RecW.ExtR.trans) ?_ ?_
 ·
  intro K hK Y hY l v w w' hR h;simp only [List.mem_cons,List.not_mem_nil,or_false] at hK
  rcases hK with rfl | rfl | rfl | rfl | rfl | rfl <;> simp only [reduceCtorEq,Option.some.injEq,Sum.inr.injEq] at hY
  subst hY; obtain ⟨I,M,e,hs⟩:=h; exact ⟨I,M,e,Strs.below hs hR⟩
 simp only [List.take_succ_cons,List.take_zero,List.drop_succ_cons,List.drop_zero,Nat.reduceSub]
 iterate 3
  refine GrowN.g_det rfl ?_;apply Exists.intro;refine ⟨λw N E=>?_,?_⟩
  . clear E
    obtain ⟨k0,k1,k2,k3,k4,_⟩:=Z.o w N;go_simp;exact ⟨rfl,RecW.ExtR.refl _⟩
  go_frame
 refine GrowN.g_con rfl (λw N E=>?_) ?_
 ·
  clear E;obtain ⟨_,_,_,_,_,hb⟩:=Z.o w N;have ar:=zq (R.o w (F.o.trans (hb.mono F.o.size)));clear hb;go_simp;exact ar.o.mono λe w3 ⟨h1,h2⟩=>⟨_,h1,rfl,h2 ▸ RecW.ExtR.refl _⟩
 go_frame;refine GrowN.g_new rfl (λw N E=>?_) (λv4=>?_)
 ·
  clear E;obtain ⟨_,_,_,_,_,hb⟩:=Z.o w N;have a1:=zq (O.o w (F.o.trans (hb.mono F.o.size)));clear hb;go_simp;exact a1.o.mono λe w3 ⟨I,M,h1,h2,h3⟩=>⟨_,h1,⟨I,⟨M,rfl⟩,h2⟩,h3⟩
 go_frame;refine GrowN.g_det rfl ?_;apply Exists.intro;refine ⟨λw N E=>?_,?_⟩
 . clear E
   go_simp;exact ⟨rfl,RecW.ExtR.refl _⟩
 go_frame;refine GrowN.g_nil λw3 ab E=>?_
 obtain ⟨I,M,rfl,ac⟩:=E _ (.head _);clear E;obtain ⟨_,_,_,_,_,ad⟩:=Z.o w3 ab;have ak:Zq (Below W.heap.size W w3):=F.o.trans (ad.mono F.o.size);have al:=zq (HPO.o I M w3 ak.o ac);clear ac ad ab HPO O R Z U;generalize af (jh x 1 0 S0.now) I M=cm at *
 refine GrowM.qj (λv w'=>v=.tuple #[.int .i64 idn,.int .i64 r]/\Q w3 w') (by kernel_rfl) rfl rfl ?_ ?_
 ·
  go_simp;refine al.o.mono ?_;rintro e w' ⟨rfl,hb⟩;exact ⟨_,rfl,rfl,hb⟩
 rintro v w4 ⟨rfl,am⟩;go_frame;have HM:=zq am;clear am al;refine GrowM.j5 11 [none,none,none,none] (λu v=>v=u) (by kernel_rfl) (by kernel_rfl) (λ_=>rfl) (λ_ _ _ h k=>k.trans h) ?_ ?_
 . exact GrowN.jy rfl
 simp only [List.take_succ_cons,List.take_zero,List.drop_succ_cons,List.drop_zero,Nat.reduceSub]
 iterate 4
  refine GrowN.g_det rfl ?_;apply Exists.intro;refine ⟨λw N E=>?_,?_⟩
  . obtain rfl:=N.symm
    clear E;go_simp
    first | exact rfl | exact ⟨rfl,rfl⟩
  go_frame
 refine GrowN.g_nil λwz a6 E=>?_
 obtain rfl:=a6.symm;clear E;refine GrowM.uy rfl ?_;go_wp2_with fail;go_ret2;exact ⟨rfl,w3,ak.o,HM.o⟩
theorem alm {base:Nat} {S0:StoD} {X:TabD} (x:ib) (sy:Bool) (hx:su x) (hc:pq X.l x=0) (hp:∀ y∈X.l,fu y.1=true/\y.2<=3) (a:Option Addr) (c:Nat) (W:World) (h:StoTab base W S0 X) (hl:X.l.length<=1000) (hS:Strs W a (x.keys.map S)) (hq:Quiet S0.T.D) (hT:TabB base W) (hbase:base<=W.heap.size)
 (hnow:gp S0.now=false) (hroom:(((bv S0.T.R.e (jh x 1 0 S0.now)).length+(bg (jh x 1 0 S0.now)).length:Nat):Int)<=S0.T.D.room) (hwl:S0.T.D.waits.length<=1000000) (hfar:S0.T.R.e<=80000000) (hrl:S0.T.O.recs.length<=1000000) :
 Calls Tryz.prog 8 #[.pointer (some ⟨S0.blk,0,none⟩),.agg (ig x a c),.bool sy] W λe w'=>e=.returned (.tuple #[.int .i64 ((S0.T.R.e+(bv S0.T.R.e (jh x 1 0 S0.now)).length:Nat):Int),.int .i64 0]) /\
  ∃ S1,StoTab base w' S1 X/\Put W.heap.size S0 S1 (jh x 1 0 S0.now) sy/\Mod S0.foot W w':=by
 have E:inI S0.now:=by
  unfold gp at hnow;simp only [Bool.or_eq_false_iff,decide_eq_false_iff_not] at hnow;exact ⟨by omega,by omega⟩
 refine (aqb x sy hx hc a c W h hl hS _ 0 _ (zq (λ(J:Option Addr) (N:Nat) (w:World) (hb:Below W.heap.size W w) (U:Strs w J (x.keys.map S))=>put_ok (jh x 1 0 S0.now) sy (alk hx (by unfold inI; decide) acy E) (aaw hp hc (.inl ⟨rfl,rfl⟩) rfl hnow) (by show (1:Int)≠0; decide) J N w (h.sto.below hb) U hq (hT.below hb) (Nat.le_trans hbase hb.size) hroom hwl hfar hrl))).mono ?_;rintro e w' ⟨rfl,w3,B,S1,F,A,M⟩;have I:StoTab base w3 S0 X:=h.below B;exact ⟨rfl,S1,StoTab.put I F A M (Nat.le_refl _),Put.mono A B.size,(Mod.of_below B).trans M⟩
end SndW
namespace StoW
open Go.RowKit Go.MapKept OctMath RecMath RecW TapeMath DskW SegW MapG TapeW PendW CacheW CqW
theorem ain {base:Nat} {w:World} {D:DiskD} (h:DiskAt base w D) (hf:D.files=[]) (hv:D.wv=.slice none 0 0) {n:Nat} (h1:n<=D.blk) (h2:n<=D.mB):∀ k,D.foot k->n<=k:=λk hk=>by
 rcases hk with e | e | ⟨p,hp,_⟩ | e
 . omega
 . omega
 . rw [hf] at hp; cases hp
 . rw [hv] at e; cases e
theorem acj {D:DiskD} {c:Int} (hf:D.files=[]) (hc:D.cap=c):D.room=c:=by
 unfold DiskD.room DiskD.size;rw [hf,hc];show c - ((0:Nat):Int)=c;omega
theorem aqc {n:List UInt8} (h:∀ x l,n=116 :: 97 :: x :: l->False):∀ p,p<=99999999->n≠ah qz p:=λp _ e=>h 112 _ e
theorem atx {base:Nat} {w:World} {T:TapeD} (h:TapeAt base w T) (hi:T.its=[]) (hb:T.R.b=0):T.R.e=0:=by
 have:=zn h;rw [hi,hb] at this;exact this
theorem af7 {base:Nat} {w:World} {T:TapeD} (h:TapeAt base w T) (hi:T.its=[]):T.O.recs=[]:=by
 rw [h.recs,hi]; rfl
theorem ae1 {base B:Nat} {w w2:World} {S0 S1:StoD} {m:Msg} {sy:Bool} (h:StoAt base w S0) (h1:StoAt base w2 S1) (hp:Put B S0 S1 m sy) :
 S1.T.O.recs=S0.T.O.recs++[(S0.T.R.e+(bv S0.T.R.e m).length,m)]:=by
 rw [h1.tape.recs,hp.its,hp.b,ad7,<- zn h.tape,ac1,<- h.tape.recs]
theorem aio {base B:Nat} {w w2:World} {S0 S1:StoD} {m:Msg} {sy:Bool} (h:StoAt base w S0) (h1:StoAt base w2 S1) (hp:Put B S0 S1 m sy) :
 (S0.T.R.e+(bv S0.T.R.e m).length,m)∈S1.T.O.recs/\S1.T.O.recs.length=S0.T.O.recs.length+1/\S1.T.R.e=S0.T.R.e+(bv S0.T.R.e m).length+(bg m).length:=by
 have E:=zn h.tape;have F:=zn h1.tape
 have A:S1.T.O.recs=S0.T.O.recs++[(S0.T.R.e+(bv S0.T.R.e m).length,m)]:=by
  rw [h1.tape.recs,hp.its,hp.b,ad7,<- E,ac1,<- h.tape.recs]
 refine ⟨by rw [A]; simp,by rw [A]; simp,?_⟩;rw [F,hp.b,hp.its,ve,vz,List.length_append,List.length_append];omega
end StoW
end Go.Proofs.YtkjocpjikcepkaaGreatDoor
