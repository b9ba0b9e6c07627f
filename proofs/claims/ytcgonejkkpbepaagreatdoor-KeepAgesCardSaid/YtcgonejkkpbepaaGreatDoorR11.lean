/- The frame of every law's proof: a call that hands back true and leaves all that was there as it was meets the row: true, And what follows. -/
import Derived.Test.YtcgonejkkpbepaaGreatDoorRows
import Derived.ProofKit
import Derived.OpenShut
import Derived.SizedLaws
import Derived.SliceStrings
import Derived.ChangeShapes
import Derived.ChangeArms
import Derived.Deep.Grids
import Derived.Test.YtcgonejkkpbepaaGreatDoorR10
import Derived.Lay
import Derived.LaidLaws
import Derived.LaidMore
import Derived.Shelf.Vars
set_option linter.unusedVariables false
set_option linter.unusedSimpArgs false
set_option maxHeartbeats 25600000
set_option maxRecDepth 100000
namespace Go.Proofs.YtcgonejkkpbepaaGreatDoor
section
open Go.ChangeShapes Go.WideShapes Go.ChangeAt Go.RowKit
theorem own:ownKnob Tryz.prog.godebug=none:=by kernel_rfl
theorem laidOut:laidOutB Tryz.prog=true:=by kernel_rfl
theorem aam {H:Type} {enc:TypeId×Value->H} {W W':World} (hb:Below W.heap.size W W'):∀ (ts:List TypeId) (vs:List Value) (ds:List (DataW H)) (ps:List MemPlace),
 (∀ t∈ts,Tryz.prog.readableRec t=true/\t < Tryz.prog.types.size)->(∀ x∈ps,x.block < W.heap.size) ->
 DataW.TrodAll enc Tryz.prog W 0 (λ_=>true) true ts vs ds ps->DataW.TrodAll enc Tryz.prog W' 0 (λb=>decide (b < W.heap.size)) true ts vs ds ps
 | [],vs,ds,ps,_,_,h=>by obtain ⟨rfl,rfl,rfl⟩:=trodAll_nil h; exact trodAll_mk0
 | t :: ts,vs,ds,ps,hr,hlt,h=>by
   obtain ⟨v,A,d,B,p,q,rfl,rfl,rfl,h1,F⟩:=trodAll_cons h
   exact trodAll_cons_mk (Below.trod laidOut (hr t (List.mem_cons_self ..)).1 (hr t (List.mem_cons_self ..)).2 h1 hb λx E=>hlt x (List.mem_append_left _ E))
    (aam hb ts A B q (λt I=>hr t (List.mem_cons_of_mem _ I)) (λx E=>hlt x (List.mem_append_right _ E)) F)
theorem aoz {f:Func} {s:ChangeSpec} {H:Type} {enc:TypeId×Value->H} {W W':World} {args:Array Value} {ds gs:List (DataW H)} {before:List MemPlace} {tb:TypeId}
 (hW:DataW.Whole enc Tryz.prog f.params.toList s.vars false W args.toList ds gs before)
 (hr:∀ t∈f.params.toList,Tryz.prog.readableRec t=true/\t < Tryz.prog.types.size) (hres:f.resultTypes=#[tb]) (hbool:Tryz.prog.underlying tb=some .bool) (hv:s.vars=[])
 (hfn:(s.fn H (ds++gs)).results=[.lit (.bool true)]/\(s.fn H (ds++gs)).args=ds/\(s.fn H (ds++gs)).vars=[]) (hb:Below W.heap.size W W') :
 s.post enc Tryz.prog f false true false false W args (.bool true) W':=by
 have A:∀ x∈before,x.block < W.heap.size:=λx B=>by simpa using hW.lt x B
 have E:=hW;obtain ⟨p,q,I,F,rfl,_,_⟩:=hW;rw [hv] at F;obtain ⟨rfl,rfl⟩:=trodVars_none F;refine ⟨ds,[],p++[],[],p,[],E,?_,?_,?_,hb.frame _,λh=>by cases h⟩
 . rw [hfn.1,hres]
   exact trodAll_mk1 (shut_bool hbool true)
 . rw [hfn.2.1]
   exact aam hb _ _ _ _ hr (λx B=>A x (by simpa using B)) I
 . rw [hfn.2.2,hv]; rfl
end
namespace StoW
open Go.ChangeShapes Go.WideShapes Go.ChangeAt Go.RowKit OctMath RecMath RecW
section
variable {H:Type} {enc:TypeId×Value->H} {W:World}
theorem i64_in {z:Int} (h:(Lit.int .i64 z).wf=true) : -9223372036854775808<=z/\z<=9223372036854775807:=by simpa [Lit.wf,IntKind.min,IntKind.max,IntKind.signed,IntKind.bits] using h
theorem ajt {n:Nat} {c:Value} {y:DataW H×List MemPlace} (h:DataW.trod enc Tryz.prog W 0 (λ_=>true) true n 40 [c]=some y):∃ a cp,∃ ts:List (List UInt8),c=.slice a ts.length cp/\Strs W a (ts.map S)/\ts.length<=cp:=by
 rcases open_strings Tryz.underlying40 Tryz.underlying9 (by kernel_rfl) h with ⟨hcs,_⟩ | ⟨a,len,cap,ss,hcs,_,hl,hm,hz,_,hcell,_⟩
 . obtain rfl:=List.singleton_inj.1 hcs
   exact ⟨none,0,[],rfl,λi B=>absurd B (by simp),Nat.le_refl _⟩
 ·
  obtain rfl:=List.singleton_inj.1 hcs;have E:ss.length=cap:=by rw [hz]; simp
  refine ⟨some a,cap,(ss.take len).map λs=>s.data.toList,?_,?_,by rw [List.length_map,List.length_take]; omega⟩
  . rw [List.length_map,List.length_take,Nat.min_eq_left (by omega)]
  ·
   rw [List.map_map];have e:(S ∘ λs:ByteArray=>s.data.toList)=id:=by funext s; exact ao3 s
   rw [e,List.map_id];refine Strs.of_cells λi B=>?_
   have A:i < ss.length:=by simp at B; omega
   rw [hcell i A];simp [List.getD,A]
theorem ad6 {α:Type} {P:Nat->α->Prop}:∀ n,(∀ i,i < n->∃ x,P i x)->∃ l:List α,l.length=n/\∀ i (h:i < l.length),P i l[i]
 | 0,_=>⟨[],rfl,λi h=>absurd h (Nat.not_lt_zero _)⟩
 | n+1,h=>by
   obtain ⟨l,h1,B⟩:=ad6 n λi A=>h i (by omega)
   obtain ⟨x,E⟩:=h n (by omega);refine ⟨l++[x],by simp [h1],λi A=>?_⟩
   by_cases h3:i < l.length
   . rw [List.getElem_append_left h3]; exact B i h3
   . have:i=n:=by simp at A; omega
     subst this;rw [List.getElem_append_right (by omega)]
     simpa [h1] using E
end
end StoW
namespace SndW
open Go.ChangeShapes Go.WideShapes Go.ChangeAt Go.RowKit OctMath RecMath RecW StoW
theorem five {α:Type} (l:List α) (h:l.length=5):∃ a b c d e,l=[a,b,c,d,e]:=by
 match l,h with
 | [a,b,c,d,e],_=>exact ⟨a,b,c,d,e,rfl⟩
section
variable {H:Type} {enc:TypeId×Value->H} {W:World}
theorem amj {fuel:Nat} {cs:List Value} {y:DataW H×List MemPlace} (hc:cs.length=5) (hf:DataW.trod enc Tryz.prog W 0 (λ_=>true) true fuel 42 cs=some y) :
 ∃ x a c,cs=(gp x a c).toList/\Strs W a (x.keys.map S)/\inI x.queue/\x.keys.length<=c:=by
 obtain ⟨c0,c1,c2,c3,c4,rfl⟩:=five cs hc;obtain ⟨M,n,_,_,_,F,A⟩:=DataW.trod_struct Tryz.underlying42 hf;have B:M.length=5:=F;have I:Tryz.prog.cellsOf 3=1:=by kernel_rfl
 have E:Tryz.prog.cellsOf 9=1:=by kernel_rfl
 have J:Tryz.prog.cellsOf 40=1:=by kernel_rfl
 match M,B with
 | [y0,y1,y2,y3,y4],_ =>
   have N:DataW.trod enc Tryz.prog W 0 (λ_=>true) true n 9 [c0]=some y0:=by
    have h:DataW.trod enc Tryz.prog W 0 (λ_=>true) true n 9 (([c0,c1,c2,c3,c4].drop 0).take (Tryz.prog.cellsOf 9))=some y0:=A 0 _ rfl;rw [E] at h;exact h
   have k1:DataW.trod enc Tryz.prog W 0 (λ_=>true) true n 3 [c1]=some y1:=by
    have h:DataW.trod enc Tryz.prog W 0 (λ_=>true) true n 3 (([c0,c1,c2,c3,c4].drop 1).take (Tryz.prog.cellsOf 3))=some y1:=A 1 _ rfl;rw [I] at h;exact h
   have O:DataW.trod enc Tryz.prog W 0 (λ_=>true) true n 9 [c2]=some y2:=by
    have h:DataW.trod enc Tryz.prog W 0 (λ_=>true) true n 9 (([c0,c1,c2,c3,c4].drop 2).take (Tryz.prog.cellsOf 9))=some y2:=A 2 _ rfl;rw [E] at h;exact h
   have R:DataW.trod enc Tryz.prog W 0 (λ_=>true) true n 40 [c3]=some y3:=by
    have h:DataW.trod enc Tryz.prog W 0 (λ_=>true) true n 40 (([c0,c1,c2,c3,c4].drop 3).take (Tryz.prog.cellsOf 40))=some y3:=A 3 _ rfl;rw [J] at h;exact h
   have U:DataW.trod enc Tryz.prog W 0 (λ_=>true) true n 9 [c4]=some y4:=by
    have h:DataW.trod enc Tryz.prog W 0 (λ_=>true) true n 9 (([c0,c1,c2,c3,c4].drop 4).take (Tryz.prog.cellsOf 9))=some y4:=A 4 _ rfl;rw [E] at h;exact h
   obtain ⟨X,Y,_,w1⟩:=DataW.trod_int Tryz.underlying3 k1;obtain rfl:=List.singleton_inj.1 Y;obtain ⟨z0,Z,_,_⟩:=DataW.trod_string Tryz.underlying9 N;obtain rfl:=List.singleton_inj.1 Z;obtain ⟨l0,rfl⟩:∃ l,z0=S l:=⟨z0.data.toList,(ao3 z0).symm⟩;obtain ⟨z2,e2,_,_⟩:=DataW.trod_string Tryz.underlying9 O;obtain rfl:=List.singleton_inj.1 e2;obtain ⟨l2,rfl⟩:∃ l,z2=S l:=⟨z2.data.toList,(ao3 z2).symm⟩;obtain ⟨z4,e4,_,_⟩:=DataW.trod_string Tryz.underlying9 U;obtain rfl:=List.singleton_inj.1 e4;obtain ⟨l4,rfl⟩:∃ l,z4=S l:=⟨z4.data.toList,(ao3 z4).symm⟩;obtain ⟨a3,p3,t3,rfl,h3,h4⟩:=ajt R;exact ⟨⟨l0,X,l2,t3,l4⟩,a3,p3,rfl,h3,i64_in w1,h4⟩
end
end SndW
namespace KepW
open Go.ChangeShapes Go.WideShapes Go.ChangeAt Go.RowKit OctMath RecMath RecW StoW SndW
theorem six {α:Type} (l:List α) (h:l.length=6):∃ a b c d e f,l=[a,b,c,d,e,f]:=by
 match l,h with
 | [a,b,c,d,e,f],_=>exact ⟨a,b,c,d,e,f,rfl⟩
theorem u8_in {x:Int} (h:(Lit.int .u8 x).wf=true):0<=x/\x<=255:=by simpa [Lit.wf,IntKind.min,IntKind.max,IntKind.signed,IntKind.bits] using h
theorem u16_in {x:Int} (h:(Lit.int .u16 x).wf=true):0<=x/\x<=65535:=by simpa [Lit.wf,IntKind.min,IntKind.max,IntKind.signed,IntKind.bits] using h
section
variable {H:Type} {enc:TypeId×Value->H} {W:World}
theorem aqd {fuel:Nat} {cs:List Value} {y:DataW H×List MemPlace} (hc:cs.length=6) (hf:DataW.trod enc Tryz.prog W 0 (λ_=>true) true fuel 48 cs=some y) :
 ∃ p:OpD,cs=(ajq p).toList/\Strs W p.a (p.x.keys.map S)/\inI p.x.queue/\(0<=p.n/\p.n<=255):=by
 obtain ⟨c0,c1,c2,c3,c4,c5,rfl⟩:=six cs hc;obtain ⟨J,n,_,_,_,B,E⟩:=DataW.trod_struct Tryz.underlying48 hf;have A:J.length=2:=B;have F:Tryz.prog.cellsOf 42=5:=by kernel_rfl
 have I:Tryz.prog.cellsOf 5=1:=by kernel_rfl
 match J,A with
 | [y0,y1],_ =>
   have M:DataW.trod enc Tryz.prog W 0 (λ_=>true) true n 42 [c0,c1,c2,c3,c4]=some y0:=by
    have h:DataW.trod enc Tryz.prog W 0 (λ_=>true) true n 42 (([c0,c1,c2,c3,c4,c5].drop 0).take (Tryz.prog.cellsOf 42))=some y0:=E 0 _ rfl;rw [F] at h;exact h
   have k1:DataW.trod enc Tryz.prog W 0 (λ_=>true) true n 5 [c5]=some y1:=by
    have h:DataW.trod enc Tryz.prog W 0 (λ_=>true) true n 5 (([c0,c1,c2,c3,c4,c5].drop 5).take (Tryz.prog.cellsOf 5))=some y1:=E 1 _ rfl;rw [I] at h;exact h
   obtain ⟨x,a,c,N,h1,O,_⟩:=amj rfl M;obtain ⟨z5,R,_,U⟩:=DataW.trod_int Tryz.underlying5 k1;obtain rfl:=List.singleton_inj.1 R;refine ⟨⟨x,a,c,z5⟩,?_,h1,O,u8_in U⟩;show [c0,c1,c2,c3,c4]++[Value.int .u8 z5]=_;rw [N]; rfl
theorem ao0 {fuel:Nat} {v:Value} {y:DataW H×List MemPlace} (h:DataW.trod enc Tryz.prog W 0 (λ_=>true) true fuel 22 [v]=some y) :
 ∃ a c,∃ ms:List OpD,v=.slice a ms.length c/\OpRow W a ms/\(∀ p∈ms,inI p.x.queue/\(0<=p.n/\p.n<=255))/\ms.length<=9223372036854775807:=by
 have I:Tryz.prog.cellsOf 48=6:=by kernel_rfl
 rcases DataW.trod_slice Tryz.underlying22 h with ⟨hcs,_⟩ | ⟨a,len,cap,elems,rest,n,_,hcs,_,_,hl,hm,hlen,hel,_,_⟩
 . obtain rfl:=List.singleton_inj.1 hcs
   exact ⟨none,0,[],rfl,λi A=>absurd A (Nat.not_lt_zero _),(λp hp=>by cases hp),by decide⟩
 ·
  obtain rfl:=List.singleton_inj.1 hcs
  have each:∀ i,i < len->∃ x:OpD,(∀ j v,(ajq x)[j]?=some v->W.cell? ((a.add (i * 6)).add j)=some v)/\Strs W x.a (x.x.keys.map S)/\(inI x.x.queue/\(0<=x.n/\x.n<=255)):=λi A=>by
   have h1:=hel i A;have E:i < elems.length:=by omega
   rw [List.getElem?_eq_getElem E,I,Option.bind_eq_some_iff] at h1;obtain ⟨cs,J,M⟩:=h1;obtain ⟨_,N,O⟩:=World.cells?_some J;obtain ⟨p,rfl,R,U,X⟩:=aqd N M;refine ⟨p,λj v F=>?_,R,U,X⟩
   have Y:j < 6:=by
    have:=(Array.getElem?_eq_some_iff.1 F).1;exact this
   rw [O j Y,Array.getElem?_toList];exact F
  obtain ⟨ms,h1,E⟩:=ad6 len each;have Z:cap<=9223372036854775807:=hm;refine ⟨some a,cap,ms,by rw [h1],λi A=>?_,λp hp=>?_,by omega⟩
  ·
   obtain ⟨J,M,_⟩:=E i A;have h0:=World.cell?_spot ((E 0 (by omega)).1 0 _ rfl);obtain ⟨b,off,spot⟩:=a;have B:spot=none:=by simpa [Addr.add] using h0
   subst B;refine ⟨b,off,rfl,λj v F=>?_,M⟩;rw [<- J j v F];congr 1;unfold Addr.add
   split <;> split <;> simp_all <;> omega
  . obtain ⟨i,A,rfl⟩:=List.getElem_of_mem hp
    exact (E i A).2.2
theorem aju {base:Nat} {v:Value} {d:DataW H} {p:List MemPlace} (hval:Value.okWide Tryz.prog W .any base 24 v) (hd:DataW.Trod enc Tryz.prog W 0 (λ_=>true) true 24 v d p) :
 ∃ x y,v=.agg #[.int .u16 x,.int .u16 y]/\(0<=x/\x<=65535)/\(0<=y/\y<=65535):=by
 have J:=Tryz.underlying24
 obtain ⟨A,rfl,F⟩:∃ A,v=.agg A/\A.size=2:=by
  simp only [Value.okWide,J] at hval;obtain ⟨A,h1,O,_⟩:=hval;exact ⟨A,h1,O.trans (by kernel_rfl)⟩
 obtain ⟨c0,c1,rfl⟩:∃ c0 c1,A=#[c0,c1]:=by
  obtain ⟨l⟩:=A
  match l,F with
  | [c0,c1],_=>exact ⟨c0,c1,rfl⟩
 obtain ⟨fuel,R⟩:=hd;obtain ⟨U,n,_,Y,Z,B,E⟩:=DataW.trod_array J R;have M:=E 0 (by omega);have N:=E 1 (by omega);have I:Tryz.prog.cellsOf 23=1:=by kernel_rfl
 rw [I] at M N
 match U,B with
 | [x0,x1],_ =>
   obtain ⟨s0,h0,_,X⟩:=DataW.trod_int Tryz.underlying23 (show DataW.trod enc Tryz.prog W 0 (λ_=>true) true n 23 [c0]=some x0 from M);obtain ⟨s1,h1,_,w1⟩:=DataW.trod_int Tryz.underlying23 (show DataW.trod enc Tryz.prog W 0 (λ_=>true) true n 23 [c1]=some x1 from N);obtain rfl:=List.singleton_inj.1 h0;obtain rfl:=List.singleton_inj.1 h1;exact ⟨s0,s1,rfl,u16_in X,u16_in w1⟩
end
end KepW
section
open Go.ChangeShapes Go.WideShapes Go.ChangeAt Go.RowKit
def laidL:List (String×DataW Unit):=[("math/bits.deBruijn32tab",Rows.laid_math_bits_deBruijn32tab),("math/bits.deBruijn64tab",Rows.laid_math_bits_deBruijn64tab),("internal/strconv.uint64pow10",Rows.laid_internal_strconv_uint64pow10),("unicode/utf8.acceptRanges",Rows.laid_unicode_utf8_acceptRanges),("strconv.ErrRange",Rows.laid_strconv_ErrRange),("strconv.ErrSyntax",Rows.laid_strconv_ErrSyntax),("unicode/utf8.first",Rows.laid_unicode_utf8_first)]
theorem ad7:∀ W,laidMetH Tryz.prog laidL W=laidMet Tryz.prog laidL W:=λW=>MakeChecks.laidMetH_plain _ _ _ (by kernel_rfl)
theorem arh {W:World} (h:laidMetH Tryz.prog laidL W):SegW.Tab W:=by
 rw [ad7] at h;obtain ⟨ps,A,_,_⟩:=h;obtain ⟨g1,M,c1,f1,N,O,_,_,_,_,A,_⟩:=A;obtain ⟨g2,t2,c2,R,p2,U,_,_,_,_,A,_⟩:=A;obtain ⟨g3,t3,c3,J,p3,X,B,E,F,I,A,_⟩:=A;obtain rfl:=Option.some.inj ((show Tryz.prog.globalNamed "internal/strconv.uint64pow10"=some 1 by kernel_rfl).symm.trans B)
 obtain rfl:=Option.some.inj ((show (Tryz.prog.globals[1]?).map (·.type)=some 390 by kernel_rfl).symm.trans E);show Lib.TabIs Tryz.prog W "internal/strconv.uint64pow10" .u64 Lib.pow10Tab
 unfold Lib.TabIs;rw [F,<- Lib.cells_of_tab Tryz.underlying390 Tryz.underlying330 (by kernel_rfl) (by kernel_rfl) (show DataW.trod (λ_=>()) Tryz.prog W 0 (λ_=>true) false J 390 c3.toList=some (Lib.tabData .u64 Lib.pow10Tab,p3) from I)]
section
variable {H:Type} {enc:TypeId×Value->H}
theorem afu {a:Assume} {os:Os} {f:FuncId} {fn:Func} {s:ChangeSpec} {conds:List PathCond} {apart fresh handsOn again:Bool}
 (started:os.Started) (noInit:Tryz.prog.inits.idxOf? f=none) (hfn:Tryz.prog.funcs[f]?=some fn)
 (witness:∃ (w:World) (tape:Tape) (i:Input),w.os=os/\(w.forCall tape i).Shaped Tryz.prog/\i.vars=[]/\Input.okWide Tryz.prog (w.forCall tape i) .any w.heap.size f i /\
  ((s.pre enc Tryz.prog fn conds apart (w.forCall tape i).memory i.args/\laidMetH Tryz.prog laidL (w.forCall tape i).memory)/\sizedMet enc Tryz.prog fn (OpenSpec.ofChange s) apart (w.forCall tape i).memory i.args)/\a.holds Tryz.prog (lone (Frame.enter Tryz.prog f i.args .normal) [] (w.forCall tape i)))
 (contract:∀ (W:World) (base:Nat) (args:Array Value) (F gs:List (DataW H)) (before:List MemPlace),
  (∀ (j:Nat) t v,fn.params[j]?=some t->args[j]?=some v->Value.okWide Tryz.prog W .any base t v) ->
  DataW.Whole enc Tryz.prog fn.params.toList s.vars apart W args.toList F gs before ->
  (DataW.weightsEach Tryz.prog (fn.params.toList++s.plain.varTypes Tryz.prog) (F++gs)).all (·<=reachBytes)=true->SegW.Tab W ->
  Calls Tryz.prog f args W λe W'=>∃ v,e=.returned v/\s.post enc Tryz.prog fn apart fresh handsOn again W args v W') :
 ReturnsInHanded a Tryz.checked os f .any (λw args=>(s.pre enc Tryz.prog fn conds apart w args/\laidMetH Tryz.prog laidL w)/\sizedMet enc Tryz.prog fn (OpenSpec.ofChange s) apart w args) (s.post enc Tryz.prog fn apart fresh handsOn again):=by
 refine returnsInHanded_of_calls (C:=Tryz.checked) own started noInit witness ?_;intro w tape i _ U _ J A I;obtain ⟨_,_,_,M,B,_,_,_,_,E⟩:=J;have e:M=fn:=Option.some.inj (B.symm.trans hfn);subst e;obtain ⟨⟨⟨F,gs,before,R,hc⟩,X⟩,Y⟩:=A;have N:=DataW.Whole.of_heap (w':=w.forCall tape i) (by rfl) R;have O:laidMetH Tryz.prog laidL (w.forCall tape i):=X.of_heap (by rfl);refine (contract (w.forCall tape i) w.heap.size i.args F gs before E N (Y.weights R) (arh O)).mono λe W' ⟨v,Z,hp⟩=>?_
 subst Z;exact ChangeSpec.post_blind hp
end
theorem ao1 (os:Os) (args:Array Value):laidMetH Tryz.prog laidL ((World.laidAll Tryz.prog os laidL).forCall (λ_ _=>0) ⟨#[],args,[]⟩).memory:=by
 rw [ad7];exact laidMet_laidAll _ (by kernel_rfl) (by kernel_rfl)
theorem ahv (os:Os) (args:Array Value):((World.laidAll Tryz.prog os laidL).forCall (λ_ _=>0) ⟨#[],args,[]⟩).Shaped Tryz.prog:=World.shaped_of_ZipB (by kernel_rfl) (by kernel_rfl)
end
end Go.Proofs.YtcgonejkkpbepaaGreatDoor
