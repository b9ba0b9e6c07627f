/- The frame of every law's proof: a call that hands back true and leaves all that was there as it was meets the row: true, And what follows. -/
import Derived.Test.YtkjocpjikcepkaaGreatDoorRows
import Derived.ProofKit
import Derived.OpenShut
import Derived.SizedLaws
import Derived.SliceStrings
import Derived.ChangeShapes
import Derived.ChangeArms
import Derived.Deep.Grids
import Derived.Test.YtkjocpjikcepkaaGreatDoorR11
import Derived.Lay
import Derived.LaidLaws
import Derived.LaidMore
import Derived.Shelf.Vars
set_option linter.unusedVariables false
set_option linter.unusedSimpArgs false
set_option maxHeartbeats 25600000
set_option maxRecDepth 100000
namespace Go.Proofs.YtkjocpjikcepkaaGreatDoor
section
open Go.ChangeShapes Go.WideShapes Go.ChangeAt Go.RowKit
theorem own:ownKnob Tryz.prog.godebug=none:=by kernel_rfl
theorem laidOut:laidOutB Tryz.prog=true:=by kernel_rfl
theorem abk {H:Type} {enc:TypeId×Value->H} {W W':World} (hb:Below W.heap.size W W'):∀ (ts:List TypeId) (vs:List Value) (ds:List (DataW H)) (ps:List MemPlace),
 (∀ t∈ts,Tryz.prog.readableRec t=true/\t < Tryz.prog.types.size)->(∀ x∈ps,x.block < W.heap.size) ->
 DataW.TrodAll enc Tryz.prog W 0 (λ_=>true) true ts vs ds ps->DataW.TrodAll enc Tryz.prog W' 0 (λb=>decide (b < W.heap.size)) true ts vs ds ps
 | [],vs,ds,ps,_,_,h=>by obtain ⟨rfl,rfl,rfl⟩:=trodAll_nil h; exact trodAll_mk0
 | t :: ts,vs,ds,ps,hr,hlt,h=>by
   obtain ⟨v,A,d,B,p,q,rfl,rfl,rfl,h1,F⟩:=trodAll_cons h
   exact trodAll_cons_mk (Below.trod laidOut (hr t (List.mem_cons_self ..)).1 (hr t (List.mem_cons_self ..)).2 h1 hb λx E=>hlt x (List.mem_append_left _ E))
    (abk hb ts A B q (λt I=>hr t (List.mem_cons_of_mem _ I)) (λx E=>hlt x (List.mem_append_right _ E)) F)
theorem aq1 {f:Func} {s:ChangeSpec} {H:Type} {enc:TypeId×Value->H} {W W':World} {args:Array Value} {ds gs:List (DataW H)} {before:List MemPlace} {tb:TypeId}
 (hW:DataW.Whole enc Tryz.prog f.params.toList s.vars false W args.toList ds gs before)
 (hr:∀ t∈f.params.toList,Tryz.prog.readableRec t=true/\t < Tryz.prog.types.size) (hres:f.resultTypes=#[tb]) (hbool:Tryz.prog.underlying tb=some .bool) (hv:s.vars=[])
 (hfn:(s.fn H (ds++gs)).results=[.lit (.bool true)]/\(s.fn H (ds++gs)).args=ds/\(s.fn H (ds++gs)).vars=[]) (hb:Below W.heap.size W W') :
 s.post enc Tryz.prog f false true false false W args (.bool true) W':=by
 have A:∀ x∈before,x.block < W.heap.size:=λx B=>by simpa using hW.lt x B
 have E:=hW;obtain ⟨p,q,I,F,rfl,_,_⟩:=hW;rw [hv] at F;obtain ⟨rfl,rfl⟩:=trodVars_none F;refine ⟨ds,[],p++[],[],p,[],E,?_,?_,?_,hb.frame _,λh=>by cases h⟩
 . rw [hfn.1,hres]
   exact trodAll_mk1 (shut_bool hbool true)
 . rw [hfn.2.1]
   exact abk hb _ _ _ _ hr (λx B=>A x (by simpa using B)) I
 . rw [hfn.2.2,hv]; rfl
end
namespace StoW
open Go.ChangeShapes Go.WideShapes Go.ChangeAt Go.RowKit OctMath RecMath RecW
section
variable {H:Type} {enc:TypeId×Value->H} {W:World}
theorem i64_in {z:Int} (h:(Lit.int .i64 z).wf=true) : -9223372036854775808<=z/\z<=9223372036854775807:=by simpa [Lit.wf,IntKind.min,IntKind.max,IntKind.signed,IntKind.bits] using h
theorem aky {n:Nat} {c:Value} {y:DataW H×List MemPlace} (h:DataW.trod enc Tryz.prog W 0 (λ_=>true) true n 33 [c]=some y):∃ a cp,∃ ts:List (List UInt8),c=.slice a ts.length cp/\Strs W a (ts.map S)/\ts.length<=cp:=by
 rcases open_strings Tryz.underlying33 Tryz.underlying9 (by kernel_rfl) h with ⟨hcs,_⟩ | ⟨a,len,cap,ss,hcs,_,hl,hm,hz,_,hcell,_⟩
 . obtain rfl:=List.singleton_inj.1 hcs
   exact ⟨none,0,[],rfl,λi B=>absurd B (by simp),Nat.le_refl _⟩
 ·
  obtain rfl:=List.singleton_inj.1 hcs;have E:ss.length=cap:=by rw [hz]; simp
  refine ⟨some a,cap,(ss.take len).map λs=>s.data.toList,?_,?_,by rw [List.length_map,List.length_take]; omega⟩
  . rw [List.length_map,List.length_take,Nat.min_eq_left (by omega)]
  ·
   rw [List.map_map];have e:(S ∘ λs:ByteArray=>s.data.toList)=id:=by funext s; exact als s
   rw [e,List.map_id];refine Strs.of_cells λi B=>?_
   have A:i < ss.length:=by simp at B; omega
   rw [hcell i A];simp [List.getD,A]
theorem ae6 {α:Type} {P:Nat->α->Prop}:∀ n,(∀ i,i < n->∃ x,P i x)->∃ l:List α,l.length=n/\∀ i (h:i < l.length),P i l[i]
 | 0,_=>⟨[],rfl,λi h=>absurd h (Nat.not_lt_zero _)⟩
 | n+1,h=>by
   obtain ⟨l,h1,B⟩:=ae6 n λi A=>h i (by omega)
   obtain ⟨x,E⟩:=h n (by omega);refine ⟨l++[x],by simp [h1],λi A=>?_⟩
   by_cases h3:i < l.length
   . rw [List.getElem_append_left h3]; exact B i h3
   . have:i=n:=by simp at A; omega
     subst this;rw [List.getElem_append_right (by omega)]
     simpa [h1] using E
end
end StoW
namespace SndW
open Go.ChangeShapes Go.WideShapes Go.ChangeAt Go.RowKit OctMath RecMath RecW StoW
theorem five {α:Type} (l:List α) (h:l.length=5):∃ a b c d e,l=[a,b,c,d,e]:=by
 match l,h with
 | [a,b,c,d,e],_=>exact ⟨a,b,c,d,e,rfl⟩
section
variable {H:Type} {enc:TypeId×Value->H} {W:World}
theorem an6 {fuel:Nat} {cs:List Value} {y:DataW H×List MemPlace} (hc:cs.length=5) (hf:DataW.trod enc Tryz.prog W 0 (λ_=>true) true fuel 35 cs=some y) :
 ∃ x a c,cs=(ig x a c).toList/\Strs W a (x.keys.map S)/\inI x.queue/\x.keys.length<=c:=by
 obtain ⟨c0,c1,c2,c3,c4,rfl⟩:=five cs hc;obtain ⟨xs,n,_,_,_,F,A⟩:=DataW.trod_struct Tryz.underlying35 hf;have B:xs.length=5:=F;have I:Tryz.prog.cellsOf 3=1:=by kernel_rfl
 have E:Tryz.prog.cellsOf 9=1:=by kernel_rfl
 have J:Tryz.prog.cellsOf 33=1:=by kernel_rfl
 match xs,B with
 | [y0,y1,y2,y3,y4],_ =>
   have M:DataW.trod enc Tryz.prog W 0 (λ_=>true) true n 9 [c0]=some y0:=by
    have h:DataW.trod enc Tryz.prog W 0 (λ_=>true) true n 9 (([c0,c1,c2,c3,c4].drop 0).take (Tryz.prog.cellsOf 9))=some y0:=A 0 _ rfl;rw [E] at h;exact h
   have k1:DataW.trod enc Tryz.prog W 0 (λ_=>true) true n 3 [c1]=some y1:=by
    have h:DataW.trod enc Tryz.prog W 0 (λ_=>true) true n 3 (([c0,c1,c2,c3,c4].drop 1).take (Tryz.prog.cellsOf 3))=some y1:=A 1 _ rfl;rw [I] at h;exact h
   have N:DataW.trod enc Tryz.prog W 0 (λ_=>true) true n 9 [c2]=some y2:=by
    have h:DataW.trod enc Tryz.prog W 0 (λ_=>true) true n 9 (([c0,c1,c2,c3,c4].drop 2).take (Tryz.prog.cellsOf 9))=some y2:=A 2 _ rfl;rw [E] at h;exact h
   have O:DataW.trod enc Tryz.prog W 0 (λ_=>true) true n 33 [c3]=some y3:=by
    have h:DataW.trod enc Tryz.prog W 0 (λ_=>true) true n 33 (([c0,c1,c2,c3,c4].drop 3).take (Tryz.prog.cellsOf 33))=some y3:=A 3 _ rfl;rw [J] at h;exact h
   have R:DataW.trod enc Tryz.prog W 0 (λ_=>true) true n 9 [c4]=some y4:=by
    have h:DataW.trod enc Tryz.prog W 0 (λ_=>true) true n 9 (([c0,c1,c2,c3,c4].drop 4).take (Tryz.prog.cellsOf 9))=some y4:=A 4 _ rfl;rw [E] at h;exact h
   obtain ⟨U,X,_,w1⟩:=DataW.trod_int Tryz.underlying3 k1;obtain rfl:=List.singleton_inj.1 X;obtain ⟨z0,Y,_,_⟩:=DataW.trod_string Tryz.underlying9 M;obtain rfl:=List.singleton_inj.1 Y;obtain ⟨Z,rfl⟩:∃ l,z0=S l:=⟨z0.data.toList,(als z0).symm⟩;obtain ⟨z2,e2,_,_⟩:=DataW.trod_string Tryz.underlying9 N;obtain rfl:=List.singleton_inj.1 e2;obtain ⟨l2,rfl⟩:∃ l,z2=S l:=⟨z2.data.toList,(als z2).symm⟩;obtain ⟨z4,e4,_,_⟩:=DataW.trod_string Tryz.underlying9 R;obtain rfl:=List.singleton_inj.1 e4;obtain ⟨l4,rfl⟩:∃ l,z4=S l:=⟨z4.data.toList,(als z4).symm⟩;obtain ⟨a3,p3,t3,rfl,h3,h4⟩:=aky O;exact ⟨⟨Z,U,l2,t3,l4⟩,a3,p3,rfl,h3,i64_in w1,h4⟩
theorem akz {fuel:Nat} {v:Value} {y:DataW H×List MemPlace} (h:DataW.trod enc Tryz.prog W 0 (λ_=>true) true fuel 22 [v]=some y) :
 ∃ a c,∃ ms:List (ib×Option Addr×Nat),v=.slice a ms.length c/\WantRow W a ms/\(∀ p∈ms,inI p.1.queue)/\(∀ p∈ms,p.1.keys.length<=p.2.2)/\ms.length<=9223372036854775807:=by
 have I:Tryz.prog.cellsOf 35=5:=by kernel_rfl
 rcases DataW.trod_slice Tryz.underlying22 h with ⟨hcs,_⟩ | ⟨a,len,cap,elems,rest,n,_,hcs,_,_,hl,hm,hlen,hel,_,_⟩
 . obtain rfl:=List.singleton_inj.1 hcs
   exact ⟨none,0,[],rfl,λi A=>absurd A (Nat.not_lt_zero _),(λp hp=>by cases hp),(λp hp=>by cases hp),by decide⟩
 ·
  obtain rfl:=List.singleton_inj.1 hcs
  have each:∀ i,i < len->∃ x:ib×Option Addr×Nat,(∀ j v,(ig x.1 x.2.1 x.2.2)[j]?=some v->W.cell? ((a.add (i * 5)).add j)=some v)/\Strs W x.2.1 (x.1.keys.map S)/\inI x.1.queue/\x.1.keys.length<=x.2.2:=λi A=>by
   have h1:=hel i A;have E:i < elems.length:=by omega
   rw [List.getElem?_eq_getElem E,I,Option.bind_eq_some_iff] at h1;obtain ⟨cs,J,M⟩:=h1;obtain ⟨_,N,O⟩:=World.cells?_some J;obtain ⟨m,b,c,rfl,R,U,X⟩:=an6 N M;refine ⟨(m,b,c),λj v F=>?_,R,U,X⟩
   have Y:j < 5:=by
    have:=(Array.getElem?_eq_some_iff.1 F).1;exact this
   rw [O j Y,Array.getElem?_toList];exact F
  obtain ⟨ms,h1,E⟩:=ae6 len each;have Z:cap<=9223372036854775807:=hm;refine ⟨some a,cap,ms,by rw [h1],λi A=>?_,λp hp=>?_,λp hp=>?_,by omega⟩
  ·
   obtain ⟨J,M,N,_⟩:=E i A;have h0:=World.cell?_spot ((E 0 (by omega)).1 0 _ rfl);obtain ⟨b,off,spot⟩:=a;have B:spot=none:=by simpa [Addr.add] using h0
   subst B;refine ⟨b,off,rfl,λj v F=>?_,M⟩;rw [<- J j v F];congr 1;unfold Addr.add
   split <;> split <;> simp_all <;> omega
  . obtain ⟨i,A,rfl⟩:=List.getElem_of_mem hp
    exact (E i A).2.2.1
  . obtain ⟨i,A,rfl⟩:=List.getElem_of_mem hp
    exact (E i A).2.2.2
end
end SndW
namespace RetW
open Go.ChangeShapes Go.WideShapes Go.ChangeAt Go.RowKit OctMath RecMath RecW StoW SndW
theorem four {α:Type} (l:List α) (h:l.length=4):∃ a b c d,l=[a,b,c,d]:=by
 match l,h with
 | [a,b,c,d],_=>exact ⟨a,b,c,d,rfl⟩
section
variable {H:Type} {enc:TypeId×Value->H} {W:World}
theorem aq2 {fuel:Nat} {cs:List Value} {y:DataW H×List MemPlace} (hc:cs.length=4) (hf:DataW.trod enc Tryz.prog W 0 (λ_=>true) true fuel 24 cs=some y) :
 ∃ (g t:List UInt8) (q p:Int),cs=[.string (S g),.string (S t),.int .i64 q,.int .i64 p]/\inI q/\inI p:=by
 obtain ⟨c0,c1,c2,c3,rfl⟩:=four cs hc;obtain ⟨xs,n,_,_,_,E,A⟩:=DataW.trod_struct Tryz.underlying24 hf;have B:xs.length=4:=E;have F:Tryz.prog.cellsOf 3=1:=by kernel_rfl
 have I:Tryz.prog.cellsOf 9=1:=by kernel_rfl
 match xs,B with
 | [y0,y1,y2,y3],_ =>
   have M:DataW.trod enc Tryz.prog W 0 (λ_=>true) true n 9 [c0]=some y0:=by
    have h:DataW.trod enc Tryz.prog W 0 (λ_=>true) true n 9 (([c0,c1,c2,c3].drop 0).take (Tryz.prog.cellsOf 9))=some y0:=A 0 _ rfl;rw [I] at h;exact h
   have k1:DataW.trod enc Tryz.prog W 0 (λ_=>true) true n 9 [c1]=some y1:=by
    have h:DataW.trod enc Tryz.prog W 0 (λ_=>true) true n 9 (([c0,c1,c2,c3].drop 1).take (Tryz.prog.cellsOf 9))=some y1:=A 1 _ rfl;rw [I] at h;exact h
   have N:DataW.trod enc Tryz.prog W 0 (λ_=>true) true n 3 [c2]=some y2:=by
    have h:DataW.trod enc Tryz.prog W 0 (λ_=>true) true n 3 (([c0,c1,c2,c3].drop 2).take (Tryz.prog.cellsOf 3))=some y2:=A 2 _ rfl;rw [F] at h;exact h
   have O:DataW.trod enc Tryz.prog W 0 (λ_=>true) true n 3 [c3]=some y3:=by
    have h:DataW.trod enc Tryz.prog W 0 (λ_=>true) true n 3 (([c0,c1,c2,c3].drop 3).take (Tryz.prog.cellsOf 3))=some y3:=A 3 _ rfl;rw [F] at h;exact h
   obtain ⟨z0,R,_,_⟩:=DataW.trod_string Tryz.underlying9 M;obtain rfl:=List.singleton_inj.1 R;obtain ⟨U,rfl⟩:∃ l,z0=S l:=⟨z0.data.toList,(als z0).symm⟩;obtain ⟨J,X,_,_⟩:=DataW.trod_string Tryz.underlying9 k1;obtain rfl:=List.singleton_inj.1 X;obtain ⟨l1,rfl⟩:∃ l,J=S l:=⟨J.data.toList,(als J).symm⟩;obtain ⟨z2,Y,_,w2⟩:=DataW.trod_int Tryz.underlying3 N;obtain rfl:=List.singleton_inj.1 Y;obtain ⟨z3,Z,_,w3⟩:=DataW.trod_int Tryz.underlying3 O;obtain rfl:=List.singleton_inj.1 Z;exact ⟨U,l1,z2,z3,rfl,i64_in w2,i64_in w3⟩
theorem an7 {n:Nat} {c:Value} {y:DataW H×List MemPlace} (h:DataW.trod enc Tryz.prog W 0 (λ_=>true) true n 25 [c]=some y):∃ a cp,∃ xs:List Int,c=.slice a xs.length cp/\OctW.Ints W a xs/\(∀ x∈xs,inI x)/\xs.length<=9223372036854775807:=by
 rcases open_ints Tryz.underlying25 Tryz.underlying3 (by kernel_rfl) h with ⟨hcs,_⟩ | ⟨a,len,cap,zs,hcs,_,hl,hm,hz,_,hcell,hwf⟩
 . obtain rfl:=List.singleton_inj.1 hcs
   exact ⟨none,0,[],rfl,λi B=>absurd B (by simp),(λx E=>by cases E),by decide⟩
 ·
  obtain rfl:=List.singleton_inj.1 hcs;have I:zs.length=cap:=by rw [hz]; simp
  have J:cap<=9223372036854775807:=hm;refine ⟨some a,cap,zs.take len,by rw [List.length_take,Nat.min_eq_left (by omega)],λi B=>?_,λx E=>i64_in (hwf x (List.mem_of_mem_take E)),by rw [List.length_take]; omega⟩;have M:i < len:=by simp at B; omega
  have hc:=hcell i (by omega);have N:=World.cell?_spot (hcell 0 (by omega));obtain ⟨b,off,spot⟩:=a;have A:spot=none:=by simpa [Addr.add] using N
  subst A;refine ⟨b,off,rfl,?_⟩;have F:i < zs.length:=by omega
  simp only [List.getElem_take];have e:zs.getD i 0=zs[i]:=by simp [List.getD,F]
  rw [e] at hc;rw [<- hc];unfold Addr.add
  split
  . rename_i e; subst e; rfl
  . rfl
end
end RetW
section
open Go.ChangeShapes Go.WideShapes Go.ChangeAt Go.RowKit
def laidL:List (String×DataW Unit):=[("math/bits.deBruijn32tab",Rows.laid_math_bits_deBruijn32tab),("math/bits.deBruijn64tab",Rows.laid_math_bits_deBruijn64tab),("internal/strconv.uint64pow10",Rows.laid_internal_strconv_uint64pow10),("unicode/utf8.acceptRanges",Rows.laid_unicode_utf8_acceptRanges),("strconv.ErrRange",Rows.laid_strconv_ErrRange),("strconv.ErrSyntax",Rows.laid_strconv_ErrSyntax),("unicode/utf8.first",Rows.laid_unicode_utf8_first)]
theorem ae7:∀ W,laidMetH Tryz.prog laidL W=laidMet Tryz.prog laidL W:=λW=>MakeChecks.laidMetH_plain _ _ _ (by kernel_rfl)
theorem at5 {W:World} (h:laidMetH Tryz.prog laidL W):SegW.Tab W:=by
 rw [ae7] at h;obtain ⟨ps,A,_,_⟩:=h;obtain ⟨g1,M,c1,f1,N,O,_,_,_,_,A,_⟩:=A;obtain ⟨g2,t2,c2,R,p2,U,_,_,_,_,A,_⟩:=A;obtain ⟨g3,t3,c3,J,p3,X,B,E,F,I,A,_⟩:=A;obtain rfl:=Option.some.inj ((show Tryz.prog.globalNamed "internal/strconv.uint64pow10"=some 1 by kernel_rfl).symm.trans B)
 obtain rfl:=Option.some.inj ((show (Tryz.prog.globals[1]?).map (·.type)=some 379 by kernel_rfl).symm.trans E);show Lib.TabIs Tryz.prog W "internal/strconv.uint64pow10" .u64 Lib.pow10Tab
 unfold Lib.TabIs;rw [F,<- Lib.cells_of_tab Tryz.underlying379 Tryz.underlying331 (by kernel_rfl) (by kernel_rfl) (show DataW.trod (λ_=>()) Tryz.prog W 0 (λ_=>true) false J 379 c3.toList=some (Lib.tabData .u64 Lib.pow10Tab,p3) from I)]
section
variable {H:Type} {enc:TypeId×Value->H}
theorem agz {a:Assume} {os:Os} {f:FuncId} {fn:Func} {s:ChangeSpec} {conds:List PathCond} {apart fresh handsOn again:Bool}
 (started:os.Started) (noInit:Tryz.prog.inits.idxOf? f=none) (hfn:Tryz.prog.funcs[f]?=some fn)
 (witness:∃ (w:World) (tape:Tape) (i:Input),w.os=os/\(w.forCall tape i).Shaped Tryz.prog/\i.vars=[]/\Input.okWide Tryz.prog (w.forCall tape i) .any w.heap.size f i /\
  ((s.pre enc Tryz.prog fn conds apart (w.forCall tape i).memory i.args/\laidMetH Tryz.prog laidL (w.forCall tape i).memory)/\sizedMet enc Tryz.prog fn (OpenSpec.ofChange s) apart (w.forCall tape i).memory i.args)/\a.holds Tryz.prog (lone (Frame.enter Tryz.prog f i.args .normal) [] (w.forCall tape i)))
 (contract:∀ (W:World) (base:Nat) (args:Array Value) (F gs:List (DataW H)) (before:List MemPlace),
  (∀ (j:Nat) t v,fn.params[j]?=some t->args[j]?=some v->Value.okWide Tryz.prog W .any base t v) ->
  DataW.Whole enc Tryz.prog fn.params.toList s.vars apart W args.toList F gs before ->
  (DataW.weightsEach Tryz.prog (fn.params.toList++s.plain.varTypes Tryz.prog) (F++gs)).all (·<=reachBytes)=true->SegW.Tab W ->
  Calls Tryz.prog f args W λe W'=>∃ v,e=.returned v/\s.post enc Tryz.prog fn apart fresh handsOn again W args v W') :
 ReturnsInHanded a Tryz.checked os f .any (λw args=>(s.pre enc Tryz.prog fn conds apart w args/\laidMetH Tryz.prog laidL w)/\sizedMet enc Tryz.prog fn (OpenSpec.ofChange s) apart w args) (s.post enc Tryz.prog fn apart fresh handsOn again):=by
 refine returnsInHanded_of_calls (C:=Tryz.checked) own started noInit witness ?_;intro w tape i _ U _ J A I;obtain ⟨_,_,_,M,B,_,_,_,_,E⟩:=J;have e:M=fn:=Option.some.inj (B.symm.trans hfn);subst e;obtain ⟨⟨⟨F,gs,before,R,hc⟩,X⟩,Y⟩:=A;have N:=DataW.Whole.of_heap (w':=w.forCall tape i) (by rfl) R;have O:laidMetH Tryz.prog laidL (w.forCall tape i):=X.of_heap (by rfl);refine (contract (w.forCall tape i) w.heap.size i.args F gs before E N (Y.weights R) (at5 O)).mono λe W' ⟨v,Z,hp⟩=>?_
 subst Z;exact ChangeSpec.post_blind hp
end
theorem aq3 (os:Os) (args:Array Value):laidMetH Tryz.prog laidL ((World.laidAll Tryz.prog os laidL).forCall (λ_ _=>0) ⟨#[],args,[]⟩).memory:=by
 rw [ae7];exact laidMet_laidAll _ (by kernel_rfl) (by kernel_rfl)
theorem aiw (os:Os) (args:Array Value):((World.laidAll Tryz.prog os laidL).forCall (λ_ _=>0) ⟨#[],args,[]⟩).Shaped Tryz.prog:=World.shaped_of_ZipB (by kernel_rfl) (by kernel_rfl)
end
end Go.Proofs.YtkjocpjikcepkaaGreatDoor
