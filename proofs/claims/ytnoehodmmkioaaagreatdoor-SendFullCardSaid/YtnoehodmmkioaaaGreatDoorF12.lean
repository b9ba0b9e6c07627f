/- The frame of every law's proof: a call that hands back true and leaves all that was there as it was meets the row: true, And what follows. -/
import Derived.Test.YtnoehodmmkioaaaGreatDoorRows
import Derived.Test.YtnoehodmmkioaaaGreatDoorF00
import Derived.ProofKit
import Derived.OpenShut
import Derived.SizedLaws
import Derived.SliceStrings
import Derived.Test.YtnoehodmmkioaaaGreatDoorF09
import Derived.ChangeShapes
import Derived.ChangeArms
import Derived.Deep.Grids
import Derived.Test.YtnoehodmmkioaaaGreatDoorF11
import Derived.Test.YtnoehodmmkioaaaGreatDoorF01
import Derived.Lay
import Derived.LaidLaws
import Derived.LaidMore
import Derived.Lib.LaidTab
import Derived.Shelf.Vars
set_option maxHeartbeats 25600000
set_option maxRecDepth 100000
set_option linter.unusedVariables false
set_option linter.unusedSimpArgs false
namespace Go.Proofs.YtnoehodmmkioaaaGreatDoor
open Go.ChangeShapes Go.WideShapes Go.ChangeAt Go.RowKit
theorem own:ownKnob Tryz.prog.godebug=none:=by kernel_rfl
theorem laidOut:laidOutB Tryz.prog=true:=by kernel_rfl
theorem trodAll_stays {H:Type} {enc:TypeId×Value→H} {W W':World} (hb:Below W.heap.size W W'):∀ (ts:List TypeId) (vs:List Value) (ds:List (DataW H)) (ps:List MemPlace),
 (∀ t∈ts,Tryz.prog.readableRec t=true∧t < Tryz.prog.types.size)→(∀ x∈ps,x.block < W.heap.size) →
 DataW.TrodAll enc Tryz.prog W 0 (fun _=>true) true ts vs ds ps→DataW.TrodAll enc Tryz.prog W' 0 (fun b=>decide (b < W.heap.size)) true ts vs ds ps
 | [],vs,ds,ps,_,_,h=>by obtain ⟨rfl,rfl,rfl⟩:=trodAll_nil h; exact trodAll_mk0
 | t :: ts,vs,ds,ps,hr,hlt,h=>by
   obtain ⟨v,vs',d,ds',p,q,rfl,rfl,rfl,h1,h2⟩:=trodAll_cons h
   exact trodAll_cons_mk (Below.trod laidOut (hr t (List.mem_cons_self ..)).1 (hr t (List.mem_cons_self ..)).2 h1 hb fun x hx=>hlt x (List.mem_append_left _ hx))
    (trodAll_stays hb ts vs' ds' q (fun t ht=>hr t (List.mem_cons_of_mem _ ht)) (fun x hx=>hlt x (List.mem_append_right _ hx)) h2)
theorem law_post {f:Func} {s:ChangeSpec} {H:Type} {enc:TypeId×Value→H} {W W':World} {args:Array Value} {ds gs:List (DataW H)} {before:List MemPlace} {tb:TypeId}
 (hW:DataW.Whole enc Tryz.prog f.params.toList s.vars false W args.toList ds gs before)
 (hr:∀ t∈f.params.toList,Tryz.prog.readableRec t=true∧t < Tryz.prog.types.size) (hres:f.resultTypes=#[tb]) (hbool:Tryz.prog.underlying tb=some .bool) (hv:s.vars=[])
 (hfn:(s.fn H (ds++gs)).results=[.lit (.bool true)]∧(s.fn H (ds++gs)).args=ds∧(s.fn H (ds++gs)).vars=[]) (hb:Below W.heap.size W W') :
 s.post enc Tryz.prog f false true false false W args (.bool true) W':=by
 have hlt:∀ x∈before,x.block < W.heap.size:=fun x hx=>by simpa using hW.lt x hx
 have hW':=hW
 obtain ⟨p,q,hA,hV,rfl,_,_⟩:=hW
 rw [hv] at hV
 obtain ⟨rfl,rfl⟩:=trodVars_none hV
 refine ⟨ds,[],p++[],[],p,[],hW',?_,?_,?_,hb.frame _,fun h=>by cases h⟩
 · rw [hfn.1,hres]
   exact trodAll_mk1 (shut_bool hbool true)
 · rw [hfn.2.1]
   exact trodAll_stays hb _ _ _ _ hr (fun x hx=>hlt x (by simpa using hx)) hA
 · rw [hfn.2.2,hv]; rfl
end Go.Proofs.YtnoehodmmkioaaaGreatDoor
namespace Go.Proofs.YtnoehodmmkioaaaGreatDoor.StoW
open Go.ChangeShapes Go.WideShapes Go.ChangeAt Go.RowKit OctMath RecMath RecW
section
variable {H:Type} {enc:TypeId×Value→H} {W:World}
theorem i64_in {z:Int} (h:(Lit.int .i64 z).wf=true) : -9223372036854775808≤z∧z≤9223372036854775807:=by simpa [Lit.wf,IntKind.min,IntKind.max,IntKind.signed,IntKind.bits] using h
theorem open_texts {n:Nat} {c:Value} {y:DataW H×List MemPlace} (h:DataW.trod enc Tryz.prog W 0 (fun _=>true) true n 31 [c]=some y):∃ a cp,∃ ts:List (List UInt8),c=.slice a ts.length cp∧Strs W a (ts.map S)∧ts.length≤cp:=by
 rcases open_strings Tryz.underlying31 Tryz.underlying9 (by kernel_rfl) h with ⟨hcs,_⟩ | ⟨a,len,cap,ss,hcs,_,hl,hm,hz,_,hcell,_⟩
 · obtain rfl:=List.singleton_inj.1 hcs
   exact ⟨none,0,[],rfl,fun i hi=>absurd hi (by simp),Nat.le_refl _⟩
 ·
  obtain rfl:=List.singleton_inj.1 hcs
  have hz':ss.length=cap:=by rw [hz]; simp
  refine ⟨some a,cap,(ss.take len).map fun s=>s.data.toList,?_,?_,by rw [List.length_map,List.length_take]; omega⟩
  · rw [List.length_map,List.length_take,Nat.min_eq_left (by omega)]
  ·
   rw [List.map_map]
   have e:(S ∘ fun s:ByteArray=>s.data.toList)=id:=by funext s; exact S_of s
   rw [e,List.map_id]
   refine Strs.of_cells fun i hi=>?_
   have hi':i < ss.length:=by simp at hi; omega
   rw [hcell i hi']
   simp [List.getD,hi']
theorem list_of_ex {α:Type} {P:Nat→α→Prop}:∀ n,(∀ i,i < n→∃ x,P i x)→∃ l:List α,l.length=n∧∀ i (h:i < l.length),P i l[i]
 | 0,_=>⟨[],rfl,fun i h=>absurd h (Nat.not_lt_zero _)⟩
 | n+1,h=>by
   obtain ⟨l,h1,h2⟩:=list_of_ex n fun i hi=>h i (by omega)
   obtain ⟨x,hx⟩:=h n (by omega)
   refine ⟨l++[x],by simp [h1],fun i hi=>?_⟩
   by_cases h3:i < l.length
   · rw [List.getElem_append_left h3]; exact h2 i h3
   · have:i=n:=by simp at hi; omega
     subst this
     rw [List.getElem_append_right (by omega)]
     simpa [h1] using hx
end
end Go.Proofs.YtnoehodmmkioaaaGreatDoor.StoW
namespace Go.Proofs.YtnoehodmmkioaaaGreatDoor.SndW
open Go.ChangeShapes Go.WideShapes Go.ChangeAt Go.RowKit OctMath RecMath RecW StoW
theorem five {α:Type} (l:List α) (h:l.length=5):∃ a b c d e,l=[a,b,c,d,e]:=by
 match l,h with
 | [a,b,c,d,e],_=>exact ⟨a,b,c,d,e,rfl⟩
section
variable {H:Type} {enc:TypeId×Value→H} {W:World}
theorem open_want {fuel:Nat} {cs:List Value} {y:DataW H×List MemPlace} (hc:cs.length=5) (hf:DataW.trod enc Tryz.prog W 0 (fun _=>true) true fuel 33 cs=some y) :
 ∃ x a c,cs=(cellsW x a c).toList∧Strs W a (x.keys.map S)∧inI x.queue∧x.keys.length≤c:=by
 obtain ⟨c0,c1,c2,c3,c4,rfl⟩:=five cs hc
 obtain ⟨xs,n,_,_,_,hlen,hel⟩:=DataW.trod_struct Tryz.underlying33 hf
 have hlen':xs.length=5:=hlen
 have c1i:Tryz.prog.cellsOf 3=1:=by kernel_rfl
 have c1s:Tryz.prog.cellsOf 9=1:=by kernel_rfl
 have c1t:Tryz.prog.cellsOf 31=1:=by kernel_rfl
 match xs,hlen' with
 | [y0,y1,y2,y3,y4],_ =>
   have k0:DataW.trod enc Tryz.prog W 0 (fun _=>true) true n 9 [c0]=some y0:=by
    have h:DataW.trod enc Tryz.prog W 0 (fun _=>true) true n 9 (([c0,c1,c2,c3,c4].drop 0).take (Tryz.prog.cellsOf 9))=some y0:=hel 0 _ rfl
    rw [c1s] at h
    exact h
   have k1:DataW.trod enc Tryz.prog W 0 (fun _=>true) true n 3 [c1]=some y1:=by
    have h:DataW.trod enc Tryz.prog W 0 (fun _=>true) true n 3 (([c0,c1,c2,c3,c4].drop 1).take (Tryz.prog.cellsOf 3))=some y1:=hel 1 _ rfl
    rw [c1i] at h
    exact h
   have k2:DataW.trod enc Tryz.prog W 0 (fun _=>true) true n 9 [c2]=some y2:=by
    have h:DataW.trod enc Tryz.prog W 0 (fun _=>true) true n 9 (([c0,c1,c2,c3,c4].drop 2).take (Tryz.prog.cellsOf 9))=some y2:=hel 2 _ rfl
    rw [c1s] at h
    exact h
   have k3:DataW.trod enc Tryz.prog W 0 (fun _=>true) true n 31 [c3]=some y3:=by
    have h:DataW.trod enc Tryz.prog W 0 (fun _=>true) true n 31 (([c0,c1,c2,c3,c4].drop 3).take (Tryz.prog.cellsOf 31))=some y3:=hel 3 _ rfl
    rw [c1t] at h
    exact h
   have k4:DataW.trod enc Tryz.prog W 0 (fun _=>true) true n 9 [c4]=some y4:=by
    have h:DataW.trod enc Tryz.prog W 0 (fun _=>true) true n 9 (([c0,c1,c2,c3,c4].drop 4).take (Tryz.prog.cellsOf 9))=some y4:=hel 4 _ rfl
    rw [c1s] at h
    exact h
   obtain ⟨z1,e1,_,w1⟩:=DataW.trod_int Tryz.underlying3 k1
   obtain rfl:=List.singleton_inj.1 e1
   obtain ⟨z0,e0,_,_⟩:=DataW.trod_string Tryz.underlying9 k0
   obtain rfl:=List.singleton_inj.1 e0
   obtain ⟨l0,rfl⟩:∃ l,z0=S l:=⟨z0.data.toList,(S_of z0).symm⟩
   obtain ⟨z2,e2,_,_⟩:=DataW.trod_string Tryz.underlying9 k2
   obtain rfl:=List.singleton_inj.1 e2
   obtain ⟨l2,rfl⟩:∃ l,z2=S l:=⟨z2.data.toList,(S_of z2).symm⟩
   obtain ⟨z4,e4,_,_⟩:=DataW.trod_string Tryz.underlying9 k4
   obtain rfl:=List.singleton_inj.1 e4
   obtain ⟨l4,rfl⟩:∃ l,z4=S l:=⟨z4.data.toList,(S_of z4).symm⟩
   obtain ⟨a3,p3,t3,rfl,h3,h4⟩:=open_texts k3
   exact ⟨⟨l0,z1,l2,t3,l4⟩,a3,p3,rfl,h3,i64_in w1,h4⟩
theorem open_wants {fuel:Nat} {v:Value} {y:DataW H×List MemPlace} (h:DataW.trod enc Tryz.prog W 0 (fun _=>true) true fuel 23 [v]=some y) :
 ∃ a c,∃ ms:List (WantD×Option Addr×Nat),v=.slice a ms.length c∧WantRow W a ms∧(∀ p∈ms,inI p.1.queue)∧(∀ p∈ms,p.1.keys.length≤p.2.2)∧ms.length≤9223372036854775807:=by
 have hc5:Tryz.prog.cellsOf 33=5:=by kernel_rfl
 rcases DataW.trod_slice Tryz.underlying23 h with ⟨hcs,_⟩ | ⟨a,len,cap,elems,rest,n,_,hcs,_,_,hl,hm,hlen,hel,_,_⟩
 · obtain rfl:=List.singleton_inj.1 hcs
   exact ⟨none,0,[],rfl,fun i hi=>absurd hi (Nat.not_lt_zero _),(fun p hp=>by cases hp),(fun p hp=>by cases hp),by decide⟩
 ·
  obtain rfl:=List.singleton_inj.1 hcs
  have each:∀ i,i < len→∃ x:WantD×Option Addr×Nat,(∀ j v,(cellsW x.1 x.2.1 x.2.2)[j]?=some v→W.cell? ((a.add (i * 5)).add j)=some v)∧Strs W x.2.1 (x.1.keys.map S)∧inI x.1.queue∧x.1.keys.length≤x.2.2:=fun i hi=>by
   have h1:=hel i hi
   have h2:i < elems.length:=by omega
   rw [List.getElem?_eq_getElem h2,hc5,Option.bind_eq_some_iff] at h1
   obtain ⟨cs,h3,h4⟩:=h1
   obtain ⟨_,h5,h6⟩:=World.cells?_some h3
   obtain ⟨m,b,c,rfl,h7,h8,h9⟩:=open_want h5 h4
   refine ⟨(m,b,c),fun j v hv=>?_,h7,h8,h9⟩
   have hj:j < 5:=by
    have:=(Array.getElem?_eq_some_iff.1 hv).1
    exact this
   rw [h6 j hj,Array.getElem?_toList]
   exact hv
  obtain ⟨ms,h1,h2⟩:=list_of_ex len each
  have hm':cap≤9223372036854775807:=hm
  refine ⟨some a,cap,ms,by rw [h1],fun i hi=>?_,fun p hp=>?_,fun p hp=>?_,by omega⟩
  ·
   obtain ⟨h3,h4,h5,_⟩:=h2 i hi
   have h0:=World.cell?_spot ((h2 0 (by omega)).1 0 _ rfl)
   obtain ⟨b,off,spot⟩:=a
   have hspot:spot=none:=by simpa [Addr.add] using h0
   subst hspot
   refine ⟨b,off,rfl,fun j v hv=>?_,h4⟩
   rw [← h3 j v hv]
   congr 1
   unfold Addr.add
   split <;> split <;> simp_all <;> omega
  · obtain ⟨i,hi,rfl⟩:=List.getElem_of_mem hp
    exact (h2 i hi).2.2.1
  · obtain ⟨i,hi,rfl⟩:=List.getElem_of_mem hp
    exact (h2 i hi).2.2.2
end
end Go.Proofs.YtnoehodmmkioaaaGreatDoor.SndW
namespace Go.Proofs.YtnoehodmmkioaaaGreatDoor
open Go.ChangeShapes Go.WideShapes Go.ChangeAt Go.RowKit
def laidL:List (String×DataW Unit):=[("math/bits.deBruijn32tab",Rows.laid_math_bits_deBruijn32tab),("math/bits.deBruijn64tab",Rows.laid_math_bits_deBruijn64tab),("internal/strconv.uint64pow10",Rows.laid_internal_strconv_uint64pow10),("unicode/utf8.acceptRanges",Rows.laid_unicode_utf8_acceptRanges),("strconv.ErrRange",Rows.laid_strconv_ErrRange),("strconv.ErrSyntax",Rows.laid_strconv_ErrSyntax),("unicode/utf8.first",Rows.laid_unicode_utf8_first)]
theorem laid_plain:∀ W,laidMetH Tryz.prog laidL W=laidMet Tryz.prog laidL W:=fun W=>MakeChecks.laidMetH_plain _ _ _ (by kernel_rfl)
theorem tab_of {W:World} (h:laidMetH Tryz.prog laidL W):SegW.Tab W:=by
 rw [laid_plain] at h
 obtain ⟨ps,hL,_,_⟩:=h
 obtain ⟨g1,t1,c1,f1,p1,q1,_,_,_,_,hL,_⟩:=hL
 obtain ⟨g2,t2,c2,f2,p2,q2,_,_,_,_,hL,_⟩:=hL
 obtain ⟨g3,t3,c3,f3,p3,q3,hg3,ht3,hv3,hd3,hL,_⟩:=hL
 obtain rfl:=Option.some.inj ((show Tryz.prog.globalNamed "internal/strconv.uint64pow10"=some 1 by kernel_rfl).symm.trans hg3)
 obtain rfl:=Option.some.inj ((show (Tryz.prog.globals[1]?).map (·.type)=some 376 by kernel_rfl).symm.trans ht3)
 show Lib.TabIs Tryz.prog W "internal/strconv.uint64pow10" .u64 Lib.pow10Tab
 unfold Lib.TabIs
 rw [hv3,← Lib.cells_of_tab Tryz.underlying376 Tryz.underlying325 (by kernel_rfl) (by kernel_rfl) (show DataW.trod (fun _=>()) Tryz.prog W 0 (fun _=>true) false f3 376 c3.toList=some (Lib.tabData .u64 Lib.pow10Tab,p3) from hd3)]
section
variable {H:Type} {enc:TypeId×Value→H}
theorem returns_laid {a:Assume} {os:Os} {f:FuncId} {fn:Func} {s:ChangeSpec} {conds:List PathCond} {apart fresh handsOn again:Bool}
 (started:os.Started) (noInit:Tryz.prog.inits.idxOf? f=none) (hfn:Tryz.prog.funcs[f]?=some fn)
 (witness:∃ (w:World) (tape:Tape) (i:Input),w.os=os∧(w.forCall tape i).Shaped Tryz.prog∧i.vars=[]∧Input.okWide Tryz.prog (w.forCall tape i) .any w.heap.size f i ∧
  ((s.pre enc Tryz.prog fn conds apart (w.forCall tape i).memory i.args∧laidMetH Tryz.prog laidL (w.forCall tape i).memory)∧sizedMet enc Tryz.prog fn (OpenSpec.ofChange s) apart (w.forCall tape i).memory i.args)∧a.holds Tryz.prog (lone (Frame.enter Tryz.prog f i.args .normal) [] (w.forCall tape i)))
 (contract:∀ (W:World) (base:Nat) (args:Array Value) (ds gs:List (DataW H)) (before:List MemPlace),
  (∀ (j:Nat) t v,fn.params[j]?=some t→args[j]?=some v→Value.okWide Tryz.prog W .any base t v) →
  DataW.Whole enc Tryz.prog fn.params.toList s.vars apart W args.toList ds gs before →
  (DataW.weightsEach Tryz.prog (fn.params.toList++s.plain.varTypes Tryz.prog) (ds++gs)).all (·≤reachBytes)=true→SegW.Tab W →
  Calls Tryz.prog f args W fun e W'=>∃ v,e=.returned v∧s.post enc Tryz.prog fn apart fresh handsOn again W args v W') :
 ReturnsInHanded a Tryz.checked os f .any (fun w args=>(s.pre enc Tryz.prog fn conds apart w args∧laidMetH Tryz.prog laidL w)∧sizedMet enc Tryz.prog fn (OpenSpec.ofChange s) apart w args) (s.post enc Tryz.prog fn apart fresh handsOn again):=by
 refine returnsInHanded_of_calls (C:=Tryz.checked) own started noInit witness ?_
 intro w tape i _ hsh _ hok hpre hholds
 obtain ⟨_,_,_,fn',hfn',_,_,_,_,hval⟩:=hok
 have e:fn'=fn:=Option.some.inj (hfn'.symm.trans hfn)
 subst e
 obtain ⟨⟨⟨ds,gs,before,hw,hc⟩,hx⟩,hz⟩:=hpre
 have hw':=DataW.Whole.of_heap (w':=w.forCall tape i) (by rfl) hw
 have hx':laidMetH Tryz.prog laidL (w.forCall tape i):=hx.of_heap (by rfl)
 refine (contract (w.forCall tape i) w.heap.size i.args ds gs before hval hw' (hz.weights hw) (tab_of hx')).mono fun e W' ⟨v,he,hp⟩=>?_
 subst he
 exact ChangeSpec.post_blind hp
end
theorem laid_met (os:Os) (args:Array Value):laidMetH Tryz.prog laidL ((World.laidAll Tryz.prog os laidL).forCall (fun _ _=>0) ⟨#[],args,[]⟩).memory:=by
 rw [laid_plain]
 exact laidMet_laidAll _ (by kernel_rfl) (by kernel_rfl)
theorem laid_shaped (os:Os) (args:Array Value):((World.laidAll Tryz.prog os laidL).forCall (fun _ _=>0) ⟨#[],args,[]⟩).Shaped Tryz.prog:=World.shaped_of_ZipB (by kernel_rfl) (by kernel_rfl)
end Go.Proofs.YtnoehodmmkioaaaGreatDoor
