/- disk: bytes laid over others (laid): rows of bytes with room behind them. And what follows. -/
import Derived.Test.YtnoehodmmkioaaaGreatDoorF01
import Derived.Lib.AppendZerosOnto
import Derived.Lib.LazyBuf
import Derived.Maps.AppendAt
import Derived.LaidEqlPtr
set_option maxHeartbeats 25600000
set_option maxRecDepth 100000
set_option linter.unusedVariables false
set_option linter.unusedSimpArgs false
namespace Go.Proofs.YtnoehodmmkioaaaGreatDoor.DskW
open Go.RowKit Go.MapKept OctMath
structure RowC (g:Nat) (l:List UInt8) (c:Nat) (w:World):Prop where
 row:Row g l w
 le:l.length≤c
 there:∀ j,j < c→(w.cell? ⟨g,j,none⟩).isSome=true
 free:∀ j,j < c→w.frozen? ⟨g,j,none⟩=false
def put1 (l:List UInt8) (o:Nat) (v:UInt8):List UInt8:=if o < l.length then l.set o v else l++[v]
def overB (l:List UInt8) (o:Nat) (vs:List UInt8):List UInt8:=l.take o++vs++l.drop (o+vs.length)
theorem put1_over (l:List UInt8) (o:Nat) (v:UInt8) (h:o≤l.length):put1 l o v=overB l o [v]:=by
 unfold put1 overB
 split
 · rename_i hl
   rw [List.set_eq_take_append_cons_drop,if_pos hl]; simp
 · have:o=l.length:=by omega
   subst this; simp
theorem over_cons (l:List UInt8) (o:Nat) (v:UInt8) (vs:List UInt8) (h:o≤l.length):overB (overB l o [v]) (o+1) vs=overB l o (v :: vs):=by
 unfold overB
 have h1:(l.take o++[v]++l.drop (o+[v].length)).take (o+1)=l.take o++[v]:=by
  rw [List.take_append_of_le_length (by simp; omega)]
  rw [List.take_of_length_le (by simp; omega)]
 have h2:(l.take o++[v]++l.drop (o+[v].length)).drop (o+1+vs.length)=l.drop (o+(v :: vs).length):=by
  rw [List.drop_append,List.drop_of_length_le (by simp; omega)]
  simp only [List.length_append,List.length_take,List.length_cons,List.length_nil,List.drop_drop,List.nil_append]
  congr 1; omega
 rw [h1,h2]; simp
theorem over_nil (l:List UInt8) (o:Nat):overB l o []=l:=by unfold overB; simp
theorem over_length (l:List UInt8) (o:Nat) (vs:List UInt8) (h:o≤l.length):(overB l o vs).length=max l.length (o+vs.length):=by
 unfold overB; simp only [List.length_append,List.length_take,List.length_drop]; omega
theorem RowC.put {g:Nat} {l:List UInt8} {c:Nat} {w:World} (h:RowC g l c w) (o:Nat) (ho:o≤l.length) (hc:o < c) (v:UInt8):RowC g (put1 l o v) c (w.setCell ⟨g,o,none⟩ (.int .u8 (v.toNat:Int))):=by
 have hsome:∀ j,j < c→((w.setCell ⟨g,o,none⟩ (.int .u8 (v.toNat:Int))).cell? ⟨g,j,none⟩).isSome=true:=fun j hj=>by
  by_cases e:o=j
  · subst e
    obtain ⟨u,hu⟩:=Option.isSome_iff_exists.1 (h.there o hj)
    rw [World.cell?_setCell_same _ _ _ hu]; rfl
  · rw [World.cell?_setCell_other _ _ _ _ (fun q=>e (congrArg Addr.off q))]; exact h.there j hj
 have hfree:∀ j,j < c→(w.setCell ⟨g,o,none⟩ (.int .u8 (v.toNat:Int))).frozen? ⟨g,j,none⟩=false:=fun j hj=>by rw [World.frozen?_setCell]; exact h.free j hj
 unfold put1
 split
 · rename_i hl
   exact ⟨h.row.set o hl v,by simpa using h.le,hsome,hfree⟩
 ·
  have he:o=l.length:=by omega
  subst he
  refine ⟨⟨by simpa using h.row.lt,fun j hj=>?_,fun j hj=>?_⟩,by simp; omega,hsome,hfree⟩
  ·
   by_cases e:j < l.length
   · rw [World.cell?_setCell_other _ _ _ _ (fun q=>by have:=congrArg Addr.off q; simp at this; omega),List.getElem_append_left e]; exact h.row.cell j e
   · have hje:j=l.length:=by simp at hj; omega
     subst hje
     obtain ⟨u,hu⟩:=Option.isSome_iff_exists.1 (h.there _ hc)
     rw [World.cell?_setCell_same _ _ _ hu]; simp
  · rw [World.frozen?_setCell]; exact h.free j (by simp at hj; omega)
theorem RowC.puts {g c:Nat}:∀ (vs:List UInt8) (l:List UInt8) (o:Nat) (w:World),RowC g l c w→o≤l.length→o+vs.length≤c →
 RowC g (overB l o vs) c (w.setCells g o (vs.map fun x=>Value.int .u8 (x.toNat:Int)))∧Mod (fun k=>k=g) w (w.setCells g o (vs.map fun x=>Value.int .u8 (x.toNat:Int)))
 | [],l,o,w,h,_,_=>by rw [over_nil]; exact ⟨h,Mod.refl _ _⟩
 | v :: vs,l,o,w,h,ho,hc=>by
   simp only [List.length_cons] at hc
   have h1:=h.put o ho (by omega) v
   rw [put1_over l o v ho] at h1
   obtain ⟨h2,h3⟩:=RowC.puts vs _ (o+1) _ h1 (by rw [over_length _ _ _ ho]; simp only [List.length_cons,List.length_nil]; omega) (by omega)
   rw [over_cons l o v vs ho] at h2
   exact ⟨h2,(mod_set w g o _).trans h3⟩
theorem conv_bytes {P:Program} (w:World) (src dst e:TypeId) (l:List UInt8) (hs:P.underlying src=some .string) (hd:P.underlying dst=some (.slice e)) (he:P.underlying e=some (.int .u8)) :
 ∃ c w',(convert src dst (.string (S l))).run P w=.ok (.slice (some ⟨w.heap.size,0,none⟩) l.length c) w'∧Below w.heap.size w w'∧RowC w.heap.size l c w':=by
 have hsz:(S l).size=l.length:=S_size l
 have hC:(Lib.bytesCells w e (S l)).size=grownCap w (S l).size 0 e:=by
  have:=grownCap_ge w (S l).size 0 e
  unfold Lib.bytesCells; rw [Array.size_append,Array.size_map,Array.size_replicate]
  have h2:(S l).data.size=(S l).size:=rfl
  omega
 have hge:=grownCap_ge w (S l).size 0 e
 have hcell:∀ j,j < grownCap w (S l).size 0 e→((Lib.bytesWorld w e (S l)).cell? ⟨w.heap.size,j,none⟩).isSome=true:=fun j hj=>by
  unfold World.cell?
  rw [show (Lib.bytesWorld w e (S l)).heap[(⟨w.heap.size,j,none⟩:Addr).block]?=_ from Lib.bytesWorld_at_new w e (S l)]
  simp [hC,hj]
 have hfree:∀ j,j < grownCap w (S l).size 0 e→(Lib.bytesWorld w e (S l)).frozen? ⟨w.heap.size,j,none⟩=false:=fun j hj=>by
  unfold World.frozen?
  rw [show (Lib.bytesWorld w e (S l)).heap[(⟨w.heap.size,j,none⟩:Addr).block]?=_ from Lib.bytesWorld_at_new w e (S l)]
  simp [hC]; omega
 refine ⟨grownCap w (S l).size 0 e,Lib.bytesWorld w e (S l),by rw [Lib.run_convert_string_bytes w src dst e (S l) hs hd he,hsz],⟨?_,?_,?_,?_,?_⟩,⟨⟨by rw [Lib.bytesWorld_size]; omega,fun j hj=>?_,fun j hj=>hfree j (by omega)⟩,by omega,hcell,hfree⟩⟩
 iterate 3
  · simp [Lib.bytesWorld,World.freeze,World.alloc,World.drew,-World.alloc_eq,-World.drew_eq]
 · rw [Lib.bytesWorld_size]; omega
 · intro k hk; exact Lib.bytesWorld_at_old w e (S l) k hk
 · rw [Lib.bytesWorld_cell w e (S l) j (by omega)]
   have:(S l).data.toList=l:=by simp [S]
   rw [this]; simp [List.getD,hj]
theorem append_zeros {P:Program} (w:World) (t tn ty e:TypeId) (i:TypeInfo) (ht:P.underlying t=some (.slice e)) (htn:P.underlying tn=some (.int .i64)) (hi:P.info? e=some i) (hz:i.zero=some (.int .u8 0)) (h1:i.size=1) (hb:i.bytes=1)
 {g:Nat} {l:List UInt8} {c:Nat} (h:RowC g l c w) (k:Nat) (hk:0 < k) (hlim:l.length+k≤70368744177664) :
 ∃ g' c' w',(Builtin.append_ #[t,tn] ty #[.slice (some ⟨g,0,none⟩) l.length c,.int .i64 (k:Int)]).run P w=.ok (.slice (some ⟨g',0,none⟩) (l.length+k) c') w'∧RowC g' (l++List.replicate k 0) c' w'∧Mod (fun b=>b=g) w w'∧(g'=g∨w.heap.size≤g'):=by
 by_cases hroom:l.length+k≤c
 ·
  obtain ⟨hr,hm⟩:=h.puts (List.replicate k 0) l l.length w (Nat.le_refl _) (by simpa using hroom)
  have hov:overB l l.length (List.replicate k 0)=l++List.replicate k 0:=by unfold overB; simp
  rw [hov] at hr
  have hrep:(List.replicate k (0:UInt8)).map (fun x=>Value.int .u8 (x.toNat:Int))=List.replicate k (.int .u8 0):=by simp
  rw [hrep] at hr hm
  refine ⟨g,c,_,?_,hr,hm,.inl rfl⟩
  have hw:IntKind.i64.wrap (k:Int)=k:=by rw [IntKind.wrap_i64]; omega
  have hneg:¬ ((k:Int) < 0):=by omega
  have h48:¬ (281474976710656 < (k:Int)):=by omega
  have hk0:k≠0:=by omega
  have hst:=run_storeCells_cells (P:=P) g l.length (List.replicate k (.int .u8 0)) 0 w (fun j hj=>h.there _ (by simp at hj; omega)) (fun j hj=>h.free _ (by simp at hj; omega)) (fun v hv=>by rw [List.eq_of_mem_replicate hv]; rfl)
  simp only [Nat.add_zero] at hst
  have hzc:Builtin.zeroCells #[.int .u8 0] k=(List.replicate k (Value.int .u8 0)).toArray:=by
   apply Array.ext'
   simp only [Builtin.zeroCells,Array.toList_map,Array.toList_range]
   apply List.ext_getElem?
   intro j
   simp only [List.getElem?_map,List.getElem?_replicate]
   by_cases hj:j < k
   · simp [hj,Nat.mod_one]
   · simp [hj]
  have hcl:(Value.int .u8 0).cells=#[.int .u8 0]:=rfl
  have hadd:(⟨g,0,none⟩:Addr).add l.length=⟨g,l.length,none⟩:=by unfold Addr.add; split <;> simp_all
  simp [Builtin.append_,run_underlying ht,run_underlying htn,sizeOf,typeInfo,zeroValue,hi,hz,asInt,asIntOf,hw,hneg,h1,hb,h48,hk0,hroom,Result.andThen,hcl,hzc,hadd,hst]
 ·
  have hlim2:l.length+k≤maxLen:=by unfold maxLen; omega
  have hcl:(Value.int .u8 0).cells=#[.int .u8 0]:=rfl
  have hloads:∀ (j:Nat) (u:Value),(l.map fun x=>Value.int .u8 (x.toNat:Int))[j]?=some u→w.drew.cell? ((⟨g,0,none⟩:Addr).add j)=some u:=by
   intro j u hu
   rw [List.getElem?_map] at hu
   have hj:j < l.length:=by
    rcases Nat.lt_or_ge j l.length with h | h
    · exact h
    · rw [List.getElem?_eq_none h] at hu; cases hu
   rw [List.getElem?_eq_getElem hj] at hu
   have hadd:(⟨g,0,none⟩:Addr).add j=⟨g,j,none⟩:=by unfold Addr.add; split <;> simp_all
   rw [hadd]
   have:=h.row.cell j hj
   cases hu; exact this
  have hold:(Builtin.firstCells i.size l.length (.slice (some ⟨g,0,none⟩) l.length c)).run P w.drew=.ok (l.map fun x=>Value.int .u8 (x.toNat:Int)).toArray w.drew:=by
   have:=run_loadCells_list (P:=P) w.drew ⟨g,0,none⟩ (l.map fun x=>Value.int .u8 (x.toNat:Int)) hloads
   rw [List.length_map] at this
   simp only [Builtin.firstCells,h1,Nat.mul_one]
   exact this
  have hfit:Builtin.nextslicecap (l.length+k) c * i.bytes≤281474976710656:=growslice_fits (by omega) (by rw [hb]; omega)
  have hrun:=Lib.run_append_grow_zeros (P:=P) w t tn ty e i (.int .u8 0) .i64 .i64 ht htn hi hz (some ⟨g,0,none⟩) l.length c _ hold k hk (by omega) (by omega) (by omega) (by rw [hb]; omega) hfit
  have hge:=grownCap_ge w (l.length+k) c e
  rw [hcl] at hrun
  have hzs:∀ n,Builtin.zeroCells #[.int .u8 0] n=Array.replicate n (Value.int .u8 0):=by
   intro n
   apply Array.ext'
   simp only [Builtin.zeroCells,Array.toList_map,Array.toList_range,Array.toList_replicate]
   apply List.ext_getElem?
   intro j
   simp only [List.getElem?_map,List.getElem?_replicate]
   by_cases hj:j < n
   · simp [hj,Nat.mod_one]
   · simp [hj]
  rw [hzs,hzs] at hrun
  have hAs:((l.map fun x=>Value.int .u8 (x.toNat:Int)).toArray++Array.replicate k (Value.int .u8 0)++Array.replicate (grownCap w (l.length+k) c e - (l.length+k)) (Value.int .u8 0)).size=grownCap w (l.length+k) c e:=by simp; omega
  have hAj:∀ (j:Nat) (hj:j < (l++List.replicate k 0).length),((l.map fun x=>Value.int .u8 (x.toNat:Int)).toArray++Array.replicate k (Value.int .u8 0)++Array.replicate (grownCap w (l.length+k) c e - (l.length+k)) (Value.int .u8 0))[j]?=some (.int .u8 ((l++List.replicate k 0)[j].toNat:Int)):=by
   intro j hj
   have hj2:=hj
   simp only [List.length_append,List.length_replicate] at hj2
   by_cases hl:j < l.length
   · rw [Array.getElem?_append_left (by simp; omega),Array.getElem?_append_left (by simp; omega),List.getElem_append_left hl]
     simp [hl]
   · rw [Array.getElem?_append_left (by simp; omega),Array.getElem?_append_right (by simp; omega),List.getElem_append_right (by omega)]
     simp only [List.size_toArray,List.length_map,List.getElem_replicate,Array.getElem?_replicate]
     rw [if_pos (by omega)]; rfl
  generalize (l.map fun x=>Value.int .u8 (x.toNat:Int)).toArray++Array.replicate k (Value.int .u8 0)++Array.replicate (grownCap w (l.length+k) c e - (l.length+k)) (Value.int .u8 0)=A at *
  refine ⟨_,_,_,hrun,?_,⟨rfl,rfl,rfl,by simp,fun b hb _=>(by first | exact heap_alloc_old w.drew _ hb | exact heap_alloc_old w.drew _ _ hb)⟩,.inr (Nat.le_refl _)⟩
  have hat:(w.drew.alloc (.cells A e)).heap[w.heap.size]?=some (.cells A e):=heap_alloc_new w.drew _
  have hcells:∀ j,(w.drew.alloc (.cells A e)).cell? ⟨w.heap.size,j,none⟩=A[j]?:=fun j=>by
   unfold World.cell?
   rw [show (w.drew.alloc (.cells A e)).heap[(⟨w.heap.size,j,none⟩:Addr).block]?=_ from hat]; rfl
  have hfree:∀ j,(w.drew.alloc (.cells A e)).frozen? ⟨w.heap.size,j,none⟩=false:=fun j=>by
   unfold World.frozen?
   rw [show (w.drew.alloc (.cells A e)).heap[(⟨w.heap.size,j,none⟩:Addr).block]?=_ from hat]
   simp
  refine ⟨⟨by simp,fun j hj=>by rw [hcells]; exact hAj j hj,fun j _=>hfree j⟩,by simp; omega,fun j hj=>?_,fun j _=>hfree j⟩
  rw [hcells,Array.getElem?_eq_getElem (by omega)]; rfl
def laidL (s:List UInt8) (o:Nat) (t:List UInt8):List UInt8:=if t=[] then s else overB (s++List.replicate (o+t.length - s.length) 0) o t
theorem copy_over {P:Program} (dT sT ty e:TypeId) (hu:P.underlying dT=some (.slice e)) (hz:∀ w,(Go.sizeOf e).run P w=.ok 1 w) {g:Nat} {l:List UInt8} {c:Nat} {w:World} (h:RowC g l c w) (o:Nat) (t:List UInt8) (ho:o≤l.length) (hc:o+t.length≤c) (dl dc:Nat) (hdl:t.length≤dl) :
 (Builtin.copy_ #[dT,sT] ty #[.slice (some ⟨g,o,none⟩) dl dc,.string (S t)]).run P w=.ok (goInt (S t).size) (w.setCells g o (t.map fun x=>Value.int .u8 (x.toNat:Int))):=by
 have hl:(S t).data.toList=t:=by simp [S]
 have hs:(S t).size=t.length:=S_size t
 have:=Go.run_copy_string (P:=P) w dT sT ty e g o dl dc (S t) hu hz (by omega) (fun j hj=>h.there _ (by omega)) (fun j hj=>h.free _ (by omega))
 rw [hl] at this
 exact this
theorem S_toList (l:List UInt8):(S l).toList=l:=by rw [ByteArray.toList_eq,S_list]
theorem laid_any (s:List UInt8) (o:Nat) (t:List UInt8) (hs:s.length≤1099511627776) (ho:o≤1099511627776) (ht:t.length≤1099511627776) (w:World) :
 Calls Tryz.prog 186 #[.string (S s),.int .i64 (o:Int),.string (S t)] w fun e w'=>e=.returned (.string (S (laidL s o t)))∧Below w.heap.size w w':=by
 have hsz:=S_size
 have htl:=S_toList
 by_cases h0:t=[]
 ·
  subst h0
  have hl:Hid (laidL s o []=s):=if_pos rfl
  go_enter Tryz.func186,Tryz.ntmps186
  go_wp2_with fail
  go_ret
  rw [hl.out]
  exact ⟨rfl,Below.refl _ _⟩
 have HL:Hid (laidL s o t=overB (s++List.replicate (o+t.length - s.length) 0) o t):=if_neg h0
 have hte:t.isEmpty=false:=by cases t with
  | nil=>exact absurd rfl h0
  | cons _ _=>rfl
 have htp:0 < t.length:=List.length_pos_iff.2 h0
 obtain ⟨c,w1,hconv,hb1,hr1⟩:=conv_bytes (P:=Tryz.prog) w 9 218 5 s Tryz.underlying9 Tryz.underlying218 Tryz.underlying5
 have HR1:=Lib.hid hr1
 have HB1:=Lib.hid hb1
 clear hr1 hb1 h0
 go_enter Tryz.func186,Tryz.ntmps186
 go_upto_region 5 with fail
 clear hconv
 generalize hgw:w.heap.size=g at *
 have HGW:Hid (w.heap.size=g):=hgw
 clear hgw
 obtain ⟨i0,hi0,hz0,hz1,hz2⟩:∃ i,Tryz.prog.info? 5=some i∧i.zero=some (.int .u8 0)∧i.size=1∧i.bytes=1:=by
  have:=(show (Tryz.prog.info? 5).map (fun i=>(i.zero,i.size,i.bytes))=some (some (.int .u8 0),1,1) by kernel_rfl)
  cases hh:Tryz.prog.info? 5 with
  | none=>rw [hh] at this; cases this
  | some i=>rw [hh] at this; have h2:=Option.some.inj this; exact ⟨i,rfl,congrArg (·.1) h2,congrArg (·.2.1) h2,congrArg (·.2.2) h2⟩
 have HSZ:Hid (∀ w,(Go.sizeOf 5).run Tryz.prog w=.ok 1 w):=fun w=>by simp [sizeOf,typeInfo,hi0,hz1]
 by_cases hgr:s.length < o+t.length
 ·
  have hkk:(o:Int)+(t.length:Int) - (s.length:Int)=((o+t.length - s.length:Nat):Int):=by omega
  obtain ⟨g2,c2,w2,hap,hr2,hm2,hg2⟩:=append_zeros (P:=Tryz.prog) w1 218 3 218 5 i0 Tryz.underlying218 Tryz.underlying3 hi0 hz0 hz1 hz2 HR1.out (o+t.length - s.length) (by omega) (by omega)
  rw [hkk]
  have hln:s.length+(o+t.length - s.length)=o+t.length:=by omega
  rw [hln] at hap
  have HAP:=Lib.hid hap
  have HR2:=Lib.hid hr2
  have HM2:=Lib.hid hm2
  have HG2:=Lib.hid hg2
  clear hap hr2 hm2 hg2 hkk hln hi0 hz0 hz1 hz2
  have hk0:0 < o+t.length - s.length:=by omega
  have hco:¬ c2=o:=by have:=HR2.out.le; simp only [List.length_append,List.length_replicate] at this; omega
  have hlen:(s++List.replicate (o+t.length - s.length) (0:UInt8)).length=o+t.length:=by simp; omega
  have hcp:=copy_over (P:=Tryz.prog) 218 9 3 5 Tryz.underlying218 HSZ.out HR2.out o t (by omega) (by have:=HR2.out.le; omega) t.length (c2 - o) (Nat.le_refl _)
  obtain ⟨hr3,hm3⟩:=HR2.out.puts t _ o _ (by omega) (by have:=HR2.out.le; omega)
  have HR3:=Lib.hid hr3
  have HM3:=Lib.hid hm3
  have HCP:=Lib.hid hcp
  clear hr3 hm3 hcp
  generalize o+t.length - s.length=k at *
  generalize hw3:w2.setCells g2 o (t.map fun x=>Value.int .u8 (x.toNat:Int))=w3 at *
  have hcv:(convert 218 9 (.slice (some ⟨g2,0,none⟩) (o+t.length) c2)).run Tryz.prog w3=.ok (.string ⟨(overB (s++List.replicate k 0) o t).toArray⟩) w3 :=
   row_string HR3.out.row 218 5 9 Tryz.underlying218 Tryz.underlying5 Tryz.underlying9 c2 (o+t.length) (by rw [over_length _ _ _ (by omega)]; omega)
  go_wp2_with (at_builtin; refine Lib.wpList_append_run _ rfl (.tmp 23) (.tmp 24) 218 3 rfl _ _ rfl rfl _ _ HAP.out ?_)
  rw [HCP.out]
  go_wp2_with fail
  go_ret
  rw [HL.out]
  have h2:=HM2.out.to_below g (by have:=HB1.out.size; have:=HR1.out.row.lt; omega) (fun k hk=>by omega)
  have h3:=HM3.out.to_below g (by have:=h2.size; have:=HR1.out.row.lt; omega) (fun k hk=>by have:=HG2.out; have:=HR1.out.row.lt; omega)
  rw [HGW.out]
  exact ⟨rfl,(HB1.out.trans h2).trans h3⟩
 ·
  have hk0:o+t.length - s.length=0:=by omega
  rw [hk0,List.replicate_zero,List.append_nil] at HL
  have hng:¬ (0 < (o:Int)+(t.length:Int) - (s.length:Int)):=by omega
  have hco:¬ c=o:=by have:=HR1.out.le; omega
  have hcp:=copy_over (P:=Tryz.prog) 218 9 3 5 Tryz.underlying218 HSZ.out HR1.out o t (by omega) (by have:=HR1.out.le; omega) (s.length - o) (c - o) (by omega)
  obtain ⟨hr3,hm3⟩:=HR1.out.puts t _ o _ (by omega) (by have:=HR1.out.le; omega)
  have HR3:=Lib.hid hr3
  have HM3:=Lib.hid hm3
  have HCP:=Lib.hid hcp
  clear hr3 hm3 hcp hi0 hz0 hz1 hz2
  generalize hw3:w1.setCells g o (t.map fun x=>Value.int .u8 (x.toNat:Int))=w3 at *
  have hcv:(convert 218 9 (.slice (some ⟨g,0,none⟩) s.length c)).run Tryz.prog w3=.ok (.string ⟨(overB s o t).toArray⟩) w3 :=
   row_string HR3.out.row 218 5 9 Tryz.underlying218 Tryz.underlying5 Tryz.underlying9 c s.length (by rw [over_length _ _ _ (by omega)]; omega)
  have hos:o≤s.length:=by omega
  go_wp2_with fail
  rw [HCP.out]
  go_wp2_with fail
  go_ret
  rw [HL.out]
  have h3:=HM3.out.to_below g (by have:=HR1.out.row.lt; omega) (fun k hk=>by omega)
  rw [HGW.out]
  exact ⟨rfl,HB1.out.trans h3⟩
open Go.ChangeMaps
theorem find_none {D:DiskD} {n:List UInt8} (h:D.find n=none):∀ p∈D.files,p.1≠n:=by
 unfold DiskD.find at h
 rw [Option.map_eq_none_iff,List.find?_eq_none] at h
 intro p hp e
 exact h p hp (by simp [e])
theorem find_some {D:DiskD} {n:List UInt8} {f:FileD} (h:D.find n=some f):(n,f)∈D.files:=by
 unfold DiskD.find at h
 cases hf:D.files.find? (fun p=>p.1 == n) with
 | none=>rw [hf] at h; cases h
 | some p =>
   rw [hf] at h
   have h1:=List.mem_of_find?_eq_some hf
   have h2:=List.find?_some hf
   have h3:p.2=f:=Option.some.inj h
   have h4:p.1=n:=by simpa using h2
   rw [← h3,← h4]; exact h1
theorem insert_file {base:Nat} {w:World} {D:DiskD} (h:DiskAt base w D) (n:List UInt8) (hn:D.find n=none) (b:Nat) (hb:w.heap[b]?=some (.cells #[.string (S []),.string (S [])] 87 (0,0))) (hfo:¬ D.foot b) (hba:base≤b) :
 ∃ w',(Instr.mapUpdate 75 (.map (some D.mB)) (.string (S n)) (.pointer (some ⟨b,0,none⟩))).run Tryz.prog w=.ok () w'∧DiskAt base w' { D with files:=D.files++[(n,⟨b,[],[]⟩)] }∧Mod (fun k=>k=D.mB) w w':=by
 obtain ⟨es,c,hm,hst,hmap⟩:=h.map
 have hu:=Tryz.underlying75
 have hd:=Tryz.underlying9
 have hks:∀ x∈es.toList,IsKey .string x.key:=fun x hx=>by
  obtain ⟨p,_,hk,_⟩:=entry_file hmap hx
  rw [hk]; trivial
 have hk:IsKey .string (.string (S n)):=trivial
 have hne:∀ x∈es.toList,x.key≠.string (S n):=fun x hx e=>by
  obtain ⟨p,hp,hk,_⟩:=entry_file hmap hx
  rw [hk] at e
  exact find_none hn p hp (S_inj (by cases e; rfl))
 rcases findNow_spec hk es.toList 0 hks with ⟨h1,h2⟩ | ⟨j,e,h1,h2,h3⟩
 ·
  have hlt:D.mB < w.heap.size:=(Array.getElem?_eq_some_iff.1 hm).1
  have hrun:(Instr.mapUpdate 75 (.map (some D.mB)) (.string (S n)) (.pointer (some ⟨b,0,none⟩))).run Tryz.prog w=.ok () { w with heap:=w.heap.setIfInBounds D.mB (.map (es.push ⟨.string (S n),.pointer (some ⟨b,0,none⟩),c⟩) (c+1)) }:=by
   simp [Instr.mapUpdate,run_underlying hu,Go.MapKept.run_getObj_map hm,Go.MapKept.run_checkKey hd hk,Go.MapKept.run_findKey hd h1,Go.MapKept.run_setObj_map _ hm,Result.andThen]
  have hmod:Mod (fun k=>k=D.mB) w { w with heap:=w.heap.setIfInBounds D.mB (.map (es.push ⟨.string (S n),.pointer (some ⟨b,0,none⟩),c⟩) (c+1)) }:=⟨rfl,rfl,rfl,by simp,fun k _ hk=>by
   show (w.heap.setIfInBounds D.mB _)[k]?=_
   exact Array.getElem?_setIfInBounds_ne (fun e=>hk e.symm)⟩
  refine ⟨_,hrun,?_,hmod⟩
  have key:∀ k,k < w.heap.size→k≠D.mB→(w.heap.setIfInBounds D.mB (Obj.map (es.push ⟨.string (S n),.pointer (some ⟨b,0,none⟩),c⟩) (c+1)))[k]?=w.heap[k]?:=fun k _ hk=>Array.getElem?_setIfInBounds_ne (fun e=>hk e.symm)
  have hblt:b < w.heap.size:=(Array.getElem?_eq_some_iff.1 hb).1
  have hbm:b≠D.mB:=fun e=>hfo (.inr (.inl e))
  have hbd:b≠D.blk:=fun e=>hfo (.inl e)
  have hbf:∀ p∈D.files,b≠p.2.blk:=fun p hp e=>hfo (.inr (.inr (.inl ⟨p,hp,e⟩)))
  have hbw:∀ k,D.wv.ownBlock=some k→k≠b:=fun k hk e=>hfo (.inr (.inr (.inr (e ▸ hk))))
  refine ⟨?_,⟨es.push ⟨.string (S n),.pointer (some ⟨b,0,none⟩),c⟩,c+1,?_,stamped_push hst h2,?_⟩,fun p hp=>?_,?_,?_,?_,?_,?_,h.ints,?_,fun x hx=>by obtain ⟨p,hp,e⟩:=h.waitf x hx; exact ⟨p,List.mem_append_left _ hp,e⟩⟩
  · exact (key _ (h.lt (.inl rfl)) h.apart.1).trans h.head
  · show (w.heap.setIfInBounds D.mB _)[D.mB]?=_
    simp [hlt]
  · rw [Array.toList_push,List.map_append,hmap,List.map_append]; rfl
  · rcases List.mem_append.1 hp with hp | hp
    · exact (key _ (h.lt (.inr (.inr (.inl ⟨p,hp,rfl⟩)))) (h.apart.2.1 p hp).2).trans (h.file p hp)
    · rw [List.mem_singleton] at hp; subst hp
      exact (key b hblt hbm).trans hb
  ·
   refine ⟨h.row.1,?_⟩
   rcases h.row.2 with h0 | ⟨g,cap,cur,e,hbs,hg,r⟩
   · exact .inl h0
   · have hown:D.wv.ownBlock=some g:=by rw [e]; rfl
     exact .inr ⟨g,cap,cur,e,hbs,(key g (h.lt (.inr (.inr (.inr hown)))) (h.apart.2.2 g hown).2.1).trans hg,r⟩
  ·
   show ((D.files++[(n,(⟨b,[],[]⟩:FileD))]).map (·.1)).Nodup
   rw [List.map_append,List.nodup_append]
   refine ⟨h.names,by simp,fun a ha c hc e=>?_⟩
   simp only [List.map_cons,List.map_nil,List.mem_singleton] at hc
   subst hc; subst e
   obtain ⟨p,hp,hpe⟩:=List.mem_map.1 ha
   exact find_none hn p hp hpe
  ·
   show ((D.files++[(n,(⟨b,[],[]⟩:FileD))]).map (·.2.blk)).Nodup
   rw [List.map_append,List.nodup_append]
   refine ⟨h.blocks,by simp,fun a ha c hc e=>?_⟩
   simp only [List.map_cons,List.map_nil,List.mem_singleton] at hc
   subst hc; subst e
   obtain ⟨p,hp,hpe⟩:=List.mem_map.1 ha
   exact hbf p hp hpe.symm
  ·
   refine ⟨h.apart.1,fun p hp=>?_,fun k hk=>⟨(h.apart.2.2 k hk).1,(h.apart.2.2 k hk).2.1,fun p hp=>?_⟩⟩
   · rcases List.mem_append.1 hp with hp | hp
     · exact h.apart.2.1 p hp
     · rw [List.mem_singleton] at hp; subst hp; exact ⟨hbd,hbm⟩
   · rcases List.mem_append.1 hp with hp | hp
     · exact (h.apart.2.2 k hk).2.2 p hp
     · rw [List.mem_singleton] at hp; subst hp; exact hbw k hk
  · refine ⟨h.above.1,h.above.2.1,fun p hp=>?_⟩
    rcases List.mem_append.1 hp with hp | hp
    · exact h.above.2.2 p hp
    · rw [List.mem_singleton] at hp; subst hp; exact hba
  · have:sizeL (D.files++[(n,(⟨b,[],[]⟩:FileD))])=sizeL D.files:=by unfold sizeL; simp
    show ((sizeL (D.files++[(n,(⟨b,[],[]⟩:FileD))]):Nat):Int)≤D.cap
    rw [this]; exact h.fits
 · exact absurd h3 (hne e (List.mem_of_getElem? h2))
def DiskD.createE (D:DiskD) (n:List UInt8):Int:=if D.down then 8 else if (D.find n).isSome then 10 else D.done
def DiskD.create (D:DiskD) (n:List UInt8) (b:Nat):DiskD:=if D.down=true∨(D.find n).isSome=true then D else if D.left=0 then D.burn else { D.burn with files:=D.files++[(n,⟨b,[],[]⟩)] }
theorem bars_nil (D:DiskD):D.bars []=if D.down then 8 else 0:=by unfold DiskD.bars; rfl
theorem burn_foot (D:DiskD):D.burn.foot=D.foot∧D.burn.blk=D.blk∧D.burn.mB=D.mB∧D.burn.files=D.files∧D.burn.wv=D.wv∧D.burn.waits=D.waits∧D.burn.cap=D.cap:=by
 unfold DiskD.burn
 split
 · exact ⟨rfl,rfl,rfl,rfl,rfl,rfl,rfl⟩
 · split
   iterate 2
    · exact ⟨rfl,rfl,rfl,rfl,rfl,rfl,rfl⟩
theorem burn_find (D:DiskD) (n:List UInt8):D.burn.find n=D.find n:=by unfold DiskD.find; rw [(burn_foot D).2.2.2.1]
theorem Mod.below_foot {D:DiskD} {w w':World} (h:Mod (fun k=>k=D.blk) w w'):Mod D.foot w w':=h.mono (fun k _ hk=>.inl hk)
theorem create_any {base:Nat} {D:DiskD} (n:List UInt8) (w:World) (h:DiskAt base w D) (hbase:base≤w.heap.size) :
 Calls Tryz.prog 125 #[.pointer (some ⟨D.blk,0,none⟩),.string (S n)] w fun e w'=>∃ b,w.heap.size≤b∧e=.returned (.int .i64 (D.createE n))∧DiskAt base w' (D.create n b)∧Mod D.foot w w':=by
 have HBA:=Lib.hid (bars_any none 0 [] (by simp) w h (fun i hi=>absurd hi (Nat.not_lt_zero _)))
 rw [bars_nil] at HBA
 have HE:Hid (D.createE n=if D.down then 8 else if (D.find n).isSome then 10 else D.done):=rfl
 have HC:Hid (∀ b,D.create n b=if D.down=true∨(D.find n).isSome=true then D else if D.left=0 then D.burn else { D.burn with files:=D.files++[(n,⟨b,[],[]⟩)] }):=fun _=>rfl
 have c2:w.cell? ⟨D.blk,2,none⟩=some (.map (some D.mB)):=h.cell 2 _ rfl
 have hlk:=lookup_file h n
 have HDN:=Lib.hid (done_any w h)
 have HD:=Lib.hid h
 clear h
 go_enter Tryz.func125,Tryz.ntmps125
 go_wp2_with fail
 refine HBA.out.mono ?_
 rintro e w1 ⟨rfl,rfl⟩
 clear HBA
 cases hdn:D.down with
 | true =>
   rw [hdn] at HE HC
   go_wp2_with fail
   go_ret
   exact ⟨w1.heap.size,Nat.le_refl _,by rw [HE.out]; rfl,by rw [HC.out,if_pos (by simp)]; exact HD.out,Mod.refl _ _⟩
 | false =>
   rw [hdn] at HE HC
   clear hdn
   cases hf:D.find n with
   | some f =>
     rw [hf] at HE HC hlk
     unfold fileV at hlk
     simp only [Option.map_some] at hlk
     clear hf
     go_wp2_with fail
     go_ret
     exact ⟨w1.heap.size,Nat.le_refl _,by rw [HE.out]; rfl,by rw [HC.out,if_pos (by simp)]; exact HD.out,Mod.refl _ _⟩
   | none =>
     have HF:=Lib.hid hf
     rw [hf] at HE HC hlk
     unfold fileV at hlk
     simp only [Option.map_none] at hlk
     clear hf
     go_wp2_with fail
     refine HDN.out.mono ?_
     rintro e w2 ⟨rfl,hd2,hm2⟩
     have HD2:=Lib.hid hd2
     have HM2:=Lib.hid hm2
     clear hd2 hm2 HDN c2 hlk
     by_cases h0:D.left=0
     · have hdone:D.done=8:=if_pos h0
       have HDO:=Lib.hid hdone
       rw [hdone]
       clear hdone
       go_wp2_with fail
       go_ret
       exact ⟨w1.heap.size,Nat.le_refl _,by rw [HE.out]; simp [HDO.out],by rw [HC.out,if_neg (by simp),if_pos h0]; exact HD2.out,Mod.below_foot HM2.out⟩
     ·
      have hdone:D.done=0:=if_neg h0
      have HDO:=Lib.hid hdone
      rw [hdone]
      clear hdone
      have c2:w2.cell? ⟨D.blk,2,none⟩=some (.map (some D.mB)):=by
       have:w2.cell? ⟨D.burn.blk,2,none⟩=some (.map (some D.burn.mB)):=HD2.out.cell 2 _ rfl
       rw [(burn_foot D).2.1,(burn_foot D).2.2.1] at this; exact this
      have hbl:Below w2.heap.size w2 (w2.alloc (.cells #[.string ⟨#[]⟩,.string ⟨#[]⟩] 87)):=(Below.refl _ _).alloc (Nat.le_refl _) _
      have hle:base≤w2.heap.size:=Nat.le_trans hbase HM2.out.size
      obtain ⟨w4,hins,hd4,hm4⟩:=insert_file (HD2.out.below hbl) n (by rw [burn_find]; exact HF.out) w2.heap.size (heap_alloc_new _ _) (fun hf=>by have:=HD2.out.lt hf; omega) hle
      rw [(burn_foot D).2.2.1] at hins hm4
      rw [(burn_foot D).2.2.2.1] at hd4
      have HD4:=Lib.hid hd4
      have HM4:Hid (Mod D.foot w1 w4):=((Mod.below_foot HM2.out).trans (Mod.of_below hbl)).trans (hm4.mono (fun k _ hk=>.inr (.inl hk)))
      have HSZ:Hid (w1.heap.size≤w2.heap.size):=HM2.out.size
      clear hd4 hm4 hbl hle
      go_wp2_with fail
      go_ret
      exact ⟨w2.heap.size,HSZ.out,by rw [HE.out]; simp [HDO.out],by rw [HC.out,if_neg (by simp),if_neg h0]; exact HD4.out,HM4.out⟩
def nowF (f:Option FileD):List UInt8:=match f with | some f=>f.now | none=>[]
def DiskD.bytes (D:DiskD) (n:List UInt8):List UInt8:=nowF (D.find n)
def DiskD.allT (D:DiskD) (n:List UInt8):List UInt8:=if D.bars [n]=0 then D.bytes n else []
theorem bars_one (D:DiskD) (n:List UInt8):D.bars [n]=if D.down then 8 else if (D.find n).isSome then 0 else 9:=by unfold DiskD.bars; simp
theorem DiskAt.now {base:Nat} {w:World} {D:DiskD} (h:DiskAt base w D) {n:List UInt8} {f:FileD} (hf:D.find n=some f):w.cell? ⟨f.blk,1,none⟩=some (.string (S f.now)):=by
 have:=h.file _ (find_some hf)
 unfold World.cell?; rw [show w.heap[(⟨f.blk,1,none⟩:Addr).block]?=_ from this]; rfl
theorem row_one (w:World) (n:List UInt8) (ty:TypeId):Row1 (w.alloc (.cells #[.string (S n)] ty)) (some ⟨w.heap.size,0,none⟩) ([n].map fun x=>.string (S x)):=by
 intro i hi
 have:i=0:=by simpa using hi
 subst this
 exact ⟨_,_,rfl,by rw [World.cell?_alloc_new]; rfl⟩
theorem all_any {base:Nat} {D:DiskD} (n:List UInt8) (w:World) (h:DiskAt base w D) :
 Calls Tryz.prog 177 #[.pointer (some ⟨D.blk,0,none⟩),.string (S n)] w fun e w'=>e=.returned (.tuple #[.string (S (D.allT n)),.int .i64 (D.bars [n])])∧Below w.heap.size w w':=by
 have HB:Hid (Below w.heap.size w (w.alloc (.cells #[.string (S n)] 9))):=(Below.refl _ _).alloc (Nat.le_refl _) _
 have hd:=h.below HB.out
 have HBA:=Lib.hid (bars_any (some ⟨w.heap.size,0,none⟩) 1 [n] (by simp) _ hd (row_one w n _))
 have hlk:=lookup_file hd n
 have c2:(w.alloc (.cells #[.string (S n)] 9)).cell? ⟨D.blk,2,none⟩=some (.map (some D.mB)):=hd.cell 2 _ rfl
 have HD:=Lib.hid hd
 have HT:Hid (D.allT n=if D.bars [n]=0 then D.bytes n else []):=rfl
 have HY:Hid (D.bytes n=nowF (D.find n)):=rfl
 rw [bars_one] at HBA HT
 have HO:=Lib.hid (bars_one D n)
 clear h hd
 go_enter Tryz.func177,Tryz.ntmps177
 go_wp2_with fail
 refine HBA.out.mono ?_
 rintro e w1 ⟨rfl,rfl⟩
 clear HBA
 cases hdn:D.down with
 | true =>
   rw [hdn] at HT HO
   go_wp2_with fail
   go_ret2
   rw [HT.out,HO.out]
   exact ⟨rfl,HB.out⟩
 | false =>
   rw [hdn] at HT HO
   clear hdn
   cases hf:D.find n with
   | none =>
     rw [hf] at HT HO
     go_wp2_with fail
     go_ret2
     rw [HT.out,HO.out]
     exact ⟨rfl,HB.out⟩
   | some f =>
     have hnow:=HD.out.now hf
     rw [hf] at HT HO hlk HY
     unfold fileV at hlk
     simp only [Option.map_some] at hlk
     clear hf
     go_wp2_with fail
     go_ret2
     rw [HT.out,HO.out,HY.out]
     exact ⟨rfl,HB.out⟩
def DiskD.readOk (D:DiskD) (nm:List UInt8) (o n:Int):Bool:=decide (0≤o) && decide (0≤n) && decide (o+n≤((D.bytes nm).length:Int))
def DiskD.readE (D:DiskD) (nm:List UInt8) (o n:Int):Int:=if D.bars [nm]=0 then (if D.readOk nm o n then 0 else 2) else D.bars [nm]
def DiskD.readT (D:DiskD) (nm:List UInt8) (o n:Int):List UInt8:=if D.bars [nm]=0∧D.readOk nm o n=true then ((D.bytes nm).drop o.toNat).take n.toNat else []
theorem sizeL_mem {l:List (List UInt8×FileD)} {p:List UInt8×FileD} (h:p∈l):p.2.now.length≤sizeL l:=by
 unfold sizeL
 induction l with
 | nil=>cases h
 | cons x l ih =>
   simp only [List.map_cons,List.sum_cons]
   rcases List.mem_cons.1 h with rfl | h
   · omega
   · have:=ih h; omega
theorem DiskAt.small {base:Nat} {w:World} {D:DiskD} (h:DiskAt base w D) (n:List UInt8):(D.bytes n).length≤16777216:=by
 unfold DiskD.bytes
 cases hf:D.find n with
 | none=>simp [nowF]
 | some f =>
   have h1:=sizeL_mem (find_some hf)
   have h2:=h.fits
   have h3:=h.ints.2.2.2
   have h4:D.size=sizeL D.files:=rfl
   show f.now.length≤_
   simp only at h1
   omega
theorem S_extract (l:List UInt8) (o n:Nat):(S l).extract o (o+n)=S ((l.drop o).take n):=by
 have h:((S l).extract o (o+n)).data.toList=(l.drop o).take n:=by simp [S,List.extract]
 have e:∀ a:ByteArray,a=S a.data.toList:=fun a=>by cases a; simp [S]
 rw [e ((S l).extract o (o+n)),h]
theorem read_any {base:Nat} {D:DiskD} (nm:List UInt8) (o n:Int) (ho : -9223372036854775808≤o∧o≤9223372036854775807) (hn : -9223372036854775808≤n∧n≤9223372036854775807) (w:World) (h:DiskAt base w D) :
 Calls Tryz.prog 138 #[.pointer (some ⟨D.blk,0,none⟩),.string (S nm),.int .i64 o,.int .i64 n] w fun e w'=>e=.returned (.tuple #[.string (S (D.readT nm o n)),.int .i64 (D.readE nm o n)])∧Below w.heap.size w w':=by
 have HA:=Lib.hid (all_any nm w h)
 have HE:Hid (D.readE nm o n=if D.bars [nm]=0 then (if D.readOk nm o n then 0 else 2) else D.bars [nm]):=rfl
 have HT:Hid (D.readT nm o n=if D.bars [nm]=0∧D.readOk nm o n=true then ((D.bytes nm).drop o.toNat).take n.toNat else []):=rfl
 have HO:Hid (D.readOk nm o n=(decide (0≤o) && decide (0≤n) && decide (o+n≤((D.bytes nm).length:Int)))):=rfl
 have HAT:Hid (D.allT nm=if D.bars [nm]=0 then D.bytes nm else []):=rfl
 have hsm:=h.small nm
 have hsz:=S_size
 have htl:=S_toList
 have hbb:D.bars [nm]=0∨D.bars [nm]=8∨D.bars [nm]=9:=by
  rw [bars_one]; split
  · exact .inr (.inl rfl)
  · split
    · exact .inl rfl
    · exact .inr (.inr rfl)
 clear h
 go_enter Tryz.func138,Tryz.ntmps138
 go_wp2_with fail
 refine HA.out.mono ?_
 rintro e w1 ⟨rfl,hb⟩
 have HB:=Lib.hid hb
 clear hb HA
 generalize D.bars [nm]=bz at *
 rcases hbb with rfl | rfl | rfl
 ·
  rw [if_pos rfl] at HAT HE
  rw [HAT.out]
  clear HAT
  generalize D.bytes nm=l at *
  generalize D.readOk nm o n=ok at *
  by_cases h1:o < 0
  ·
   have hok:ok=false:=by rw [HO.out,decide_eq_false (show ¬ 0≤o by omega)]; rfl
   subst hok
   have d1:decide (o < 0)=true:=decide_eq_true h1
   go_wp2_with fail
   go_ret2
   rw [HT.out,HE.out]
   exact ⟨rfl,HB.out⟩
  have d1:decide (o < 0)=false:=decide_eq_false h1
  by_cases h2:n < 0
  ·
   have hok:ok=false:=by rw [HO.out,decide_eq_false (show ¬ 0≤n by omega),Bool.and_false]; rfl
   subst hok
   have d2:decide (n < 0)=true:=decide_eq_true h2
   go_wp2_with fail
   go_ret2
   rw [HT.out,HE.out]
   exact ⟨rfl,HB.out⟩
  have d2:decide (n < 0)=false:=decide_eq_false h2
  by_cases h3:(l.length:Int) < o
  ·
   have hok:ok=false:=by rw [HO.out,decide_eq_false (show ¬ o+n≤(l.length:Int) by omega),Bool.and_false]
   subst hok
   have d3:decide ((l.length:Int) < o)=true:=decide_eq_true h3
   go_wp2_with fail
   go_ret2
   rw [HT.out,HE.out]
   exact ⟨rfl,HB.out⟩
  have d3:decide ((l.length:Int) < o)=false:=decide_eq_false h3
  by_cases h4:(l.length:Int) - o < n
  ·
   have hok:ok=false:=by rw [HO.out,decide_eq_false (show ¬ o+n≤(l.length:Int) by omega),Bool.and_false]
   subst hok
   have d4:decide ((l.length:Int) - o < n)=true:=decide_eq_true h4
   go_wp2_with fail
   go_ret2
   rw [HT.out,HE.out]
   exact ⟨rfl,HB.out⟩
  have d4:decide ((l.length:Int) - o < n)=false:=decide_eq_false h4
  have hok:ok=true:=by rw [HO.out,decide_eq_true (show 0≤o by omega),decide_eq_true (show 0≤n by omega),decide_eq_true (show o+n≤(l.length:Int) by omega)]; rfl
  subst hok
  obtain ⟨o,rfl⟩:=Int.eq_ofNat_of_zero_le (show 0≤o by omega)
  obtain ⟨n,rfl⟩:=Int.eq_ofNat_of_zero_le (show 0≤n by omega)
  rw [if_pos ⟨rfl,rfl⟩] at HT
  go_wp2_with fail
  go_ret2
  rw [HT.out,HE.out]
  refine ⟨?_,HB.out⟩
  show Ending.returned (.tuple #[.string ((S l).extract o (o+n)),.int .i64 0])=_
  rw [S_extract,Int.toNat_natCast,Int.toNat_natCast]; rfl
 iterate 2
  · go_wp2_with fail
    go_ret2
    rw [HT.out,HE.out]
    exact ⟨rfl,HB.out⟩
def setNow (l:List (List UInt8×FileD)) (n:List UInt8) (t:List UInt8):List (List UInt8×FileD):=l.map fun p=>if p.1=n then (p.1,{ p.2 with now:=t }) else p
theorem setNow_fst (l:List (List UInt8×FileD)) (n t:List UInt8):(setNow l n t).map (·.1)=l.map (·.1):=by
 unfold setNow; rw [List.map_map]; apply List.map_congr_left; intro p _; show (if p.1=n then _ else p).1=_; split <;> rfl
theorem setNow_blk (l:List (List UInt8×FileD)) (n t:List UInt8):(setNow l n t).map (·.2.blk)=l.map (·.2.blk):=by
 unfold setNow; rw [List.map_map]; apply List.map_congr_left; intro p _; show (if p.1=n then _ else p).2.blk=_; split <;> rfl
theorem setNow_ptr (l:List (List UInt8×FileD)) (n t:List UInt8):(setNow l n t).map (fun p=>(Value.string (S p.1),Value.pointer (some ⟨p.2.blk,0,none⟩)))=l.map (fun p=>(Value.string (S p.1),Value.pointer (some ⟨p.2.blk,0,none⟩))):=by
 unfold setNow; rw [List.map_map]; apply List.map_congr_left; intro p _; show ((Value.string (S (if p.1=n then _ else p).1),Value.pointer (some ⟨(if p.1=n then _ else p).2.blk,0,none⟩)):Value×Value)=_; split <;> rfl
theorem setNow_mem {l:List (List UInt8×FileD)} {n t:List UInt8} {q:List UInt8×FileD} (h:q∈setNow l n t):∃ p∈l,q.2.blk=p.2.blk∧q.1=p.1∧q.2.img=p.2.img∧(p.1=n→q.2.now=t)∧(p.1≠n→q=p):=by
 obtain ⟨p,hp,rfl⟩:=List.mem_map.1 h
 by_cases e:p.1=n
 · rw [if_pos e]; exact ⟨p,hp,rfl,rfl,rfl,fun _=>rfl,fun h=>absurd e h⟩
 · rw [if_neg e]; exact ⟨p,hp,rfl,rfl,rfl,fun h=>absurd h e,fun _=>rfl⟩
theorem setNow_has {l:List (List UInt8×FileD)} {n t:List UInt8} {p:List UInt8×FileD} (h:p∈l):∃ q∈setNow l n t,q.2.blk=p.2.blk :=
 ⟨_,List.mem_map.2 ⟨p,h,rfl⟩,by show (if p.1=n then _ else p).2.blk=_; split <;> rfl⟩
theorem sizeL_set:∀ (l:List (List UInt8×FileD)) (n t:List UInt8) (f:FileD),(l.map (·.1)).Nodup→(n,f)∈l→sizeL (setNow l n t)+f.now.length=sizeL l+t.length:=by
 intro l
 induction l with
 | nil=>intro n t f _ h; cases h
 | cons x l ih =>
   intro n t f hn hm
   simp only [List.map_cons,List.nodup_cons] at hn
   have hsz:∀ (y:List UInt8×FileD) (l:List (List UInt8×FileD)),sizeL (y :: l)=y.2.now.length+sizeL l:=fun y l=>by unfold sizeL; simp
   have hset:setNow (x :: l) n t=(if x.1=n then (x.1,{ x.2 with now:=t }) else x) :: setNow l n t:=rfl
   rw [hset,hsz,hsz]
   rcases List.mem_cons.1 hm with e | hm
   ·
    subst e
    rw [if_pos rfl]
    have hl:setNow l n t=l:=by
     unfold setNow
     conv=>rhs; rw [← List.map_id l]
     apply List.map_congr_left
     intro p hp
     rw [if_neg (fun e=>hn.1 (by rw [← e]; exact List.mem_map.2 ⟨p,hp,rfl⟩))]; rfl
    rw [hl]
    show t.length+_+_=_
    simp only
    omega
   · have hne:x.1≠n:=fun e=>hn.1 (by rw [e]; exact List.mem_map.2 ⟨_,hm,rfl⟩)
     rw [if_neg hne]
     have:=ih n t f hn.2 hm
     omega
theorem DiskAt.set_now {base:Nat} {w:World} {D:DiskD} (h:DiskAt base w D) {n:List UInt8} {f:FileD} (hf:(n,f)∈D.files) (t:List UInt8) (hfit:((sizeL (setNow D.files n t):Nat):Int)≤D.cap) :
 DiskAt base (w.setCell ⟨f.blk,1,none⟩ (.string (S t))) { D with files:=setNow D.files n t }∧Mod D.foot w (w.setCell ⟨f.blk,1,none⟩ (.string (S t))):=by
 have hm:Mod (fun k=>k=f.blk) w (w.setCell ⟨f.blk,1,none⟩ (.string (S t))):=mod_set _ _ _ _
 have hmf:Mod D.foot w (w.setCell ⟨f.blk,1,none⟩ (.string (S t))):=hm.mono (fun k _ hk=>.inr (.inr (.inl ⟨_,hf,hk⟩)))
 have key:∀ k,D.foot k→k≠f.blk→(w.setCell ⟨f.blk,1,none⟩ (.string (S t))).heap[k]?=w.heap[k]?:=fun k hk hne=>hm.block k (h.lt hk) hne
 have hself:(w.setCell ⟨f.blk,1,none⟩ (.string (S t))).heap[f.blk]?=some (.cells #[.string (S f.img),.string (S t)] 87 (0,0)):=heap_set1 (h.file _ hf) _ rfl
 have hap:=h.apart.2.1 _ hf
 obtain ⟨es,c,m1,m2,m3⟩:=h.map
 refine ⟨⟨(key _ (.inl rfl) (fun e=>hap.1 e.symm)).trans h.head,⟨es,c,(key _ (.inr (.inl rfl)) (fun e=>hap.2 e.symm)).trans m1,m2,by rw [m3]; exact (setNow_ptr _ _ _).symm⟩,fun q hq=>?_,?_,by show ((setNow D.files n t).map (·.1)).Nodup; rw [setNow_fst]; exact h.names,by show ((setNow D.files n t).map (·.2.blk)).Nodup; rw [setNow_blk]; exact h.blocks,⟨h.apart.1,fun q hq=>?_,fun k hk=>⟨(h.apart.2.2 k hk).1,(h.apart.2.2 k hk).2.1,fun q hq=>?_⟩⟩,⟨h.above.1,h.above.2.1,fun q hq=>?_⟩,h.ints,hfit,fun x hx=>by obtain ⟨p,hp,e⟩:=h.waitf x hx; rw [← e]; exact setNow_has hp⟩,hmf⟩
 ·
  obtain ⟨p,hp,hb,h1,h2,h3,h4⟩:=setNow_mem hq
  by_cases e:p.1=n
  ·
   have hpf:p=(n,f):=by
    have h5:=find_blk D.files h.blocks
    have:∀ (l:List (List UInt8×FileD)),(l.map (·.1)).Nodup→∀ a∈l,∀ b∈l,a.1=b.1→a=b:=by
     intro l
     induction l with
     | nil=>intro _ a ha; cases ha
     | cons x l ih =>
       intro hn a ha b hb hab
       simp only [List.map_cons,List.nodup_cons] at hn
       rcases List.mem_cons.1 ha with e1 | h1
       · rcases List.mem_cons.1 hb with e2 | h2
         · rw [e1,e2]
         · exact absurd (show x.1∈l.map (·.1) from List.mem_map.2 ⟨b,h2,by rw [← e1]; exact hab.symm⟩) hn.1
       · rcases List.mem_cons.1 hb with e2 | h2
         · exact absurd (show x.1∈l.map (·.1) from List.mem_map.2 ⟨a,h1,by rw [← e2]; exact hab⟩) hn.1
         · exact ih hn.2 a h1 b h2 hab
    exact this _ h.names p hp _ hf e
   have hq2:q.2.cells=#[.string (S f.img),.string (S t)]:=by
    show #[Value.string (S q.2.img),Value.string (S q.2.now)]=_
    rw [h2,h3 e,hpf]
   rw [hb,hq2,hpf]; exact hself
  ·
   rw [h4 e]
   have hne:p.2.blk≠f.blk:=fun e2=>by
    have a1:=find_blk D.files h.blocks p hp
    have a2:=find_blk D.files h.blocks _ hf
    simp only at a2
    rw [e2,a2] at a1
    have:(n,f)=p:=Option.some.inj a1
    exact e (by rw [← this])
   exact (key _ (.inr (.inr (.inl ⟨p,hp,rfl⟩))) hne).trans (h.file p hp)
 ·
  refine ⟨h.row.1,?_⟩
  rcases h.row.2 with h0 | ⟨g,cap,cur,e,hb,hg,r⟩
  · exact .inl h0
  · have hown:D.wv.ownBlock=some g:=by rw [e]; rfl
    exact .inr ⟨g,cap,cur,e,hb,(key g (.inr (.inr (.inr hown))) ((h.apart.2.2 g hown).2.2 _ hf)).trans hg,r⟩
 · obtain ⟨p,hp,hb,_⟩:=setNow_mem hq
   rw [hb]; exact h.apart.2.1 p hp
 · obtain ⟨p,hp,hb,_⟩:=setNow_mem hq
   rw [hb]; exact (h.apart.2.2 k hk).2.2 p hp
 · obtain ⟨p,hp,hb,_⟩:=setNow_mem hq
   rw [hb]; exact h.above.2.2 p hp
theorem DiskAt.set_waits {base:Nat} {w w1:World} {D:DiskD} (h:DiskAt base w D) (wv:Value) (ws:List WriteD) (hg:w.grownBy w1 D.wv.ownBlock)
 (hrow:w1.ownsRow base 281 3 wv ws.length (waitsL ws)) (hfr:∀ k,wv.ownBlock=some k→D.wv.ownBlock=some k∨w.heap.size≤k) (hwf:∀ x∈ws,∃ p∈D.files,p.2.blk=x.blk) :
 DiskAt base (w1.setCell ⟨D.blk,3,none⟩ wv) { D with wv:=wv,waits:=ws }∧Mod D.foot w (w1.setCell ⟨D.blk,3,none⟩ wv):=by
 have hkeep:∀ k,D.foot k→D.wv.ownBlock≠some k→w1.heap[k]?=w.heap[k]?:=fun k hk hne=>hg.block k (h.lt hk) (fun e=>hne e.symm)
 have hown:∀ k,D.wv.ownBlock=some k→k≠D.blk∧k≠D.mB∧∀ p∈D.files,k≠p.2.blk:=h.apart.2.2
 have hhead:w1.heap[D.blk]?=some (.cells D.head 78 (0,0)):=(hkeep _ (.inl rfl) (fun e=>(hown _ e).1 rfl)).trans h.head
 have hne:∀ k,wv.ownBlock=some k→k≠D.blk∧k≠D.mB∧∀ p∈D.files,k≠p.2.blk:=fun k hk=>by
  rcases hfr k hk with e | e
  · exact hown k e
  · refine ⟨fun e2=>?_,fun e2=>?_,fun p hp e2=>?_⟩
    · have:=h.lt (k:=k) (.inl e2); omega
    · have:=h.lt (k:=k) (.inr (.inl e2)); omega
    · have:=h.lt (k:=k) (.inr (.inr (.inl ⟨p,hp,e2⟩))); omega
 have hset:∀ k,k≠D.blk→(w1.setCell ⟨D.blk,3,none⟩ wv).heap[k]?=w1.heap[k]?:=fun k hk=>Below.heap_setCell _ _ _ _ (fun e=>hk e)
 obtain ⟨es,c,m1,m2,m3⟩:=h.map
 refine ⟨⟨heap_set1 hhead _ rfl,⟨es,c,?_,m2,m3⟩,fun p hp=>?_,?_,h.names,h.blocks,⟨h.apart.1,h.apart.2.1,hne⟩,h.above,h.ints,h.fits,hwf⟩,?_⟩
 · exact ((hset _ (fun e=>h.apart.1 e.symm)).trans (hkeep _ (.inr (.inl rfl)) (fun e=>(hown _ e).2.1 rfl))).trans m1
 · exact ((hset _ (h.apart.2.1 p hp).1).trans (hkeep _ (.inr (.inr (.inl ⟨p,hp,rfl⟩))) (fun e=>(hown _ e).2.2 p hp rfl))).trans (h.file p hp)
 ·
  refine ⟨hrow.1,?_⟩
  rcases hrow.2 with h0 | ⟨g,cap,cur,e,hb,hgg,r⟩
  · exact .inl h0
  · have hw:wv.ownBlock=some g:=by rw [e]; rfl
    exact .inr ⟨g,cap,cur,e,hb,(hset g (hne g hw).1).trans hgg,r⟩
 · have h1:Mod D.foot w w1:=⟨hg.os,hg.tape,hg.output,hg.size,fun k hk hnf=>hg.block k hk (fun e=>hnf (.inr (.inr (.inr e.symm))))⟩
   exact h1.setCell (.inl (.inl rfl)) _
theorem burn_eq (D:DiskD):∃ L Dn,D.burn={ D with left:=L,down:=Dn }:=by
 unfold DiskD.burn
 split
 · exact ⟨-1,true,rfl⟩
 · split
   · exact ⟨D.left - 1,D.down,rfl⟩
   · exact ⟨D.left,D.down,rfl⟩
theorem own_slice {w:World} {base n sz:Nat} {e:TypeId} {v:Value} {xs:List Value} (h:w.ownsRow base e sz v n xs):∃ a cp,v=.slice a n cp:=by
 rcases h.2 with ⟨rfl,rfl⟩ | ⟨g,cap,cur,rfl,_⟩
 · exact ⟨none,0,rfl⟩
 · exact ⟨_,_,rfl⟩
theorem append_write {base:Nat} {w:World} {D:DiskD} (h:DiskAt base w D) (x:WriteD) (hx:∃ p∈D.files,p.2.blk=x.blk) (hwl:D.waits.length≤1048576) (hbase:base≤w.heap.size) :
 ∃ v' w8,(Builtin.append_ #[76,76] 76 #[D.wv,.slice (some ⟨w.heap.size,0,none⟩) 1 1]).run Tryz.prog (w.alloc (.cells #[.pointer (some ⟨x.blk,0,none⟩),.int .i64 (x.pos:Int),.string (S x.txt)] 281))=.ok v' w8 ∧
  DiskAt base (w8.setCell ⟨D.blk,3,none⟩ v') { D with wv:=v',waits:=D.waits++[x] }∧Mod D.foot w (w8.setCell ⟨D.blk,3,none⟩ v')∧(∃ a cp,v'=.slice a (D.waits.length+1) cp) ∧
  (∃ u,w8.cell? ⟨D.blk,3,none⟩=some u)∧w8.frozen? ⟨D.blk,3,none⟩=false∧∀ k,v'.ownBlock=some k→D.foot k∨w.heap.size≤k:=by
 have hb7:Below w.heap.size w (w.alloc (.cells #[.pointer (some ⟨x.blk,0,none⟩),.int .i64 (x.pos:Int),.string (S x.txt)] 281)):=(Below.refl _ _).alloc (Nat.le_refl _) _
 have hd7:=h.below hb7
 obtain ⟨i0,hi0,hz0,hz1,hz2⟩:∃ i,Tryz.prog.info? 281=some i∧i.zero=some (.agg #[.pointer none,.int .i64 0,.string ⟨#[]⟩])∧i.size=3∧i.bytes=32:=by
  have:=(show (Tryz.prog.info? 281).map (fun i=>(i.zero,i.size,i.bytes))=some (some (.agg #[.pointer none,.int .i64 0,.string ⟨#[]⟩]),3,32) by kernel_rfl)
  cases hh:Tryz.prog.info? 281 with
  | none=>rw [hh] at this; cases this
  | some i=>rw [hh] at this; have h2:=Option.some.inj this; exact ⟨i,rfl,congrArg (·.1) h2,congrArg (·.2.1) h2,congrArg (·.2.2) h2⟩
 obtain ⟨v',w8,hr,hrow,hgb,_,hob⟩:=run_append_own_at (P:=Tryz.prog) _ base 76 76 281 i0 (.agg #[.pointer none,.int .i64 0,.string ⟨#[]⟩]) 3 32 Tryz.underlying76 hi0 hz0 hz1 hz2 rfl (by omega) _ _ _ hd7.row
  ⟨w.heap.size,0,none⟩ 1 1 x.cells rfl (fun j u hu=>by
   have hadd:(⟨w.heap.size,0,none⟩:Addr).add j=⟨w.heap.size,j,none⟩:=by unfold Addr.add; split <;> simp_all
   rw [hadd,World.cell?_alloc_new]
   match j,hu with
   | 0,hu=>exact hu
   | 1,hu=>exact hu
   | 2,hu=>exact hu
   | j+3,hu=>cases hu) (fun u hu=>by
   simp only [WriteD.cells,List.mem_cons,List.not_mem_nil,or_false] at hu
   rcases hu with rfl | rfl | rfl <;> rfl) (by unfold maxLen; omega) (by omega) (Nat.le_trans hbase hb7.size)
 have hws:waitsL D.waits++x.cells=waitsL (D.waits++[x]):=by unfold waitsL; simp
 have hrow2:w8.ownsRow base 281 3 v' (D.waits++[x]).length (waitsL (D.waits++[x])):=by rw [← hws,List.length_append]; exact hrow
 have hsz7:(w.alloc (.cells #[.pointer (some ⟨x.blk,0,none⟩),.int .i64 (x.pos:Int),.string (S x.txt)] 281)).heap.size=w.heap.size+1:=World.size_alloc _ _
 obtain ⟨h1,h2⟩:=hd7.set_waits v' (D.waits++[x]) hgb hrow2 (fun k hk=>by
  rcases hob with e | e
  · exact .inl (e ▸ hk)
  · rw [e] at hk; cases hk; exact .inr (Nat.le_refl _)) (fun y hy=>by
  rcases List.mem_append.1 hy with h1 | h1
  · exact h.waitf y h1
  · rw [List.mem_singleton] at h1; subst h1; exact hx)
 have hhead:w8.heap[D.blk]?=some (.cells D.head 78 (0,0)):=(hgb.block _ (hd7.lt (.inl rfl)) (fun e=>(hd7.apart.2.2 _ e.symm).1 rfl)).trans hd7.head
 refine ⟨v',w8,hr,h1,(Mod.of_below hb7).trans h2,own_slice hrow,⟨D.wv,?_⟩,?_,fun k hk=>?_⟩
 · unfold World.cell?; rw [show w8.heap[(⟨D.blk,3,none⟩:Addr).block]?=_ from hhead]; rfl
 · unfold World.frozen?; rw [show w8.heap[(⟨D.blk,3,none⟩:Addr).block]?=_ from hhead]; rfl
 · rcases hob with e | e
   · exact .inl (.inr (.inr (.inr (e ▸ hk))))
   · rw [e] at hk; cases hk; right; omega
def DiskD.fitB (D:DiskD) (f:FileD) (o:Int) (t:List UInt8):Int:=if o < 0∨(f.now.length:Int) < o then 2 else if D.room < o+(t.length:Int) - (f.now.length:Int) then 7 else 0
def DiskD.writeE (D:DiskD) (n:List UInt8) (o:Int) (t:List UInt8):Int :=
 if D.bars [n]=0 then (match D.find n with | none=>9 | some f=>if D.fitB f o t=0 then D.done else D.fitB f o t) else D.bars [n]
def DiskD.write (D:DiskD) (n:List UInt8) (o:Int) (t:List UInt8) (wv:Value):DiskD :=
 if D.bars [n]=0 then (match D.find n with
  | none=>D
  | some f=>if D.fitB f o t=0 then (if D.left=0∨t=[] then D.burn else { D.burn with files:=setNow D.files n (laidL f.now o.toNat t),wv:=wv,waits:=D.waits++[⟨f.blk,o.toNat,t⟩] }) else D)
 else D
theorem write_any {base:Nat} {D:DiskD} (n:List UInt8) (o:Int) (ho : -9223372036854775808≤o∧o≤9223372036854775807) (t:List UInt8) (ht:t.length≤1099511627776) (hwl:D.waits.length≤1048576) (w:World) (h:DiskAt base w D) (hbase:base≤w.heap.size) :
 Calls Tryz.prog 126 #[.pointer (some ⟨D.blk,0,none⟩),.string (S n),.int .i64 o,.string (S t)] w fun e w'=>∃ wv,e=.returned (.int .i64 (D.writeE n o t))∧DiskAt base w' (D.write n o t wv)∧Mod D.foot w w'∧∀ k,(D.write n o t wv).foot k→D.foot k∨w.heap.size≤k:=by
 have HB:Hid (Below w.heap.size w (w.alloc (.cells #[.string (S n)] 9))):=(Below.refl _ _).alloc (Nat.le_refl _) _
 have hd:=h.below HB.out
 have HBA:=Lib.hid (bars_any (some ⟨w.heap.size,0,none⟩) 1 [n] (by simp) _ hd (row_one w n _))
 have hlk:=lookup_file hd n
 have c2:(w.alloc (.cells #[.string (S n)] 9)).cell? ⟨D.blk,2,none⟩=some (.map (some D.mB)):=hd.cell 2 _ rfl
 have HD1:=Lib.hid hd
 have HE:Hid (D.writeE n o t=if D.bars [n]=0 then (match D.find n with | none=>9 | some f=>if D.fitB f o t=0 then D.done else D.fitB f o t) else D.bars [n]):=rfl
 have HW:Hid (∀ wv,D.write n o t wv=if D.bars [n]=0 then (match D.find n with | none=>D | some f=>if D.fitB f o t=0 then (if D.left=0∨t=[] then D.burn else { D.burn with files:=setNow D.files n (laidL f.now o.toNat t),wv:=wv,waits:=D.waits++[⟨f.blk,o.toNat,t⟩] }) else D) else D):=fun _=>rfl
 have hsz:=S_size
 have htl:=S_toList
 rw [bars_one] at HBA HE HW
 have HWS:Hid (w.heap.size≤(w.alloc (.cells #[.string (S n)] 9)).heap.size):=HB.out.size
 clear h hd
 go_enter Tryz.func126,Tryz.ntmps126
 go_wp2_with fail
 refine HBA.out.mono ?_
 rintro e w1 ⟨rfl,rfl⟩
 clear HBA
 generalize hw1:w.alloc (.cells #[.string (S n)] 9)=w1 at *
 clear hw1
 cases hdn:D.down with
 | true =>
   rw [hdn] at HE HW
   go_wp2_with fail
   go_ret
   exact ⟨D.wv,by rw [HE.out]; rfl,by rw [HW.out,if_neg (by simp)]; exact HD1.out,Mod.of_below HB.out,fun k hk=>by rw [HW.out,if_neg (by simp)] at hk; exact .inl hk⟩
 | false =>
   rw [hdn] at HE HW
   clear hdn
   cases hf:D.find n with
   | none =>
     rw [hf] at HE HW
     go_wp2_with fail
     go_ret
     exact ⟨D.wv,by rw [HE.out]; rfl,by rw [HW.out,if_neg (by simp)]; exact HD1.out,Mod.of_below HB.out,fun k hk=>by rw [HW.out,if_neg (by simp)] at hk; exact .inl hk⟩
   | some f =>
     have hmem:=find_some hf
     have HMEM:=Lib.hid hmem
     have hnow:=HD1.out.now hf
     have hsm:f.now.length≤16777216:=by have:=HD1.out.small n; unfold DiskD.bytes at this; rw [hf] at this; exact this
     rw [hf] at HE HW hlk
     unfold fileV at hlk
     simp only [Option.map_some] at hlk
     clear hf hmem
     replace HE:Hid (D.writeE n o t=if D.fitB f o t=0 then D.done else D.fitB f o t):=by show _=_; rw [HE.out,if_pos (by simp)]
     replace HW:Hid (∀ wv,D.write n o t wv=if D.fitB f o t=0 then (if D.left=0∨t=[] then D.burn else { D.burn with files:=setNow D.files n (laidL f.now o.toNat t),wv:=wv,waits:=D.waits++[⟨f.blk,o.toNat,t⟩] }) else D):=fun wv=>by rw [HW.out,if_pos (by simp)]
     have HFB:Hid (D.fitB f o t=if o < 0∨(f.now.length:Int) < o then 2 else if D.room < o+(t.length:Int) - (f.now.length:Int) then 7 else 0):=rfl
     by_cases h1:o < 0
     · have hfb:D.fitB f o t=2:=by rw [HFB.out,if_pos (.inl h1)]
       have d1:decide (o < 0)=true:=decide_eq_true h1
       rw [hfb] at HE HW
       clear hfb
       go_wp2_with fail
       go_ret
       exact ⟨D.wv,by rw [HE.out]; rfl,by rw [HW.out,if_neg (by decide)]; exact HD1.out,Mod.of_below HB.out,fun k hk=>by rw [HW.out,if_neg (by decide)] at hk; exact .inl hk⟩
     have d1:decide (o < 0)=false:=decide_eq_false h1
     by_cases h2:(f.now.length:Int) < o
     · have hfb:D.fitB f o t=2:=by rw [HFB.out,if_pos (.inr h2)]
       have d2:decide ((f.now.length:Int) < o)=true:=decide_eq_true h2
       rw [hfb] at HE HW
       clear hfb
       go_wp2_with fail
       go_ret
       exact ⟨D.wv,by rw [HE.out]; rfl,by rw [HW.out,if_neg (by decide)]; exact HD1.out,Mod.of_below HB.out,fun k hk=>by rw [HW.out,if_neg (by decide)] at hk; exact .inl hk⟩
     obtain ⟨o,rfl⟩:=Int.eq_ofNat_of_zero_le (show 0≤o by omega)
     have hle:o≤f.now.length:=by omega
     have d2:decide (f.now.length < o)=false:=decide_eq_false (by omega)
     have hroom:0≤D.room:=by have:=HD1.out.fits; show (0:Int)≤D.cap - (D.size:Int); omega
     have hroom2:D.room≤16777216:=by have:=HD1.out.ints; show D.cap - (D.size:Int)≤_; omega
     have hwa:IntKind.i64.wrap ((o:Int)+(t.length:Int))=(o:Int)+(t.length:Int):=IntWalk.i64_in _ (by omega)
     have hwb:IntKind.i64.wrap ((o:Int)+(t.length:Int) - (f.now.length:Int))=(o:Int)+(t.length:Int) - (f.now.length:Int):=IntWalk.i64_in _ (by omega)
     have HNW:Hid (∀ w2,Ext w1.drew w2→w2.cell? ⟨f.blk,1,none⟩=some (.string (S f.now))):=fun w2 hw=>by
      have hdd:=HD1.out.below ((Below.refl _ _).drew.trans hw)
      have:=hdd.file _ HMEM.out
      unfold World.cell?; rw [show w2.heap[(⟨f.blk,1,none⟩:Addr).block]?=_ from this]; rfl
     have hn12:¬ ((o:Int) < 0∨(f.now.length:Int) < (o:Int)):=by omega
     by_cases h3:D.room < (o:Int)+(t.length:Int) - (f.now.length:Int)
     ·
      have hfb:D.fitB f o t=7:=by rw [HFB.out,if_neg hn12,if_pos h3]
      have d3:decide (D.room < (o:Int)+(t.length:Int) - (f.now.length:Int))=true:=decide_eq_true h3
      have d4:decide ((f.now.length:Int) < (o:Int)+(t.length:Int))=true:=decide_eq_true (by omega)
      rw [hfb] at HE HW
      clear hfb
      go_upto_region 7 with fail
      refine Grow.wp_region_g 26 [none,none,none,none,none,none,none,some (.inl (.string (S f.now))),none,none,none,some (.inl (.int .i64 D.room)),some (.inl (.bool true)),some (.inl (.bool true)),none,none,none,none,none,none,none,some (.inl (.string (S f.now))),none,none,none,none] Ext (by kernel_rfl) (by kernel_rfl) (by kernel_rfl) Ext.refl (fun _ _ _=>Ext.trans) ?_ ?_
      · intro K hK Y hY v w w' hR h
        simp only [List.mem_cons,List.not_mem_nil,or_false] at hK
        rcases hK with rfl | rfl | rfl | rfl | rfl | rfl | rfl | rfl | rfl | rfl | rfl | rfl | rfl | rfl | rfl | rfl | rfl | rfl | rfl | rfl | rfl | rfl | rfl | rfl | rfl | rfl <;> simp only [reduceCtorEq,Option.some.injEq,Sum.inr.injEq] at hY
      simp only [List.take_succ_cons,List.take_zero,List.drop_succ_cons,List.drop_zero]
      iterate 7
       refine Grow.g_det rfl ?_
       apply Exists.intro
       refine ⟨fun w2 hw hF=>?_,?_⟩
       · clear hF
         go_simp
         exact ⟨rfl,Ext.refl _⟩
       go_frame
      refine Grow.g_con rfl (fun w2 hw hF=>?_) ?_
      · clear hF
        have c1:=HNW.out w2 hw
        go_simp
        all_goals exact Ext.refl _
      iterate 3
       go_frame
       refine Grow.g_det rfl ?_
       apply Exists.intro
       refine ⟨fun w2 hw hF=>?_,?_⟩
       · clear hF
         go_simp
         exact ⟨rfl,Ext.refl _⟩
      go_frame
      refine Grow.g_con rfl (fun w2 hw hF=>?_) ?_
      · clear hF
        go_simp
        exact (room_any w2 (HD1.out.below ((Below.refl _ _).drew.trans hw))).mono fun e w3 h=>⟨_,h.1,rfl,h.2⟩
      iterate 2
       go_frame
       refine Grow.g_con rfl (fun w2 hw hF=>?_) ?_
       · clear hF
         go_simp
         all_goals exact Ext.refl _
      iterate 7
       go_frame
       refine Grow.g_det rfl ?_
       apply Exists.intro
       refine ⟨fun w2 hw hF=>?_,?_⟩
       · clear hF
         go_simp
         exact ⟨rfl,Ext.refl _⟩
      go_frame
      refine Grow.g_con rfl (fun w2 hw hF=>?_) ?_
      · clear hF
        have c1:=HNW.out w2 hw
        go_simp
        all_goals exact Ext.refl _
      iterate 4
       go_frame
       refine Grow.g_det rfl ?_
       apply Exists.intro
       refine ⟨fun w2 hw hF=>?_,?_⟩
       · clear hF
         go_simp
         exact ⟨rfl,Ext.refl _⟩
      go_frame
      refine Grow.g_nil fun w3 hw3 hF=>?_
      clear hF
      refine wpList_nil ?_
      have HB3:=Lib.hid (HB.out.trans (((Below.refl w1.heap.size w1).drew.trans hw3).mono HWS.out))
      have HD3:=Lib.hid (HD1.out.below ((Below.refl _ _).drew.trans hw3))
      clear hw3
      go_wp2_with fail
      go_ret
      exact ⟨D.wv,by rw [HE.out]; rfl,by rw [HW.out,if_neg (by decide)]; exact HD3.out,Mod.of_below HB3.out,fun k hk=>by rw [HW.out,if_neg (by decide)] at hk; exact .inl hk⟩
     ·
      have hfb:D.fitB f o t=0:=by rw [HFB.out,if_neg hn12,if_neg h3]
      have d3:decide (D.room < (o:Int)+(t.length:Int) - (f.now.length:Int))=false:=decide_eq_false h3
      rw [hfb] at HE HW
      clear hfb
      have H3:=Lib.hid h3
      clear h3
      go_upto_region 7 with fail
      refine Grow.wp_region_g 26 [none,none,none,none,none,none,none,some (.inl (.string (S f.now))),none,none,none,some (.inl (.int .i64 D.room)),some (.inl (.bool false)),some (.inl (.bool false)),none,none,none,none,none,none,none,none,none,none,some (.inl (.bool false)),some (.inl (.bool false))] Ext (by kernel_rfl) (by kernel_rfl) (by kernel_rfl) Ext.refl (fun _ _ _=>Ext.trans) ?_ ?_
      · intro K hK Y hY v w w' hR h
        simp only [List.mem_cons,List.not_mem_nil,or_false] at hK
        rcases hK with rfl | rfl | rfl | rfl | rfl | rfl | rfl | rfl | rfl | rfl | rfl | rfl | rfl | rfl | rfl | rfl | rfl | rfl | rfl | rfl | rfl | rfl | rfl | rfl | rfl | rfl <;> simp only [reduceCtorEq,Option.some.injEq,Sum.inr.injEq] at hY
      simp only [List.take_succ_cons,List.take_zero,List.drop_succ_cons,List.drop_zero]
      iterate 7
       refine Grow.g_det rfl ?_
       apply Exists.intro
       refine ⟨fun w2 hw hF=>?_,?_⟩
       · clear hF
         go_simp
         exact ⟨rfl,Ext.refl _⟩
       go_frame
      refine Grow.g_con rfl (fun w2 hw hF=>?_) ?_
      · clear hF
        have c1:=HNW.out w2 hw
        go_simp
        all_goals exact Ext.refl _
      iterate 3
       go_frame
       refine Grow.g_det rfl ?_
       apply Exists.intro
       refine ⟨fun w2 hw hF=>?_,?_⟩
       · clear hF
         go_simp
         exact ⟨rfl,Ext.refl _⟩
      go_frame
      refine Grow.g_con rfl (fun w2 hw hF=>?_) ?_
      · clear hF
        go_simp
        exact (room_any w2 (HD1.out.below ((Below.refl _ _).drew.trans hw))).mono fun e w3 h=>⟨_,h.1,rfl,h.2⟩
      iterate 2
       go_frame
       refine Grow.g_con rfl (fun w2 hw hF=>?_) ?_
       · clear hF
         go_simp
         all_goals exact Ext.refl _
      iterate 10
       go_frame
       apply Grow.g_skip
       · kernel_rfl
      iterate 2
       go_frame
       refine Grow.g_con rfl (fun w2 hw hF=>?_) ?_
       · clear hF
         go_simp
         all_goals exact Ext.refl _
      go_frame
      refine Grow.g_nil fun w3 hw3 hF=>?_
      clear hF
      refine wpList_nil ?_
      have HB3:=Lib.hid (HB.out.trans (((Below.refl w1.heap.size w1).drew.trans hw3).mono HWS.out))
      have HD3:=Lib.hid (HD1.out.below ((Below.refl _ _).drew.trans hw3))
      clear hw3
      have HDN:=Lib.hid (done_any w3 HD3.out)
      replace HE:Hid (D.writeE n (o:Int) t=D.done):=by show _=_; rw [HE.out,if_pos (by simp)]
      replace HW:Hid (∀ wv,D.write n (o:Int) t wv=if D.left=0∨t=[] then D.burn else { D.burn with files:=setNow D.files n (laidL f.now o t),wv:=wv,waits:=D.waits++[⟨f.blk,o,t⟩] }):=fun wv=>by rw [HW.out,if_pos (by simp),Int.toNat_natCast]
      obtain ⟨L,Dn,hbe⟩:=burn_eq D
      rw [hbe] at HDN HW
      have HBE:=Lib.hid hbe
      clear hbe
      go_wp2_with fail
      refine HDN.out.mono ?_
      rintro e w4 ⟨rfl,hd4,hm4⟩
      have HD4:=Lib.hid hd4
      have HM4:Hid (Mod D.foot w w4):=(Mod.of_below HB3.out).trans ((Mod.below_foot hm4).mono (fun _ _ h=>h))
      have HS4:Hid (w.heap.size≤w4.heap.size):=HM4.out.size
      clear hd4 hm4 HDN HD3 HB3 HNW
      by_cases h0:D.left=0
      · have hdone:D.done=8:=if_pos h0
        rw [hdone] at HE ⊢
        clear hdone
        go_wp2_with fail
        go_ret
        exact ⟨D.wv,by rw [HE.out]; rfl,by rw [HW.out,if_pos (.inl h0)]; exact HD4.out,HM4.out,fun k hk=>by rw [HW.out,if_pos (.inl h0)] at hk; exact .inl hk⟩
      have hdone:D.done=0:=if_neg h0
      rw [hdone] at HE ⊢
      clear hdone
      by_cases ht0:t=[]
      · subst ht0
        go_wp2_with fail
        go_ret
        exact ⟨D.wv,by rw [HE.out]; rfl,by rw [HW.out,if_pos (.inr trivial)]; exact HD4.out,HM4.out,fun k hk=>by rw [HW.out,if_pos (.inr trivial)] at hk; exact .inl hk⟩
      have hte:t.isEmpty=false:=by cases t with
       | nil=>exact absurd rfl ht0
       | cons _ _=>rfl
      have hno:¬ (D.left=0∨t=[]):=fun h=>h.elim h0 ht0
      have hnow4:w4.cell? ⟨f.blk,1,none⟩=some (.string (S f.now)):=by
       have:=HD4.out.file (n,f) HMEM.out
       unfold World.cell?; rw [show w4.heap[(⟨f.blk,1,none⟩:Addr).block]?=_ from this]; rfl
      have HLD:=Lib.hid (fun w=>laid_any f.now o t (by omega) (by omega) ht w)
      clear hnow hlk c2 HD1 HB d1 d2 d3
      go_wp2_with fail
      refine (HLD.out _).mono ?_
      rintro e w5 ⟨rfl,hb5⟩
      clear HLD hnow4
      have hd5:=HD4.out.below hb5
      have HM5:Hid (Mod D.foot w w5):=HM4.out.trans (Mod.of_below hb5)
      have HLL:Hid ((laidL f.now o t).length=max f.now.length (o+t.length)):=by
       show _=_
       unfold laidL
       rw [if_neg ht0,over_length _ _ _ (by simp; omega)]
       simp; omega
      have hfit:((sizeL (setNow D.files n (laidL f.now o t)):Nat):Int)≤D.cap:=by
       have h1:=sizeL_set D.files n (laidL f.now o t) f HD4.out.names HMEM.out
       have h2:=HLL.out
       have h3:=H3.out
       have h4:D.room=D.cap - (D.size:Int):=rfl
       have h5:D.size=sizeL D.files:=rfl
       rw [h4,h5] at h3
       omega
      have hnow5:w5.cell? ⟨f.blk,1,none⟩=some (.string (S f.now)):=by
       have:=hd5.file (n,f) HMEM.out
       unfold World.cell?; rw [show w5.heap[(⟨f.blk,1,none⟩:Addr).block]?=_ from this]; rfl
      have hfr5:w5.frozen? ⟨f.blk,1,none⟩=false:=by
       have:=hd5.file (n,f) HMEM.out
       unfold World.frozen?; rw [show w5.heap[(⟨f.blk,1,none⟩:Addr).block]?=_ from this]; rfl
      obtain ⟨hd6,hm6⟩:=hd5.set_now (n:=n) (f:=f) HMEM.out (laidL f.now o t) hfit
      have HM6:Hid (Mod D.foot w (w5.setCell ⟨f.blk,1,none⟩ (.string (S (laidL f.now o t))))):=HM5.out.trans hm6
      have HD6:=Lib.hid hd6
      clear hd6 hm6 hd5 hfit
      go_upto_region 14 with fail
      clear hnow5 hfr5 hb5
      generalize w5.setCell ⟨f.blk,1,none⟩ (.string (S (laidL f.now o t)))=w6 at *
      obtain ⟨v',w8,hr,hd8,hm8,⟨a',cp',hv'⟩,⟨u3,hu3⟩,hfr8,hft⟩:=append_write HD6.out ⟨f.blk,o,t⟩ (setNow_has HMEM.out) hwl (Nat.le_trans hbase HM6.out.size)
      obtain ⟨aw,cw,hwv⟩:=own_slice HD6.out.row
      replace hwv:D.wv=.slice aw D.waits.length cw:=hwv
      have c3:(w6.alloc (.cells #[.pointer (some ⟨f.blk,0,none⟩),.int .i64 (o:Int),.string (S t)] 281)).cell? ⟨D.blk,3,none⟩=some (.slice aw D.waits.length cw):=by
       have h1:Below w6.heap.size w6 (w6.alloc (.cells #[.pointer (some ⟨f.blk,0,none⟩),.int .i64 (o:Int),.string (S t)] 281)):=(Below.refl w6.heap.size w6).alloc (Nat.le_refl _) _
       exact (HD6.out.below h1).cell 3 _ (by show some D.wv=_; rw [hwv])
      have c3b:w6.cell? ⟨D.blk,3,none⟩=some (.slice aw D.waits.length cw):=HD6.out.cell 3 _ (by show some D.wv=_; rw [hwv])
      have hr2:(Builtin.append_ #[76,76] 76 #[.slice aw D.waits.length cw,.slice (some ⟨w6.heap.size,0,none⟩) 1 1]).run Tryz.prog (w6.alloc (.cells #[.pointer (some ⟨f.blk,0,none⟩),.int .i64 (o:Int),.string (S t)] 281))=.ok v' w8:=by rw [← hwv]; exact hr
      have hfs:∀ k,(∃ p∈setNow D.files n (laidL f.now o t),k=p.2.blk)→(∃ p∈D.files,k=p.2.blk):=fun k ⟨p,hp,hk⟩=>by
       obtain ⟨q,hq,hb,_⟩:=setNow_mem hp
       exact ⟨q,hq,hk.trans hb⟩
      have HM9:Hid (Mod D.foot w (w8.setCell ⟨D.blk,3,none⟩ v')):=HM6.out.trans (hm8.mono (fun k _ hk=>by
       rcases hk with h | h | h | h
       · exact .inl h
       · exact .inr (.inl h)
       · exact .inr (.inr (.inl (hfs k h)))
       · exact .inr (.inr (.inr h))))
      have HU9:Hid (∀ k,v'.ownBlock=some k→D.foot k∨w.heap.size≤k):=fun k hk=>by
       rcases hft k hk with h | h
       · rcases h with h | h | h | h
         · exact .inl (.inl h)
         · exact .inl (.inr (.inl h))
         · exact .inl (.inr (.inr (.inl (hfs k h))))
         · exact .inl (.inr (.inr (.inr h)))
       · exact .inr (Nat.le_trans HM6.out.size h)
      have HFS:=Lib.hid hfs
      have HD9:=Lib.hid hd8
      have HR2:=Lib.hid hr2
      replace hu3:w8.cell? ⟨D.blk,3,none⟩=some u3:=hu3
      replace hfr8:w8.frozen? ⟨D.blk,3,none⟩=false:=hfr8
      replace hv':v'=.slice a' (D.waits.length+1) cp':=hv'
      clear hr2 hd8 hm8 hr hft hwv hfs
      subst hv'
      go_wp2_with (at_builtin; refine Lib.wpList_append_run _ rfl (.tmp 84) (.tmp 89) 76 76 rfl _ _ rfl rfl _ _ HR2.out ?_)
      go_ret
      refine ⟨by rw [HE.out]; rfl,Value.slice a' (D.waits.length+1) cp',?_,HM9.out,fun k hk=>?_⟩
      · rw [HW.out,if_neg hno]; exact HD9.out
      rw [HW.out,if_neg hno] at hk
      rcases hk with h | h | h | h
      · exact .inl (.inl h)
      · exact .inl (.inr (.inl h))
      · exact .inl (.inr (.inr (.inl (HFS.out k h))))
      · exact HU9.out k h
theorem len_any {base:Nat} {D:DiskD} (n:List UInt8) (w:World) (h:DiskAt base w D) :
 Calls Tryz.prog 218 #[.pointer (some ⟨D.blk,0,none⟩),.string (S n)] w fun e w'=>e=.returned (.int .i64 ((D.bytes n).length:Int))∧w'=w:=by
 have hlk:=lookup_file h n
 have c2:w.cell? ⟨D.blk,2,none⟩=some (.map (some D.mB)):=h.cell 2 _ rfl
 have HY:Hid (D.bytes n=nowF (D.find n)):=rfl
 have hsz:=S_size
 cases hf:D.find n with
 | none =>
   rw [hf] at hlk HY
   unfold fileV at hlk
   simp only [Option.map_none] at hlk
   clear h hf
   go_enter Tryz.func218,Tryz.ntmps218
   go_wp2_with fail
   go_ret
   rw [HY.out]
   exact ⟨rfl,rfl⟩
 | some f =>
   have hnow:=h.now hf
   rw [hf] at hlk HY
   unfold fileV at hlk
   simp only [Option.map_some] at hlk
   clear h hf
   go_enter Tryz.func218,Tryz.ntmps218
   go_wp2_with fail
   go_ret
   rw [HY.out]
   exact ⟨rfl,rfl⟩
/-! the writes of one file go out of the row -/
theorem closure_any (fb k:Nat) (p:Nat) (bx:Nat) (t:List UInt8) (w:World) (hc:w.cell? ⟨bx,0,none⟩=some (.pointer (some ⟨fb,0,none⟩))) {ca cb:Array Value} {ta tb:TypeId} (hk:w.heap[k]?=some (.cells ca ta (0,0))) (hf:w.heap[fb]?=some (.cells cb tb (0,0))) :
 Calls Tryz.prog 228 #[.agg #[.pointer (some ⟨k,0,none⟩),.int .i64 (p:Int),.string (S t)],.pointer (some ⟨bx,0,none⟩)] w fun e w'=>e=.returned (.bool (decide (k=fb)))∧Below w.heap.size w w':=by
 have hb:Hid (Below w.heap.size w (w.alloc (.cells #[.pointer (some ⟨k,0,none⟩),.int .i64 (p:Int),.string (S t)] 281))):=(Below.refl _ _).alloc (Nat.le_refl _) _
 have hc2:(w.alloc (.cells #[.pointer (some ⟨k,0,none⟩),.int .i64 (p:Int),.string (S t)] 281)).cell? ⟨bx,0,none⟩=some (.pointer (some ⟨fb,0,none⟩)):=by rw [hb.out.cell (cell_lt hc)]; exact hc
 have hk2:=(hb.out.block k (Array.getElem?_eq_some_iff.1 hk).1).trans hk
 have hf2:=(hb.out.block fb (Array.getElem?_eq_some_iff.1 hf).1).trans hf
 obtain ⟨i0,hi0,hz1⟩:∃ i,Tryz.prog.info? 87=some i∧i.size=2:=by
  have:=(show (Tryz.prog.info? 87).map (fun i=>i.size)=some 2 by kernel_rfl)
  cases hh:Tryz.prog.info? 87 with
  | none=>rw [hh] at this; cases this
  | some i=>rw [hh] at this; exact ⟨i,rfl,Option.some.inj this⟩
 have heq:(binOp .eql 85 (.pointer (some ⟨k,0,none⟩)) (.pointer (some ⟨fb,0,none⟩))).run Tryz.prog (w.alloc (.cells #[.pointer (some ⟨k,0,none⟩),.int .i64 (p:Int),.string (S t)] 281))=.ok (.bool (decide (k=fb))) (w.alloc (.cells #[.pointer (some ⟨k,0,none⟩),.int .i64 (p:Int),.string (S t)] 281)):=by
  by_cases e:k=fb
  · subst e
    rw [decide_eq_true rfl]
    exact run_eql_ptr_same _ _ Tryz.underlying85 hi0
  · rw [decide_eq_false e]
    exact run_eql_ptr_other _ Tryz.underlying85 hi0 (by omega) (fun q=>e (congrArg Addr.block q)) hk2 hf2
 clear hc hk hf hk2 hf2 hi0 hz1
 generalize decide (k=fb)=bb at *
 go_enter Tryz.func228,Tryz.ntmps228
 go_wp2_with fail
 go_ret
 exact ⟨rfl,hb.out⟩
def RowW (w:World) (a:Option Addr) (ws:List WriteD):Prop:=∀ (k:Nat) (h:k < ws.length),∃ g,a=some ⟨g,0,none⟩∧g < w.heap.size∧w.cell? ⟨g,k * 3,none⟩=some (.pointer (some ⟨ws[k].blk,0,none⟩))∧w.cell? ⟨g,k * 3+1,none⟩=some (.int .i64 (ws[k].pos:Int))∧w.cell? ⟨g,k * 3+2,none⟩=some (.string (S ws[k].txt))
theorem RowW.below {w w':World} {a:Option Addr} {ws:List WriteD} (h:RowW w a ws) (hb:Below w.heap.size w w'):RowW w' a ws:=by
 intro k hk
 obtain ⟨g,e,hl,h1,h2,h3⟩:=h k hk
 exact ⟨g,e,Nat.lt_of_lt_of_le hl hb.size,by rw [hb.cell hl]; exact h1,by rw [hb.cell hl]; exact h2,by rw [hb.cell hl]; exact h3⟩
structure Seen (w:World) (bx fb:Nat) (ws:List WriteD):Prop where
 box:w.cell? ⟨bx,0,none⟩=some (.pointer (some ⟨fb,0,none⟩))
 file:∃ ca ta,w.heap[fb]?=some (.cells ca ta (0,0))
 all:∀ x∈ws,∃ ca ta,w.heap[x.blk]?=some (.cells ca ta (0,0))
theorem Seen.below {w w':World} {bx fb:Nat} {ws:List WriteD} (h:Seen w bx fb ws) (hb:Below w.heap.size w w'):Seen w' bx fb ws:=by
 refine ⟨by rw [hb.cell (cell_lt h.box)]; exact h.box,?_,fun x hx=>?_⟩
 · obtain ⟨ca,ta,hh⟩:=h.file
   exact ⟨ca,ta,(hb.block _ (Array.getElem?_eq_some_iff.1 hh).1).trans hh⟩
 · obtain ⟨ca,ta,hh⟩:=h.all x hx
   exact ⟨ca,ta,(hb.block _ (Array.getElem?_eq_some_iff.1 hh).1).trans hh⟩
def idxL (fb:Nat):List WriteD→Nat→Int
 | [],_ => -1
 | x :: l,i=>if x.blk=fb then (i:Int) else idxL fb l (i+1)
theorem idxL_hit (fb:Nat):∀ (ws:List WriteD) (k i:Nat) (h:k < ws.length),(∀ j (hj:j < k),(ws[j]'(by omega)).blk≠fb)→ws[k].blk=fb→idxL fb ws i=((i+k:Nat):Int)
 | x :: l,0,i,h,_,he=>by show (if x.blk=fb then (i:Int) else _)=_; rw [if_pos (show x.blk=fb from he)]; rfl
 | x :: l,k+1,i,h,hn,he=>by
   show (if x.blk=fb then (i:Int) else idxL fb l (i+1))=_
   rw [if_neg (show ¬ x.blk=fb from hn 0 (by omega)),idxL_hit fb l k (i+1) (by simpa using h) (fun j hj=>hn (j+1) (by omega)) he]
   congr 1; omega
theorem idxL_none (fb:Nat):∀ (ws:List WriteD) (i:Nat),(∀ x∈ws,x.blk≠fb)→idxL fb ws i = -1
 | [],_,_=>rfl
 | x :: l,i,h=>by show (if x.blk=fb then (i:Int) else idxL fb l (i+1))=_; rw [if_neg (h x (.head _)),idxL_none fb l (i+1) (fun y hy=>h y (.tail _ hy))]
theorem index_any (a:Option Addr) (cp:Nat) (ws:List WriteD) (hx:ws.length≤1048576) (bx fb:Nat) (w:World) (hr:RowW w a ws) (hs:Seen w bx fb ws) :
 Calls Tryz.prog 227 #[.slice a ws.length cp,.func (.func 228) #[] #[.pointer (some ⟨bx,0,none⟩)]] w fun e w'=>e=.returned (.int .i64 (idxL fb ws 0))∧Below w.heap.size w w':=by
 have HR:=Lib.hid hr
 have HS:=Lib.hid hs
 clear hr hs
 go_enter Tryz.func227,Tryz.ntmps227
 go_wp2_with fail
 go_loopw [8] (fun i wr=>∃ k:Nat,k≤ws.length∧i=.int .i64 (k:Int)∧Hid (∀ x∈ws.take k,x.blk≠fb)∧Hid (Below w.heap.size w wr)) (fun i _=>ws.length+1 - (intOf i).toNat)
 case atStart=>exact ⟨0,by omega,rfl,fun x hx=>by simp at hx,Below.refl _ _⟩
 case round =>
  obtain ⟨k,hk,rfl,HA,HB⟩:=hrel
  by_cases hlt:k < ws.length
  ·
   obtain ⟨g,rfl,hgl,h1,h2,h3⟩:=(HR.out.below HB.out) k hlt
   obtain ⟨ca,ta,hca⟩:=(HS.out.below HB.out).all ws[k] (List.getElem_mem hlt)
   obtain ⟨cb,tb,hcb⟩:=(HS.out.below HB.out).file
   have HCL:=Lib.hid (closure_any fb ws[k].blk ws[k].pos bx ws[k].txt wr (HS.out.below HB.out).box hca hcb)
   clear hca hcb
   have hst:ws.take (k+1)=ws.take k++[ws[k]]:=List.take_succ_eq_append_getElem hlt
   by_cases he:ws[k].blk=fb
   ·
    have HT:Hid (idxL fb ws 0=(k:Int)):=by
     show _=_
     rw [idxL_hit fb ws k 0 hlt (fun j hj=>HA.out _ (List.mem_take_iff_getElem.2 ⟨j,by omega,rfl⟩)) he,Nat.zero_add]
    rw [decide_eq_true he] at HCL
    clear hst he
    go_wp2_with fail
    refine HCL.out.mono ?_
    rintro e w2 ⟨rfl,hb⟩
    have HB2:=Lib.hid (HB.out.trans (hb.mono HB.out.size))
    clear hb HCL h1 h2 h3
    go_wp2_with fail
    go_ret
    rw [HT.out]
    exact ⟨rfl,HB2.out⟩
   ·
    have HA2:Hid (∀ x∈ws.take (k+1),x.blk≠fb):=by
     show ∀ x∈ws.take (k+1),x.blk≠fb
     rw [hst]
     intro x hx
     rcases List.mem_append.1 hx with h | h
     · exact HA.out x h
     · rw [List.mem_singleton] at h; subst h; exact he
    rw [decide_eq_false he] at HCL
    clear hst he
    go_wp2_with fail
    refine HCL.out.mono ?_
    rintro e w2 ⟨rfl,hb⟩
    have HB2:=Lib.hid (HB.out.trans (hb.mono HB.out.size))
    clear hb HCL h1 h2 h3
    go_wp2_with fail
    go_roundw
    case rel=>exact ⟨k+1,by omega,by go_num,HA2,HB2⟩
    case measure=>simp [intOf]; omega
  ·
   obtain rfl:k=ws.length:=by omega
   have HT:Hid (idxL fb ws 0 = -1):=by
    show _=_
    have:=HA.out
    rw [List.take_length] at this
    exact idxL_none fb ws 0 this
   go_wp2_with fail
   go_ret
   rw [HT.out]
   exact ⟨rfl,HB.out⟩
theorem waitsL_cons (x:WriteD) (l:List WriteD):waitsL (x :: l)=x.cells++waitsL l:=rfl
theorem waitsL_app (a b:List WriteD):waitsL (a++b)=waitsL a++waitsL b:=by unfold waitsL; simp
theorem waitsL_get:∀ (l:List WriteD) (k r:Nat) (h:k < l.length),r < 3→(waitsL l)[k * 3+r]?=(l[k]).cells[r]?
 | x :: l,0,r,_,hr=>by
   rw [waitsL_cons,Nat.zero_mul,Nat.zero_add,List.getElem?_append_left (by show r < 3; omega)]; rfl
 | x :: l,k+1,r,h,hr=>by
   have h3:(k+1) * 3+r=3+(k * 3+r):=by omega
   rw [waitsL_cons,h3,List.getElem?_append_right (by show 3≤_; omega)]
   have:3+(k * 3+r) - x.cells.length=k * 3+r:=by show 3+(k * 3+r) - 3=_; omega
   rw [this]
   exact waitsL_get l k r (by simpa using h) hr
theorem waitsL_set:∀ (l:List WriteD) (k:Nat) (x:WriteD),k < l.length →
 (((waitsL l).set (k * 3) (.pointer (some ⟨x.blk,0,none⟩))).set (k * 3+1) (.int .i64 (x.pos:Int))).set (k * 3+2) (.string (S x.txt))=waitsL (l.set k x)
 | y :: l,0,x,_=>rfl
 | y :: l,k+1,x,h=>by
   have ih:=waitsL_set l k x (by simpa using h)
   have e0:(k+1) * 3=k * 3+1+1+1:=by omega
   have e1:(k+1) * 3+1=(k * 3+1)+1+1+1:=by omega
   have e2:(k+1) * 3+2=(k * 3+2)+1+1+1:=by omega
   rw [e1,e2,e0,waitsL_cons,List.set_cons_succ,waitsL_cons]
   show ((((Value.pointer (some ⟨y.blk,0,none⟩) :: .int .i64 (y.pos:Int) :: .string (S y.txt) :: waitsL l).set (k * 3+1+1+1) _).set (k * 3+1+1+1+1) _).set (k * 3+2+1+1+1) _)=_
   simp only [List.set_cons_succ]
   rw [ih]; rfl
def Row3 (w:World) (g:Nat) (cur:List WriteD) (rest:List Value):Prop:=w.heap[g]?=some (.cells (waitsL cur++rest).toArray 281 (0,0))
theorem Row3.cell {w:World} {g:Nat} {cur:List WriteD} {rest:List Value} (h:Row3 w g cur rest) (k r:Nat) (hk:k < cur.length) (hr:r < 3):w.cell? ⟨g,k * 3+r,none⟩=(cur[k]).cells[r]?:=by
 unfold World.cell?
 rw [show w.heap[(⟨g,k * 3+r,none⟩:Addr).block]?=_ from h]
 show (waitsL cur++rest).toArray[k * 3+r]?=_
 have hl:k * 3+r < (waitsL cur).length:=by rw [waitsL_length]; omega
 rw [List.getElem?_toArray,List.getElem?_append_left hl]
 exact waitsL_get cur k r hk hr
theorem Row3.frozen {w:World} {g:Nat} {cur:List WriteD} {rest:List Value} (h:Row3 w g cur rest) (i:Nat):w.frozen? ⟨g,i,none⟩=false:=by
 unfold World.frozen?; rw [show w.heap[(⟨g,i,none⟩:Addr).block]?=_ from h]; rfl
theorem Row3.rowW {w:World} {g:Nat} {cur:List WriteD} {rest:List Value} (h:Row3 w g cur rest):RowW w (some ⟨g,0,none⟩) cur:=fun k hk =>
 ⟨g,rfl,(Array.getElem?_eq_some_iff.1 h).1,h.cell k 0 hk (by omega),h.cell k 1 hk (by omega),h.cell k 2 hk (by omega)⟩
theorem Row3.below {w w':World} {g:Nat} {cur:List WriteD} {rest:List Value} (h:Row3 w g cur rest) (hb:Below w.heap.size w w'):Row3 w' g cur rest :=
 (hb.block g (Array.getElem?_eq_some_iff.1 h).1).trans h
theorem Row3.put {w:World} {g:Nat} {cur:List WriteD} {rest:List Value} (h:Row3 w g cur rest) (k:Nat) (hk:k < cur.length) (x:WriteD) :
 Row3 (((w.setCell ⟨g,k * 3,none⟩ (.pointer (some ⟨x.blk,0,none⟩))).setCell ⟨g,k * 3+1,none⟩ (.int .i64 (x.pos:Int))).setCell ⟨g,k * 3+2,none⟩ (.string (S x.txt))) g (cur.set k x) rest:=by
 have hl:(waitsL cur).length=cur.length * 3:=waitsL_length cur
 refine (heap_setCell_same _ g (k * 3+2) _ _ _ (heap_setCell_same _ g (k * 3+1) _ _ _ (heap_setCell_same w g (k * 3) _ _ _ h))).trans ?_
 rw [← waitsL_set cur k x hk]
 simp only [List.setIfInBounds_toArray]
 congr 3
 rw [List.set_append_left _ _ (by omega),List.set_append_left _ _ (by rw [List.length_set]; omega),List.set_append_left _ _ (by rw [List.length_set,List.length_set]; omega)]
theorem clear_writes {w:World} {g:Nat} {cur:List WriteD} {rest:List Value} (h:Row3 w g cur rest) (i:Nat) (hi:i≤cur.length) (c:Nat) (ty:TypeId) :
 ∃ w',(Builtin.clear_ #[76] ty #[.slice (some ⟨g,i * 3,none⟩) (cur.length - i) c]).run Tryz.prog w=.ok (.tuple #[]) w'∧(∃ cs,w'.heap[g]?=some (.cells cs 281 (0,0))∧cs.size=(waitsL cur++rest).length∧cs.toList.take (i * 3)=waitsL (cur.take i))∧Mod (fun k=>k=g) w w':=by
 have hl:(waitsL cur).length=cur.length * 3:=waitsL_length cur
 have htk:∀ (rest:List Value),(waitsL cur++rest).take (i * 3)=waitsL (cur.take i):=by
  intro rest
  have h1:waitsL cur=waitsL (cur.take i)++waitsL (cur.drop i):=by rw [← waitsL_app,List.take_append_drop]
  have h2:(waitsL (cur.take i)).length=i * 3:=by rw [waitsL_length,List.length_take]; omega
  rw [h1,List.append_assoc]
  rw [← h2]; exact List.take_left
 have hu:=Tryz.underlying76
 by_cases h0:cur.length - i=0
 · refine ⟨w,?_,⟨_,h,by simp,by rw [List.toList_toArray]; exact htk rest⟩,Mod.refl _ _⟩
   rw [h0]
   simp [Builtin.clear_,run_underlying hu]
 ·
  obtain ⟨i0,hi0,hz0⟩:∃ i,Tryz.prog.info? 281=some i∧i.zero=some (.agg #[.pointer none,.int .i64 0,.string ⟨#[]⟩]):=by
   have:=(show (Tryz.prog.info? 281).map (fun i=>i.zero)=some (some (.agg #[.pointer none,.int .i64 0,.string ⟨#[]⟩])) by kernel_rfl)
   cases hh:Tryz.prog.info? 281 with
   | none=>rw [hh] at this; cases this
   | some i=>rw [hh] at this; exact ⟨i,rfl,Option.some.inj this⟩
  have hzs:(Builtin.zeroCells #[.pointer none,.int .i64 0,.string ⟨#[]⟩] (cur.length - i)).toList.length=(cur.length - i) * 3:=by
   rw [Array.length_toList,size_zeroCells]; rfl
  have hone:∀ v∈(Builtin.zeroCells #[.pointer none,.int .i64 0,.string ⟨#[]⟩] (cur.length - i)).toList,v.oneCell'=true:=by
   intro v hv
   simp only [Builtin.zeroCells,Array.toList_map,List.mem_map] at hv
   obtain ⟨j,_,rfl⟩:=hv
   have:j % 3 < 3:=Nat.mod_lt _ (by omega)
   show Value.oneCell' (#[Value.pointer none,.int .i64 0,.string ⟨#[]⟩][j % 3]!)=true
   match j % 3,this with
   | 0,_=>rfl
   | 1,_=>rfl
   | 2,_=>rfl
  have hst:=run_storeCells_at (P:=Tryz.prog) g (i * 3) 281 _ 0 _ w h (by rw [hzs]; simp; omega) hone
  have hcl:(Value.agg #[.pointer none,.int .i64 0,.string ⟨#[]⟩]).cells=#[.pointer none,.int .i64 0,.string ⟨#[]⟩]:=rfl
  rw [List.toList_toArray,Nat.add_zero,hzs] at hst
  generalize hZ:(Builtin.zeroCells #[.pointer none,.int .i64 0,.string ⟨#[]⟩] (cur.length - i)).toList=Z at *
  obtain ⟨A,hA⟩:∃ A,(((waitsL cur++rest).take (i * 3))++Z++((waitsL cur++rest).drop (i * 3+(cur.length - i) * 3))).toArray=A:=⟨_,rfl⟩
  rw [hA] at hst
  have hAs:A.size=(waitsL cur++rest).length:=by
   rw [← hA,List.size_toArray]
   simp only [List.length_append,List.length_take,List.length_drop,hzs]
   omega
  have hAt:A.toList.take (i * 3)=waitsL (cur.take i):=by
   rw [← hA,List.toList_toArray,List.append_assoc,List.take_append_of_le_length (by rw [List.length_take]; simp; omega),List.take_take,Nat.min_self]
   exact htk rest
  refine ⟨w.setRow g A,?_,⟨A,setRow_heap w g _ _ _ _ h,hAs,hAt⟩,⟨rfl,rfl,rfl,by simp,fun k _ hk=>setRow_other w g k _ hk⟩⟩
  obtain ⟨m,hm⟩:∃ m,cur.length - i=m+1:=⟨cur.length - i - 1,by omega⟩
  rw [hm] at hZ ⊢
  simp [Builtin.clear_,run_underlying hu,zeroValue,typeInfo,hi0,hz0,Result.andThen,hcl,hZ,hst]
def keepB (fb:Nat) (x:WriteD):Bool:=!decide (x.blk=fb)
def others (fb:Nat) (ws:List WriteD):List WriteD:=ws.filter (keepB fb)
theorem idxL_cases (fb:Nat):∀ (ws:List WriteD) (i:Nat),(idxL fb ws i = -1∧others fb ws=ws)∨∃ k,∃ h:k < ws.length,idxL fb ws i=((i+k:Nat):Int)∧ws[k].blk=fb∧others fb (ws.take (k+1))=ws.take k
 | [],i=>.inl ⟨rfl,rfl⟩
 | x :: l,i=>by
   by_cases e:x.blk=fb
   ·
    right
    refine ⟨0,by simp,?_,e,?_⟩
    · show (if x.blk=fb then (i:Int) else _)=_
      rw [if_pos e]; rfl
    · show others fb [x]=[]
      unfold others keepB
      simp [e]
   ·
    have hk:keepB fb x=true:=by unfold keepB; simp [e]
    have hidx:idxL fb (x :: l) i=idxL fb l (i+1):=by show (if x.blk=fb then (i:Int) else _)=_; rw [if_neg e]
    rcases idxL_cases fb l (i+1) with ⟨h1,h2⟩ | ⟨k,hkl,h1,h2,h3⟩
    · left
      refine ⟨hidx.trans h1,?_⟩
      show List.filter (keepB fb) (x :: l)=_
      rw [List.filter_cons_of_pos hk]
      congr 1
    · right
      refine ⟨k+1,by simpa using hkl,?_,h2,?_⟩
      · rw [hidx,h1]; congr 1; omega
      · show List.filter (keepB fb) (x :: l.take (k+1))=x :: l.take k
        rw [List.filter_cons_of_pos hk]
        congr 1
theorem others_step (fb:Nat) (ws:List WriteD) (j:Nat) (h:j < ws.length):others fb (ws.take (j+1))=others fb (ws.take j)++(if ws[j].blk=fb then [] else [ws[j]]):=by
 unfold others
 rw [List.take_succ_eq_append_getElem h,List.filter_append]
 congr 1
 by_cases e:ws[j].blk=fb
 · rw [if_pos e]; simp [keepB,e]
 · rw [if_neg e]; simp [keepB,e]
theorem others_len (fb:Nat) (ws:List WriteD) (j:Nat):(others fb (ws.take j)).length≤j:=by
 have:=List.length_filter_le (keepB fb) (ws.take j)
 unfold others
 rw [List.length_take] at this; omega
theorem Seen.mod {w w':World} {bx fb g:Nat} {ws:List WriteD} (h:Seen w bx fb ws) (hm:Mod (fun k=>k=g) w w') (hbx:bx≠g) (hfb:fb≠g) (hws:∀ x∈ws,x.blk≠g):Seen w' bx fb ws:=by
 refine ⟨by rw [hm.cell (cell_lt h.box) hbx]; exact h.box,?_,fun x hx=>?_⟩
 · obtain ⟨ca,ta,hh⟩:=h.file
   exact ⟨ca,ta,(hm.block _ (Array.getElem?_eq_some_iff.1 hh).1 hfb).trans hh⟩
 · obtain ⟨ca,ta,hh⟩:=h.all x hx
   exact ⟨ca,ta,(hm.block _ (Array.getElem?_eq_some_iff.1 hh).1 (hws x hx)).trans hh⟩
theorem delete_any (g cp:Nat) (ws:List WriteD) (rest:List Value) (hx:ws.length≤1048576) (hle:ws.length≤cp) (bx fb:Nat) (w:World) (hr:Row3 w g ws rest) (hs:Seen w bx fb ws) (hbx:bx≠g) (hfb:fb≠g) (hws:∀ x∈ws,x.blk≠g) :
 Calls Tryz.prog 201 #[.slice (some ⟨g,0,none⟩) ws.length cp,.func (.func 228) #[] #[.pointer (some ⟨bx,0,none⟩)]] w fun e w' =>
  e=.returned (.slice (some ⟨g,0,none⟩) (others fb ws).length cp)∧(∃ cs,w'.heap[g]?=some (.cells cs 281 (0,0))∧cs.size=(waitsL ws++rest).length∧cs.toList.take ((others fb ws).length * 3)=waitsL (others fb ws))∧Mod (fun k=>k=g) w w':=by
 have HIX:=Lib.hid (index_any (some ⟨g,0,none⟩) cp ws hx bx fb w hr.rowW hs)
 have HR:=Lib.hid hr
 have HS:=Lib.hid hs
 have HWS:=Lib.hid hws
 clear hr hs hws
 rcases idxL_cases fb ws 0 with ⟨h1,h2⟩ | ⟨k0,hk0,h1,h2,h3⟩
 ·
  rw [h1] at HIX
  have HO:=Lib.hid h2
  clear h1 h2
  go_enter Tryz.func201,Tryz.ntmps201
  go_wp2_with fail
  refine HIX.out.mono ?_
  rintro e w2 ⟨rfl,hb⟩
  have HB:=Lib.hid hb
  clear hb HIX
  go_wp2_with fail
  go_ret
  rw [HO.out]
  refine ⟨rfl,⟨_,HR.out.below HB.out,by simp,?_⟩,Mod.of_below HB.out⟩
  rw [List.toList_toArray,← waitsL_length]
  exact List.take_left
 ·
  rw [h1,Nat.zero_add] at HIX
  have HO:=Lib.hid h3
  have hkm:((k0:Int) == -1)=false:=by rw [beq_eq_false_iff_ne]; omega
  have HLT:Hid ((others fb ws).length < ws.length):=by
   show (ws.filter (keepB fb)).length < _
   rw [List.length_filter_lt_length_iff_exists]
   exact ⟨ws[k0],List.getElem_mem hk0,by simp [keepB,h2]⟩
  clear h1 h2 h3
  go_enter Tryz.func201,Tryz.ntmps201
  go_wp2_with fail
  refine HIX.out.mono ?_
  rintro e w2 ⟨rfl,hb⟩
  have HB:=Lib.hid hb
  clear hb HIX
  go_wp2_with fail
  go_loopw [5,6] (fun s5 s6 wr=>∃ (j:Nat) (cur:List WriteD),j≤ws.length∧s6=.int .i64 (j:Int)∧s5=.int .i64 ((others fb (ws.take j)).length:Int)∧cur.length=ws.length∧Hid (cur.take (others fb (ws.take j)).length=others fb (ws.take j))∧Hid (cur.drop j=ws.drop j)∧Hid (Row3 wr g cur rest)∧Hid (Mod (fun k=>k=g) w wr)) (fun _ s6 _=>ws.length+1 - (intOf s6).toNat)
  case atStart =>
   refine ⟨k0+1,ws,by omega,by go_num,?_,rfl,?_,rfl,HR.out.below HB.out,Mod.of_below HB.out⟩
   · rw [HO.out,List.length_take,Nat.min_eq_left (by omega)]
   · show _=_
     rw [HO.out,List.length_take,Nat.min_eq_left (by omega)]
  case round =>
   obtain ⟨j,cur,hj,rfl,rfl,hcl,HT,HDR,HRW,HMD⟩:=hrel
   have hol:=others_len fb ws j
   by_cases hlt:j < ws.length
   ·
    have hcj:cur[j]'(by omega)=ws[j]:=by
     have h1:(cur.drop j)[0]?=(ws.drop j)[0]?:=by rw [HDR.out]
     rw [List.getElem?_drop,List.getElem?_drop,Nat.add_zero,List.getElem?_eq_getElem (by omega),List.getElem?_eq_getElem hlt] at h1
     exact Option.some.inj h1
    have hst:=others_step fb ws j hlt
    have hxm:ws[j]∈ws:=List.getElem_mem hlt
    have hc0:wr.cell? ⟨g,j * 3,none⟩=some (.pointer (some ⟨ws[j].blk,0,none⟩)):=by have:=HRW.out.cell j 0 (by omega) (by omega); rw [hcj] at this; exact this
    have hc1:wr.cell? ⟨g,j * 3+1,none⟩=some (.int .i64 (ws[j].pos:Int)):=by have:=HRW.out.cell j 1 (by omega) (by omega); rw [hcj] at this; exact this
    have hc2:wr.cell? ⟨g,j * 3+2,none⟩=some (.string (S ws[j].txt)):=by have:=HRW.out.cell j 2 (by omega) (by omega); rw [hcj] at this; exact this
    have HSR:=Lib.hid (HS.out.mod HMD.out hbx hfb HWS.out)
    have hdr2:cur.drop (j+1)=ws.drop (j+1):=by
     have:(cur.drop j).drop 1=(ws.drop j).drop 1:=by rw [HDR.out]
     simpa [List.drop_drop] using this
    have HDR2:=Lib.hid hdr2
    have HST:=Lib.hid hst
    have HXM:=Lib.hid hxm
    have hgl:g < wr.heap.size:=(Array.getElem?_eq_some_iff.1 HRW.out).1
    clear hcj hdr2 hst hxm HDR
    have HLJ:=Lib.hid (show (ws.drop j).length=ws.length - j from List.length_drop)
    generalize ws[j]=x at *
    generalize hF:others fb (ws.take j)=F at *
    have hFj:F.length≤j:=hol
    have HB1:Hid (Below wr.heap.size wr (wr.alloc (.cells #[.pointer (some ⟨x.blk,0,none⟩),.int .i64 (x.pos:Int),.string (S x.txt)] 281))):=(Below.refl _ _).alloc (Nat.le_refl _) _
    have HSB:=Lib.hid (HSR.out.below HB1.out)
    obtain ⟨ca,ta,hca⟩:=HSB.out.all x HXM.out
    obtain ⟨cb,tb,hcb⟩:=HSB.out.file
    have HCL:=Lib.hid (closure_any fb x.blk x.pos bx x.txt _ HSB.out.box hca hcb)
    have hn0:(wr.alloc (.cells #[.pointer (some ⟨x.blk,0,none⟩),.int .i64 (x.pos:Int),.string (S x.txt)] 281)).cell? ⟨wr.heap.size,0,none⟩=some (.pointer (some ⟨x.blk,0,none⟩)):=by rw [World.cell?_alloc_new]; rfl
    have hn1:(wr.alloc (.cells #[.pointer (some ⟨x.blk,0,none⟩),.int .i64 (x.pos:Int),.string (S x.txt)] 281)).cell? ⟨wr.heap.size,1,none⟩=some (.int .i64 (x.pos:Int)):=by rw [World.cell?_alloc_new]; rfl
    have hn2:(wr.alloc (.cells #[.pointer (some ⟨x.blk,0,none⟩),.int .i64 (x.pos:Int),.string (S x.txt)] 281)).cell? ⟨wr.heap.size,2,none⟩=some (.string (S x.txt)):=by rw [World.cell?_alloc_new]; rfl
    clear hca hcb
    go_upto_region 8 with fail
    clear hc0 hc1 hc2
    have hszn:wr.heap.size < (wr.alloc (.cells #[.pointer (some ⟨x.blk,0,none⟩),.int .i64 (x.pos:Int),.string (S x.txt)] 281)).heap.size:=by simp
    generalize wr.alloc (.cells #[.pointer (some ⟨x.blk,0,none⟩),.int .i64 (x.pos:Int),.string (S x.txt)] 281)=wb at *
    by_cases he:x.blk=fb
    ·
     have HF2:Hid (others fb (ws.take (j+1))=F):=by show _=_; rw [HST.out,if_pos he,List.append_nil]
     rw [decide_eq_true he] at HCL
     clear he
     go_wp2_with fail
     refine HCL.out.mono ?_
     rintro e w3 ⟨rfl,hb3⟩
     have HRW3:=Lib.hid ((HRW.out.below HB1.out).below hb3)
     have HMD3:Hid (Mod (fun k=>k=g) w w3):=(HMD.out.trans (Mod.of_below HB1.out)).trans (Mod.of_below hb3)
     clear hb3 HCL hn0 hn1 hn2
     go_wp2_with fail
     go_roundw
     case rel=>exact ⟨j+1,cur,by omega,by go_num,by rw [HF2.out],hcl,by show _=_; rw [HF2.out]; exact HT.out,HDR2,HRW3,HMD3⟩
     case measure=>simp [intOf]; omega
    ·
     have HF2:Hid (others fb (ws.take (j+1))=F++[x]):=by show _=_; rw [HST.out,if_neg he]
     rw [decide_eq_false he] at HCL
     clear he
     go_wp2_with fail
     refine HCL.out.mono ?_
     rintro e w3 ⟨rfl,hb3⟩
     have HRW3:=Lib.hid ((HRW.out.below HB1.out).below hb3)
     have HMD3:Hid (Mod (fun k=>k=g) w w3):=(HMD.out.trans (Mod.of_below HB1.out)).trans (Mod.of_below hb3)
     have hm0:w3.cell? ⟨wr.heap.size,0,none⟩=some (.pointer (some ⟨x.blk,0,none⟩)):=by rw [hb3.cell hszn]; exact hn0
     have hm1:w3.cell? ⟨wr.heap.size,1,none⟩=some (.int .i64 (x.pos:Int)):=by rw [hb3.cell hszn]; exact hn1
     have hm2:w3.cell? ⟨wr.heap.size,2,none⟩=some (.string (S x.txt)):=by rw [hb3.cell hszn]; exact hn2
     clear hb3 HCL hn0 hn1 hn2
     have hil:F.length < cur.length:=by omega
     have ho0:w3.cell? ⟨g,F.length * 3,none⟩=some (.pointer (some ⟨cur[F.length].blk,0,none⟩)):=HRW3.out.cell F.length 0 hil (by omega)
     have ho1:w3.cell? ⟨g,F.length * 3+1,none⟩=some (.int .i64 (cur[F.length].pos:Int)):=HRW3.out.cell F.length 1 hil (by omega)
     have ho2:w3.cell? ⟨g,F.length * 3+2,none⟩=some (.string (S cur[F.length].txt)):=HRW3.out.cell F.length 2 hil (by omega)
     have hfz:∀ k,w3.frozen? ⟨g,k,none⟩=false:=fun k=>HRW3.out.frozen k
     have HPUT:=Lib.hid (HRW3.out.put F.length hil x)
     have HMP:Hid (Mod (fun k=>k=g) w3 (((w3.setCell ⟨g,F.length * 3,none⟩ (.pointer (some ⟨x.blk,0,none⟩))).setCell ⟨g,F.length * 3+1,none⟩ (.int .i64 (x.pos:Int))).setCell ⟨g,F.length * 3+2,none⟩ (.string (S x.txt)))):=((mod_set _ _ _ _).trans (mod_set _ _ _ _)).trans (mod_set _ _ _ _)
     have hne:wr.heap.size≠g:=by omega
     go_wp2_with fail
     go_roundw
     case rel =>
      refine ⟨j+1,cur.set F.length x,by omega,by go_num,by rw [HF2.out,List.length_append]; go_num,by rw [List.length_set]; exact hcl,?_,?_,HPUT.out,HMD3.out.trans HMP.out⟩
      · show _=_
        rw [HF2.out,List.length_append]
        show (cur.set F.length x).take (F.length+1)=_
        rw [List.take_succ_eq_append_getElem (by rw [List.length_set]; exact hil),List.take_set_of_le (Nat.le_refl _),HT.out]
        simp
      · show _=_
        rw [List.drop_set_of_lt (by omega)]
        exact HDR2.out
     case measure=>simp [intOf]; omega
   ·
    obtain rfl:j=ws.length:=by omega
    rw [List.take_length] at hol HT
    have hlt2:=HLT.out
    obtain ⟨w4,hcr,⟨cs,hcs,hcz,hct⟩,hcm⟩:=clear_writes HRW.out (others fb ws).length (by omega) (cp - (others fb ws).length) 0
    rw [hcl] at hcr
    rw [HT.out] at hct
    have HLN:=Lib.hid (show (waitsL cur++rest).length=(waitsL ws++rest).length from by rw [List.length_append,List.length_append,waitsL_length,waitsL_length,hcl])
    have HCS:=Lib.hid hcs
    have HCZ:=Lib.hid hcz
    have HCT:=Lib.hid hct
    have HCM:=Lib.hid (HMD.out.trans hcm)
    rw [List.take_length]
    have HCR:=Lib.hid hcr
    clear hcs hcz hct hcm HT HDR hcr HLT
    generalize hFe:others fb ws=F at *
    have HFE:Hid (others fb ws=F):=hFe
    clear hFe
    have hnc:¬ cp=F.length:=by omega
    go_wp2_with fail
    rw [HCR.out]
    go_wp2_with fail
    go_ret
    rw [HFE.out]
    exact ⟨rfl,⟨cs,HCS.out,HCZ.out.trans HLN.out,HCT.out⟩,HCM.out⟩
def setImg (l:List (List UInt8×FileD)) (n:List UInt8) (t:List UInt8):List (List UInt8×FileD):=l.map fun p=>if p.1=n then (p.1,{ p.2 with img:=t }) else p
theorem setImg_fst (l:List (List UInt8×FileD)) (n t:List UInt8):(setImg l n t).map (·.1)=l.map (·.1):=by
 unfold setImg; rw [List.map_map]; apply List.map_congr_left; intro p _; show (if p.1=n then _ else p).1=_; split <;> rfl
theorem setImg_blk (l:List (List UInt8×FileD)) (n t:List UInt8):(setImg l n t).map (·.2.blk)=l.map (·.2.blk):=by
 unfold setImg; rw [List.map_map]; apply List.map_congr_left; intro p _; show (if p.1=n then _ else p).2.blk=_; split <;> rfl
theorem setImg_ptr (l:List (List UInt8×FileD)) (n t:List UInt8):(setImg l n t).map (fun p=>(Value.string (S p.1),Value.pointer (some ⟨p.2.blk,0,none⟩)))=l.map (fun p=>(Value.string (S p.1),Value.pointer (some ⟨p.2.blk,0,none⟩))):=by
 unfold setImg; rw [List.map_map]; apply List.map_congr_left; intro p _; show ((Value.string (S (if p.1=n then _ else p).1),Value.pointer (some ⟨(if p.1=n then _ else p).2.blk,0,none⟩)):Value×Value)=_; split <;> rfl
theorem setImg_mem {l:List (List UInt8×FileD)} {n t:List UInt8} {q:List UInt8×FileD} (h:q∈setImg l n t):∃ p∈l,q.2.blk=p.2.blk∧q.1=p.1∧q.2.now=p.2.now∧(p.1=n→q.2.img=t)∧(p.1≠n→q=p):=by
 obtain ⟨p,hp,rfl⟩:=List.mem_map.1 h
 by_cases e:p.1=n
 · rw [if_pos e]; exact ⟨p,hp,rfl,rfl,rfl,fun _=>rfl,fun h=>absurd e h⟩
 · rw [if_neg e]; exact ⟨p,hp,rfl,rfl,rfl,fun h=>absurd h e,fun _=>rfl⟩
theorem setImg_has {l:List (List UInt8×FileD)} {n t:List UInt8} {p:List UInt8×FileD} (h:p∈l):∃ q∈setImg l n t,q.2.blk=p.2.blk :=
 ⟨_,List.mem_map.2 ⟨p,h,rfl⟩,by show (if p.1=n then _ else p).2.blk=_; split <;> rfl⟩
theorem sizeL_img (l:List (List UInt8×FileD)) (n t:List UInt8):sizeL (setImg l n t)=sizeL l:=by
 unfold sizeL setImg; rw [List.map_map]; congr 1; apply List.map_congr_left; intro p _; show (if p.1=n then _ else p).2.now.length=_; split <;> rfl
theorem DiskAt.set_img {base:Nat} {w:World} {D:DiskD} (h:DiskAt base w D) {n:List UInt8} {f:FileD} (hf:(n,f)∈D.files) (t:List UInt8) :
 DiskAt base (w.setCell ⟨f.blk,0,none⟩ (.string (S t))) { D with files:=setImg D.files n t }∧Mod D.foot w (w.setCell ⟨f.blk,0,none⟩ (.string (S t))):=by
 have hm:Mod (fun k=>k=f.blk) w (w.setCell ⟨f.blk,0,none⟩ (.string (S t))):=mod_set _ _ _ _
 have hmf:Mod D.foot w (w.setCell ⟨f.blk,0,none⟩ (.string (S t))):=hm.mono (fun k _ hk=>.inr (.inr (.inl ⟨_,hf,hk⟩)))
 have key:∀ k,D.foot k→k≠f.blk→(w.setCell ⟨f.blk,0,none⟩ (.string (S t))).heap[k]?=w.heap[k]?:=fun k hk hne=>hm.block k (h.lt hk) hne
 have hself:(w.setCell ⟨f.blk,0,none⟩ (.string (S t))).heap[f.blk]?=some (.cells #[.string (S t),.string (S f.now)] 87 (0,0)):=heap_set1 (h.file _ hf) _ rfl
 have hap:=h.apart.2.1 _ hf
 obtain ⟨es,c,m1,m2,m3⟩:=h.map
 refine ⟨⟨(key _ (.inl rfl) (fun e=>hap.1 e.symm)).trans h.head,⟨es,c,(key _ (.inr (.inl rfl)) (fun e=>hap.2 e.symm)).trans m1,m2,by rw [m3]; exact (setImg_ptr _ _ _).symm⟩,fun q hq=>?_,?_,by show ((setImg D.files n t).map (·.1)).Nodup; rw [setImg_fst]; exact h.names,by show ((setImg D.files n t).map (·.2.blk)).Nodup; rw [setImg_blk]; exact h.blocks,⟨h.apart.1,fun q hq=>?_,fun k hk=>⟨(h.apart.2.2 k hk).1,(h.apart.2.2 k hk).2.1,fun q hq=>?_⟩⟩,⟨h.above.1,h.above.2.1,fun q hq=>?_⟩,h.ints,by show ((sizeL (setImg D.files n t):Nat):Int)≤D.cap; rw [sizeL_img]; exact h.fits,fun x hx=>by obtain ⟨p,hp,e⟩:=h.waitf x hx; rw [← e]; exact setImg_has hp⟩,hmf⟩
 ·
  obtain ⟨p,hp,hb,h1,h2,h3,h4⟩:=setImg_mem hq
  by_cases e:p.1=n
  ·
   have hpf:p=(n,f):=by
    have h5:=find_blk D.files h.blocks
    have:∀ (l:List (List UInt8×FileD)),(l.map (·.1)).Nodup→∀ a∈l,∀ b∈l,a.1=b.1→a=b:=by
     intro l
     induction l with
     | nil=>intro _ a ha; cases ha
     | cons x l ih =>
       intro hn a ha b hb hab
       simp only [List.map_cons,List.nodup_cons] at hn
       rcases List.mem_cons.1 ha with e1 | h1
       · rcases List.mem_cons.1 hb with e2 | h2
         · rw [e1,e2]
         · exact absurd (show x.1∈l.map (·.1) from List.mem_map.2 ⟨b,h2,by rw [← e1]; exact hab.symm⟩) hn.1
       · rcases List.mem_cons.1 hb with e2 | h2
         · exact absurd (show x.1∈l.map (·.1) from List.mem_map.2 ⟨a,h1,by rw [← e2]; exact hab⟩) hn.1
         · exact ih hn.2 a h1 b h2 hab
    exact this _ h.names p hp _ hf e
   have hq2:q.2.cells=#[.string (S t),.string (S f.now)]:=by
    show #[Value.string (S q.2.img),Value.string (S q.2.now)]=_
    rw [h3 e,h2,hpf]
   rw [hb,hq2,hpf]; exact hself
  ·
   rw [h4 e]
   have hne:p.2.blk≠f.blk:=fun e2=>by
    have a1:=find_blk D.files h.blocks p hp
    have a2:=find_blk D.files h.blocks _ hf
    simp only at a2
    rw [e2,a2] at a1
    have:(n,f)=p:=Option.some.inj a1
    exact e (by rw [← this])
   exact (key _ (.inr (.inr (.inl ⟨p,hp,rfl⟩))) hne).trans (h.file p hp)
 ·
  refine ⟨h.row.1,?_⟩
  rcases h.row.2 with h0 | ⟨g,cap,cur,e,hb,hg,r⟩
  · exact .inl h0
  · have hown:D.wv.ownBlock=some g:=by rw [e]; rfl
    exact .inr ⟨g,cap,cur,e,hb,(key g (.inr (.inr (.inr hown))) ((h.apart.2.2 g hown).2.2 _ hf)).trans hg,r⟩
 · obtain ⟨p,hp,hb,_⟩:=setImg_mem hq
   rw [hb]; exact h.apart.2.1 p hp
 · obtain ⟨p,hp,hb,_⟩:=setImg_mem hq
   rw [hb]; exact (h.apart.2.2 k hk).2.2 p hp
 · obtain ⟨p,hp,hb,_⟩:=setImg_mem hq
   rw [hb]; exact h.above.2.2 p hp
theorem delete_nil (cp:Nat) (bx fb:Nat) (w:World) (hs:Seen w bx fb []) :
 Calls Tryz.prog 201 #[.slice none 0 cp,.func (.func 228) #[] #[.pointer (some ⟨bx,0,none⟩)]] w fun e w'=>e=.returned (.slice none 0 cp)∧Below w.heap.size w w':=by
 have HIX:=Lib.hid (index_any none cp [] (by simp) bx fb w (fun k hk=>absurd hk (Nat.not_lt_zero _)) hs)
 rw [show idxL fb [] 0 = -1 from rfl] at HIX
 clear hs
 go_enter Tryz.func201,Tryz.ntmps201
 go_wp2_with fail
 refine HIX.out.mono ?_
 rintro e w2 ⟨rfl,hb⟩
 have HB:=Lib.hid hb
 clear hb HIX
 go_wp2_with fail
 go_ret
 exact ⟨rfl,HB.out⟩
theorem seen_of {base:Nat} {w:World} {D:DiskD} (h:DiskAt base w D) {n:List UInt8} {f:FileD} (hf:(n,f)∈D.files) {bx:Nat} (hbx:w.cell? ⟨bx,0,none⟩=some (.pointer (some ⟨f.blk,0,none⟩))):Seen w bx f.blk D.waits :=
 ⟨hbx,⟨_,_,h.file _ hf⟩,fun x hx=>by obtain ⟨p,hp,e⟩:=h.waitf x hx; rw [← e]; exact ⟨_,_,h.file p hp⟩⟩
theorem del_waits {base:Nat} {w:World} {D:DiskD} (h:DiskAt base w D) {n:List UInt8} {f:FileD} (hf:(n,f)∈D.files) {bx:Nat} (hbx:w.cell? ⟨bx,0,none⟩=some (.pointer (some ⟨f.blk,0,none⟩))) (hbf:¬ D.foot bx) (hwl:D.waits.length≤1048576) :
 Calls Tryz.prog 201 #[D.wv,.func (.func 228) #[] #[.pointer (some ⟨bx,0,none⟩)]] w fun e w' =>
  ∃ wv,e=.returned wv∧w'.ownsRow base 281 3 wv (others f.blk D.waits).length (waitsL (others f.blk D.waits))∧w.grownBy w' D.wv.ownBlock∧wv.ownBlock=D.wv.ownBlock:=by
 have hs:=seen_of h hf hbx
 rcases h.row.2 with ⟨e,h0⟩ | ⟨g,cap,cur,e,hb,hg,hnc,hcm,hcs,htk⟩
 ·
  have hnil:D.waits=[]:=List.length_eq_zero_iff.1 h0
  rw [e,hnil]
  rw [hnil] at hs
  refine (delete_nil 0 bx f.blk w hs).mono ?_
  rintro e2 w2 ⟨rfl,hb2⟩
  exact ⟨_,rfl,⟨rfl,.inl ⟨rfl,rfl⟩⟩,⟨hb2.os,hb2.tape,hb2.output,hb2.size,fun k hk _=>hb2.block k hk⟩,rfl⟩
 ·
  have hown:D.wv.ownBlock=some g:=by rw [e]; rfl
  have hrow3:Row3 w g D.waits (cur.toList.drop (D.waits.length * 3)):=by
   show w.heap[g]?=_
   rw [hg,← htk,List.take_append_drop,Array.toArray_toList]
  have hlen:(waitsL D.waits++cur.toList.drop (D.waits.length * 3)).length=cap * 3:=by rw [← htk,List.take_append_drop,Array.length_toList]; exact hcs
  rw [e]
  have hap:=h.apart.2.2 g hown
  refine (delete_any g cap D.waits (cur.toList.drop (D.waits.length * 3)) hwl hnc bx f.blk w hrow3 hs (fun e2=>hbf (.inr (.inr (.inr (e2 ▸ hown))))) (fun e2=>hap.2.2 _ hf e2.symm) (fun x hx e2=>by
   obtain ⟨p,hp,e3⟩:=h.waitf x hx
   exact hap.2.2 p hp (by rw [e3]; exact e2.symm))).mono ?_
  rintro e2 w2 ⟨rfl,⟨cs,hc1,hc2,hc3⟩,hm⟩
  have hle:(others f.blk D.waits).length≤D.waits.length:=List.length_filter_le _ _
  refine ⟨_,rfl,⟨waitsL_length _,.inr ⟨g,cap,cs,rfl,hb,hc1,by omega,hcm,by rw [hc2]; exact hlen,hc3⟩⟩,⟨hm.os,hm.tape,hm.output,hm.size,fun k hk hne=>hm.block k hk (fun e3=>hne (by rw [e3]; rfl))⟩,rfl⟩
def DiskD.lasts (D:DiskD) (ns:List (List UInt8)) (wv:Value):DiskD :=
 { D with files:=D.files.map (fun p=>if p.1∈ns then (p.1,{ p.2 with img:=p.2.now }) else p),wv:=wv,waits:=D.waits.filter (fun x=>!D.files.any (fun p=>decide (p.1∈ns) && decide (x.blk=p.2.blk))) }
theorem lasts_nil (D:DiskD):D.lasts [] D.wv=D:=by
 unfold DiskD.lasts
 have h1:D.files.map (fun p=>if p.1∈([]:List (List UInt8)) then (p.1,{ p.2 with img:=p.2.now }) else p)=D.files:=by
  conv=>rhs; rw [← List.map_id D.files]
  apply List.map_congr_left; intro p _; simp
 have h2:D.waits.filter (fun x=>!D.files.any (fun p=>decide (p.1∈([]:List (List UInt8))) && decide (x.blk=p.2.blk)))=D.waits:=by
  rw [List.filter_eq_self]; intro x _; simp
 rw [h1,h2]
theorem lasts_step {D:DiskD} {l:List (List UInt8)} {n:List UInt8} {f:FileD} {wv wv':Value} (hn:(D.files.map (·.1)).Nodup) (hf:(n,f)∈D.files) :
 ({ (D.lasts l wv) with files:=setImg (D.lasts l wv).files n f.now,wv:=wv',waits:=others f.blk (D.lasts l wv).waits }:DiskD)=D.lasts (l++[n]) wv':=by
 unfold DiskD.lasts
 simp only [DiskD.mk.injEq,true_and,and_true]
 constructor
 ·
  unfold setImg
  rw [List.map_map]
  apply List.map_congr_left
  intro p hp
  have huniq:p.1=n→p=(n,f):=fun e=>by
   have:∀ (l:List (List UInt8×FileD)),(l.map (·.1)).Nodup→∀ a∈l,∀ b∈l,a.1=b.1→a=b:=by
    intro l
    induction l with
    | nil=>intro _ a ha; cases ha
    | cons x l ih =>
      intro hn a ha b hb hab
      simp only [List.map_cons,List.nodup_cons] at hn
      rcases List.mem_cons.1 ha with e1 | h1
      · rcases List.mem_cons.1 hb with e2 | h2
        · rw [e1,e2]
        · exact absurd (show x.1∈l.map (·.1) from List.mem_map.2 ⟨b,h2,by rw [← e1]; exact hab.symm⟩) hn.1
      · rcases List.mem_cons.1 hb with e2 | h2
        · exact absurd (show x.1∈l.map (·.1) from List.mem_map.2 ⟨a,h1,by rw [← e2]; exact hab⟩) hn.1
        · exact ih hn.2 a h1 b h2 hab
   exact this _ hn p hp _ hf e
  show (if (if p.1∈l then (p.1,({ p.2 with img:=p.2.now }:FileD)) else p).1=n then _ else _)=_
  by_cases e:p.1=n
  ·
   have hpf:=huniq e
   subst hpf
   by_cases h1:n∈l
   · simp [h1]
   · simp [h1]
  · by_cases h1:p.1∈l
    · simp [h1,e]
    · simp [h1,e]
 ·
  unfold others
  rw [List.filter_filter]
  apply List.filter_congr
  intro x _
  unfold keepB
  have hany:D.files.any (fun p=>decide (p.1∈l++[n]) && decide (x.blk=p.2.blk))=(decide (x.blk=f.blk) || D.files.any (fun p=>decide (p.1∈l) && decide (x.blk=p.2.blk))):=by
   rw [Bool.eq_iff_iff]
   simp only [List.any_eq_true,Bool.and_eq_true,decide_eq_true_eq,Bool.or_eq_true,List.mem_append,List.mem_singleton]
   constructor
   ·
    rintro ⟨p,hp,h1 | h1,h2⟩
    · exact .inr ⟨p,hp,h1,h2⟩
    ·
     left
     have:∀ (l:List (List UInt8×FileD)),(l.map (·.1)).Nodup→∀ a∈l,∀ b∈l,a.1=b.1→a=b:=by
      intro l
      induction l with
      | nil=>intro _ a ha; cases ha
      | cons x l ih =>
        intro hn a ha b hb hab
        simp only [List.map_cons,List.nodup_cons] at hn
        rcases List.mem_cons.1 ha with e1 | h1
        · rcases List.mem_cons.1 hb with e2 | h2
          · rw [e1,e2]
          · exact absurd (show x.1∈l.map (·.1) from List.mem_map.2 ⟨b,h2,by rw [← e1]; exact hab.symm⟩) hn.1
        · rcases List.mem_cons.1 hb with e2 | h2
          · exact absurd (show x.1∈l.map (·.1) from List.mem_map.2 ⟨a,h1,by rw [← e2]; exact hab⟩) hn.1
          · exact ih hn.2 a h1 b h2 hab
     have hpf:=this _ hn p hp _ hf h1
     rw [hpf] at h2; exact h2
   · rintro (h1 | ⟨p,hp,h1,h2⟩)
     · exact ⟨_,hf,.inr rfl,h1⟩
     · exact ⟨p,hp,.inl h1,h2⟩
  rw [hany,Bool.not_or]
theorem find_of_mem {D:DiskD} (hn:(D.files.map (·.1)).Nodup) {n:List UInt8} {f:FileD} (h:(n,f)∈D.files):D.find n=some f:=by
 unfold DiskD.find
 have:∀ (l:List (List UInt8×FileD)),(l.map (·.1)).Nodup→(n,f)∈l→l.find? (fun p=>p.1 == n)=some (n,f):=by
  intro l
  induction l with
  | nil=>intro _ h; cases h
  | cons x l ih =>
    intro hn h
    simp only [List.map_cons,List.nodup_cons] at hn
    rcases List.mem_cons.1 h with e | h
    · subst e; simp
    · have hne:(x.1 == n)=false:=by rw [beq_eq_false_iff_ne]; intro e; exact hn.1 (by rw [e]; exact List.mem_map.2 ⟨_,h,rfl⟩)
      rw [List.find?_cons,hne]; exact ih hn.2 h
 rw [this _ hn h]; rfl
theorem lasts_file {D:DiskD} {l:List (List UInt8)} {wv:Value} {n:List UInt8} {f:FileD} (h:(n,f)∈D.files):∃ f',(n,f')∈(D.lasts l wv).files∧f'.blk=f.blk∧f'.now=f.now:=by
 refine ⟨if n∈l then { f with img:=f.now } else f,?_,?_,?_⟩
 ·
  show _∈D.files.map _
  refine List.mem_map.2 ⟨_,h,?_⟩
  show (if n∈l then (n,({ f with img:=f.now }:FileD)) else (n,f))=_
  split <;> rfl
 · split <;> rfl
 · split <;> rfl
theorem lasts_foot {D:DiskD} {l:List (List UInt8)} {wv:Value} (h:wv.ownBlock=D.wv.ownBlock) (k:Nat):(D.lasts l wv).foot k↔D.foot k:=by
 have hb:(∃ p∈(D.lasts l wv).files,k=p.2.blk)↔∃ p∈D.files,k=p.2.blk:=by
  constructor
  · rintro ⟨p,hp,e⟩
    obtain ⟨q,hq,rfl⟩:=List.mem_map.1 hp
    exact ⟨q,hq,by rw [e]; split <;> rfl⟩
  · rintro ⟨p,hp,e⟩
    exact ⟨_,List.mem_map.2 ⟨p,hp,rfl⟩,by rw [e]; split <;> rfl⟩
 unfold DiskD.foot
 rw [hb,show (D.lasts l wv).wv=wv from rfl,h]
 exact Iff.rfl
theorem lasts_any {base:Nat} {D:DiskD} (a:Option Addr) (cap:Nat) (ns:List (List UInt8)) (hns:ns.length≤1048576) (w:World) (h:DiskAt base w D) (hr:Row1 w a (ns.map fun x=>.string (S x))) (haf:∀ ad,a=some ad→¬ D.foot ad.block)
 (hall:∀ n∈ns,∃ f,(n,f)∈D.files) (hwl:D.waits.length≤1048576) :
 Calls Tryz.prog 203 #[.pointer (some ⟨D.blk,0,none⟩),.slice a ns.length cap] w fun e w'=>e=.returned (.tuple #[])∧∃ wv,wv.ownBlock=D.wv.ownBlock∧DiskAt base w' (D.lasts ns wv)∧Mod D.foot w w':=by
 have HR:=Lib.hid hr
 have HAF:=Lib.hid haf
 have HAL:=Lib.hid hall
 have HD:=Lib.hid h
 clear hr haf hall h
 go_enter Tryz.func203,Tryz.ntmps203
 go_wp2_with fail
 go_loopw [9] (fun i wr=>∃ (k:Nat) (wv:Value),k≤ns.length∧i=.int .i64 (k:Int)∧Hid (wv.ownBlock=D.wv.ownBlock)∧Hid (DiskAt base wr (D.lasts (ns.take k) wv))∧Hid (Mod D.foot w wr)) (fun i _=>ns.length+1 - (intOf i).toNat)
 case atStart=>exact ⟨0,D.wv,by omega,rfl,rfl,by show DiskAt _ _ _; rw [List.take_zero,lasts_nil]; exact HD.out,Mod.refl _ _⟩
 case round =>
  obtain ⟨k,wv,hk,rfl,HWV,HDK,HMD⟩:=hrel
  by_cases hlt:k < ns.length
  ·
   obtain ⟨b,off,hbo,hcell⟩:=(HR.out.mod HMD.out HAF.out) k (by rw [List.length_map]; exact hlt)
   rw [List.getElem_map] at hcell
   obtain ⟨f,hf⟩:=HAL.out ns[k] (List.getElem_mem hlt)
   have hst:ns.take (k+1)=ns.take k++[ns[k]]:=List.take_succ_eq_append_getElem hlt
   have HST:=Lib.hid hst
   have HF:=Lib.hid hf
   clear hst hf
   generalize ns[k]=nm at *
   obtain ⟨f',hf',hb',hn'⟩:=lasts_file (l:=ns.take k) (wv:=wv) HF.out
   have HF':=Lib.hid hf'
   have HNB:=Lib.hid hn'
   have HBB:=Lib.hid hb'
   have hlk:=lookup_file HDK.out nm
   rw [find_of_mem HDK.out.names hf'] at hlk
   unfold fileV at hlk
   simp only [Option.map_some] at hlk
   have hdb:(D.lasts (ns.take k) wv).blk=D.blk:=rfl
   have hmm:(D.lasts (ns.take k) wv).mB=D.mB:=rfl
   rw [hmm] at hlk
   have c2:wr.cell? ⟨D.blk,2,none⟩=some (.map (some D.mB)):=HDK.out.cell 2 _ rfl
   have HB1:Hid (Below wr.heap.size wr (wr.alloc (.cells #[.pointer (some ⟨f'.blk,0,none⟩)] 85))):=(Below.refl _ _).alloc (Nat.le_refl _) _
   clear hf' hb' hn' hdb hmm
   rw [hbo] at *
   go_upto_region 4 with fail
   clear hlk c2 hcell
   have hd1:=HDK.out.below HB1.out
   have hbxf:¬ (D.lasts (ns.take k) wv).foot wr.heap.size:=fun h=>by have:=HDK.out.lt h; omega
   have hbx0:(wr.alloc (.cells #[.pointer (some ⟨f'.blk,0,none⟩)] 85)).cell? ⟨wr.heap.size,0,none⟩=some (.pointer (some ⟨f'.blk,0,none⟩)):=by rw [World.cell?_alloc_new]; rfl
   have HM1:Hid (Mod D.foot w (wr.alloc (.cells #[.pointer (some ⟨f'.blk,0,none⟩)] 85))):=HMD.out.trans (Mod.of_below HB1.out)
   have hbsz:wr.heap.size < (wr.alloc (.cells #[.pointer (some ⟨f'.blk,0,none⟩)] 85)).heap.size:=by simp
   clear HB1 HDK
   generalize wr.alloc (.cells #[.pointer (some ⟨f'.blk,0,none⟩)] 85)=w1 at *
   generalize wr.heap.size=bx at *
   have hfile:=hd1.file _ HF'.out
   have hn1:w1.cell? ⟨f'.blk,1,none⟩=some (.string (S f'.now)):=by unfold World.cell?; rw [show w1.heap[(⟨f'.blk,1,none⟩:Addr).block]?=_ from hfile]; rfl
   have hn0:w1.cell? ⟨f'.blk,0,none⟩=some (.string (S f'.img)):=by unfold World.cell?; rw [show w1.heap[(⟨f'.blk,0,none⟩:Addr).block]?=_ from hfile]; rfl
   have hnf:w1.frozen? ⟨f'.blk,0,none⟩=false:=by unfold World.frozen?; rw [show w1.heap[(⟨f'.blk,0,none⟩:Addr).block]?=_ from hfile]; rfl
   obtain ⟨hd2,hm2⟩:=hd1.set_img HF'.out f'.now
   have hne:bx≠f'.blk:=fun e=>hbxf (.inr (.inr (.inl ⟨_,HF'.out,e⟩)))
   have hbx1:((w1.setCell ⟨f'.blk,0,none⟩ (.string (S f'.now))).drew).cell? ⟨bx,0,none⟩=some (.pointer (some ⟨f'.blk,0,none⟩)):=by
    show (w1.setCell ⟨f'.blk,0,none⟩ (.string (S f'.now))).cell? ⟨bx,0,none⟩=_
    rw [World.cell?_setCell_other _ _ _ _ (fun q=>hne (congrArg Addr.block q).symm)]; exact hbx0
   have hd3:=hd2.below ((Below.refl _ (w1.setCell ⟨f'.blk,0,none⟩ (.string (S f'.now)))).drew)
   have hsf:∀ k',(({ (D.lasts (ns.take k) wv) with files:=setImg (D.lasts (ns.take k) wv).files nm f'.now }:DiskD)).foot k'→(D.lasts (ns.take k) wv).foot k':=fun k' hk'=>by
    rcases hk' with h | h | ⟨p,hp,h⟩ | h
    · exact .inl h
    · exact .inr (.inl h)
    · obtain ⟨q,hq,hb,_⟩:=setImg_mem hp
      exact .inr (.inr (.inl ⟨q,hq,h.trans hb⟩))
    · exact .inr (.inr (.inr h))
   have HM3:Hid (Mod D.foot w ((w1.setCell ⟨f'.blk,0,none⟩ (.string (S f'.now))).drew)):=(HM1.out.trans (hm2.mono (fun k' _ hk'=>(lasts_foot HWV.out k').1 hk'))).drew
   have hmem3:∃ f2,(nm,f2)∈setImg (D.lasts (ns.take k) wv).files nm f'.now∧f2.blk=f'.blk:=⟨{ f' with img:=f'.now },List.mem_map.2 ⟨_,HF'.out,by rw [if_pos rfl]⟩,rfl⟩
   have HD3:=Lib.hid hd3
   have HSF:=Lib.hid hsf
   have HMEM3:=Lib.hid hmem3
   have HBXF:=Lib.hid hbxf
   clear hd1 hd2 hd3 hm2 hfile hsf hmem3 hbxf HM1 hne
   go_region
   clear hn1 hn0 hnf hbx0 hbsz
   generalize (w1.setCell ⟨f'.blk,0,none⟩ (.string (S f'.now))).drew=w2 at *
   obtain ⟨f2,hf2,hfb⟩:=HMEM3.out
   have hwl2:(D.lasts (ns.take k) wv).waits.length≤1048576:=Nat.le_trans (List.length_filter_le _ _) hwl
   have HDW:=Lib.hid (del_waits HD3.out hf2 (bx:=bx) (by rw [hfb]; exact hbx1) (fun h=>HBXF.out (HSF.out _ h)) hwl2)
   obtain ⟨aw,cw,hwv⟩:=own_slice HD3.out.row
   replace hwv:wv=.slice aw (D.lasts (ns.take k) wv).waits.length cw:=hwv
   have c3:w2.cell? ⟨D.blk,3,none⟩=some (.slice aw (D.lasts (ns.take k) wv).waits.length cw):=HD3.out.cell 3 _ (by show some wv=_; rw [← hwv])
   rw [hfb] at HDW
   have HDW2:Hid (Calls Tryz.prog 201 #[.slice aw (D.lasts (ns.take k) wv).waits.length cw,.func (.func 228) #[] #[.pointer (some ⟨bx,0,none⟩)]] w2 fun e w' =>
    ∃ wv',e=.returned wv'∧w'.ownsRow base 281 3 wv' (others f'.blk (D.lasts (ns.take k) wv).waits).length (waitsL (others f'.blk (D.lasts (ns.take k) wv).waits))∧w2.grownBy w' wv.ownBlock∧wv'.ownBlock=wv.ownBlock):=by
    have h:=HDW.out
    show Calls _ _ _ _ _
    rw [← hwv]
    exact h
   clear HDW hf2 hfb hbx1 hwl2
   have hdk:D.blk < w2.heap.size:=HD3.out.lt (.inl rfl)
   have hown3:∀ k',wv.ownBlock=some k'→k'≠D.blk:=fun k' hk'=>(HD3.out.apart.2.2 k' hk').1
   have HOWN:=Lib.hid hown3
   have HWVV:=Lib.hid hwv
   clear hown3 hwv
   go_wp2_with fail
   refine HDW2.out.mono ?_
   rintro e w3 ⟨wv',rfl,hrow,hgb,hob⟩
   have hhead:w3.heap[D.blk]?=w2.heap[D.blk]?:=hgb.block _ hdk (fun e=>HOWN.out _ e.symm rfl)
   have hhd:=hhead.trans HD3.out.head
   have hu:∃ u,w3.cell? ⟨D.blk,3,none⟩=some u:=⟨wv,by unfold World.cell?; rw [show w3.heap[(⟨D.blk,3,none⟩:Addr).block]?=_ from hhd]; rfl⟩
   obtain ⟨u,hu⟩:=hu
   have hfz:w3.frozen? ⟨D.blk,3,none⟩=false:=by unfold World.frozen?; rw [show w3.heap[(⟨D.blk,3,none⟩:Addr).block]?=_ from hhd]; rfl
   obtain ⟨hd4,hm4⟩:=HD3.out.set_waits wv' (others f'.blk (D.lasts (ns.take k) wv).waits) hgb hrow (fun k' hk'=>.inl (hob ▸ hk')) (fun x hx=>HD3.out.waitf x (List.mem_filter.1 hx).1)
   have HM4:Hid (Mod D.foot w (w3.setCell ⟨D.blk,3,none⟩ wv')):=HM3.out.trans (hm4.mono (fun k' _ hk'=>(lasts_foot HWV.out k').1 (HSF.out k' hk')))
   have HD4:Hid (DiskAt base (w3.setCell ⟨D.blk,3,none⟩ wv') (D.lasts (ns.take (k+1)) wv')):=by
    show DiskAt _ _ _
    rw [HST.out,← lasts_step (wv:=wv) HD.out.names HF.out,← HNB.out,← HBB.out]
    exact hd4
   have HWV4:Hid (wv'.ownBlock=D.wv.ownBlock):=hob.trans HWV.out
   obtain ⟨a2,cp2,hv'⟩:=own_slice hrow
   generalize (others f'.blk (D.lasts (ns.take k) wv).waits).length=m2 at *
   clear hrow hgb hob hhead hhd hd4 hm4 HDW2
   subst hv'
   go_wp2_with fail
   go_roundw
   case rel=>exact ⟨k+1,_,by omega,by go_num,HWV4,HD4,HM4⟩
   case measure=>simp [intOf]; omega
  ·
   obtain rfl:k=ns.length:=by omega
   rw [List.take_length] at HDK
   go_wp2_with fail
   go_end0
   exact ⟨rfl,wv,HWV.out,HDK.out,HMD.out⟩
def DiskD.syncE (D:DiskD) (ns:List (List UInt8)):Int:=if D.bars ns=0 then D.done else D.bars ns
def DiskD.sync (D:DiskD) (ns:List (List UInt8)) (wv:Value):DiskD:=if D.bars ns=0 then (if D.left=0 then D.burn else D.burn.lasts ns wv) else D
theorem sync_any {base:Nat} {D:DiskD} (a:Option Addr) (cap:Nat) (ns:List (List UInt8)) (hns:ns.length≤1048576) (w:World) (h:DiskAt base w D) (hr:Row1 w a (ns.map fun x=>.string (S x))) (haf:∀ ad,a=some ad→¬ D.foot ad.block) (hwl:D.waits.length≤1048576) :
 Calls Tryz.prog 153 #[.pointer (some ⟨D.blk,0,none⟩),.slice a ns.length cap] w fun e w'=>∃ wv,e=.returned (.int .i64 (D.syncE ns))∧wv.ownBlock=D.wv.ownBlock∧DiskAt base w' (D.sync ns wv)∧Mod D.foot w w':=by
 have HBA:=Lib.hid (bars_any a cap ns hns w h hr)
 have HDN:=Lib.hid (done_any w h)
 have HE:Hid (D.syncE ns=if D.bars ns=0 then D.done else D.bars ns):=rfl
 have HY:Hid (∀ wv,D.sync ns wv=if D.bars ns=0 then (if D.left=0 then D.burn else D.burn.lasts ns wv) else D):=fun _=>rfl
 have HBS:Hid (D.bars ns=if D.down then 8 else if ns.all fun n=>(D.find n).isSome then 0 else 9):=rfl
 have HR:=Lib.hid hr
 have HAF:=Lib.hid haf
 have HD:=Lib.hid h
 clear hr haf h
 go_enter Tryz.func153,Tryz.ntmps153
 go_wp2_with fail
 refine HBA.out.mono ?_
 rintro e w1 ⟨rfl,rfl⟩
 clear HBA
 by_cases hb0:D.bars ns=0
 ·
  have HB0:=Lib.hid hb0
  rw [hb0] at HE HY ⊢
  clear hb0
  go_wp2_with fail
  refine HDN.out.mono ?_
  rintro e w2 ⟨rfl,hd2,hm2⟩
  have HD2:=Lib.hid hd2
  have HM2:Hid (Mod D.foot w1 w2):=Mod.below_foot hm2
  clear hd2 hm2 HDN
  by_cases h0:D.left=0
  ·
   have hdone:D.done=8:=if_pos h0
   rw [hdone] at HE ⊢
   clear hdone
   go_wp2_with fail
   go_ret
   exact ⟨D.wv,by rw [HE.out]; rfl,rfl,by rw [HY.out,if_pos trivial,if_pos h0]; exact HD2.out,HM2.out⟩
  ·
   have hdone:D.done=0:=if_neg h0
   rw [hdone] at HE ⊢
   clear hdone
   have hall:∀ n∈ns,∃ f,(n,f)∈D.burn.files:=fun n hn=>by
    have h1:=HBS.out
    rw [HB0.out] at h1
    have h2:(ns.all fun n=>(D.find n).isSome)=true:=by
     cases h3:(ns.all fun n=>(D.find n).isSome) with
     | true=>rfl
     | false=>rw [h3] at h1; cases hdn:D.down <;> rw [hdn] at h1 <;> simp at h1
    have h4:=List.all_eq_true.1 h2 n hn
    obtain ⟨f,hf⟩:=Option.isSome_iff_exists.1 h4
    exact ⟨f,by rw [(burn_foot D).2.2.2.1]; exact find_some hf⟩
   have HLS:=Lib.hid (lasts_any (D:=D.burn) a cap ns hns w2 HD2.out (HR.out.mod HM2.out HAF.out) (fun ad had hf=>HAF.out ad had (by rw [(burn_foot D).1] at hf; exact hf)) hall (by rw [(burn_foot D).2.2.2.2.2.1]; exact hwl))
   rw [(burn_foot D).2.1] at HLS
   clear hall
   go_wp2_with fail
   refine HLS.out.mono ?_
   rintro e w3 ⟨rfl,wv,hw,hd3,hm3⟩
   have HD3:=Lib.hid hd3
   have HM3:Hid (Mod D.foot w1 w3):=HM2.out.trans (by rw [(burn_foot D).1] at hm3; exact hm3)
   have HW3:Hid (wv.ownBlock=D.wv.ownBlock):=by rw [(burn_foot D).2.2.2.2.1] at hw; exact hw
   clear hd3 hm3 hw HLS
   go_wp2_with fail
   go_ret
   exact ⟨wv,by rw [HE.out]; rfl,HW3.out,by rw [HY.out,if_pos trivial,if_neg h0]; exact HD3.out,HM3.out⟩
 ·
  have HB0:=Lib.hid hb0
  have hcase:D.bars ns=8∨D.bars ns=9:=by
   have h1:=HBS.out
   have h2:=HB0.out
   rw [h1] at h2 ⊢
   split
   · exact .inl rfl
   · rename_i hdn
     rw [if_neg hdn] at h2
     split
     · rename_i h3; rw [if_pos h3] at h2; exact absurd rfl h2
     · exact .inr rfl
  clear hb0
  replace HE:Hid (D.syncE ns=D.bars ns):=by show _=_; rw [HE.out,if_neg HB0.out]
  generalize D.bars ns=bz at *
  rcases hcase with rfl | rfl
  all_goals
   go_wp2_with fail
   go_ret
   exact ⟨D.wv,by rw [HE.out]; rfl,rfl,by rw [HY.out,if_neg (by decide)]; exact HD.out,Mod.refl _ _⟩
end Go.Proofs.YtnoehodmmkioaaaGreatDoor.DskW
namespace Go.Proofs.YtnoehodmmkioaaaGreatDoor.SegW
open Go.RowKit OctMath DskW
structure SegD where
 blk:Nat
 db:Nat
 head:List UInt8
 size:Nat
 n:Nat
 b:Nat
 txt:List UInt8
 synced:Nat
 pv:Value
def SegD.e (R:SegD):Nat:=R.b+R.txt.length
def SegD.places (R:SegD):List Nat:=(List.range R.n).map fun i=>R.b+i * R.size
def SegD.cells (R:SegD):Array Value:=#[.pointer (some ⟨R.db,0,none⟩),.string (S R.head),.int .i64 (R.size:Int),R.pv,.int .i64 (R.e:Int),.int .i64 (R.synced:Int)]
structure SegAt (base:Nat) (w:World) (R:SegD):Prop where
 cells:w.heap[R.blk]?=some (.cells R.cells 116 (0,0))
 row:w.ownsRow base 3 1 R.pv R.n (R.places.map fun (p:Nat)=>Value.int .i64 (p:Int))
 apart:∀ k,R.pv.ownBlock=some k→k≠R.blk
 above:base≤R.blk
 sz:16≤R.size∧R.size≤4096
 empty:R.n=0→R.b=0∧R.txt=[]
 long:0 < R.n→(R.n - 1) * R.size≤R.txt.length∧R.txt.length≤R.n * R.size∧R.b+(R.n - 1) * R.size≤99999999
 mult:R.b % R.size=0
 syn:R.synced≤R.e
 hd:R.head.length≤1048576
def SegD.foot (R:SegD) (k:Nat):Prop:=k=R.blk∨R.pv.ownBlock=some k
theorem SegAt.lt {base:Nat} {w:World} {R:SegD} (h:SegAt base w R) {k:Nat} (hk:R.foot k):k < w.heap.size:=by
 rcases hk with rfl | hk
 · exact (Array.getElem?_eq_some_iff.1 h.cells).1
 · rcases h.row.2 with ⟨e,_⟩ | ⟨g,cap,cur,e,_,hg,_⟩
   · rw [e] at hk; cases hk
   · rw [e] at hk; cases hk; exact (Array.getElem?_eq_some_iff.1 hg).1
theorem ownsRow_mod {base:Nat} {w w':World} {M:Nat→Prop} {e:TypeId} {size n:Nat} {v:Value} {xs:List Value} (h:w.ownsRow base e size v n xs) (hm:Mod M w w') (hM:∀ k,v.ownBlock=some k→¬ M k):w'.ownsRow base e size v n xs:=by
 refine ⟨h.1,?_⟩
 rcases h.2 with h0 | ⟨g,cap,cur,e,hb,hg,r⟩
 · exact .inl h0
 · exact .inr ⟨g,cap,cur,e,hb,(hm.block g (Array.getElem?_eq_some_iff.1 hg).1 (hM g (by rw [e]; rfl))).trans hg,r⟩
theorem SegAt.mod {base:Nat} {w w':World} {R:SegD} {M:Nat→Prop} (h:SegAt base w R) (hm:Mod M w w') (hM:∀ k,R.foot k→¬ M k):SegAt base w' R :=
 { h with
  cells:=(hm.block _ (h.lt (.inl rfl)) (hM _ (.inl rfl))).trans h.cells
  row:=ownsRow_mod h.row hm fun k hk=>hM k (.inr hk) }
theorem SegAt.below {base:Nat} {w w':World} {R:SegD} (h:SegAt base w R) (hb:Below w.heap.size w w'):SegAt base w' R :=
 h.mod (M:=fun _=>False) (Mod.of_below hb) (fun _ _ h=>h)
theorem SegAt.cell {base:Nat} {w:World} {R:SegD} (h:SegAt base w R) (k:Nat) (v:Value) (hv:R.cells[k]?=some v):w.cell? ⟨R.blk,k,Option.none⟩=some v:=by
 unfold World.cell?
 rw [h.cells]
 simpa using hv
theorem SegAt.place {base:Nat} {w:World} {R:SegD} (h:SegAt base w R) (i:Nat) (hi:i < R.n):∃ g cap,R.pv=.slice (some ⟨g,0,Option.none⟩) R.n cap∧R.n≤cap∧w.cell? ⟨g,i,Option.none⟩=some (.int .i64 ((R.b+i * R.size:Nat):Int)):=by
 rcases h.row.2 with ⟨_,e⟩ | ⟨g,cap,cur,e,_,hg,hn,_,hsz,ht⟩
 · omega
 ·
  refine ⟨g,cap,e,hn,?_⟩
  unfold World.cell?
  rw [hg]
  have h1:(cur.toList.take (R.n * 1))[i]?=some (.int .i64 ((R.b+i * R.size:Nat):Int)):=by
   rw [ht]
   simp [SegD.places,hi]
  rw [List.getElem?_take_of_lt (by omega)] at h1
  simpa using h1
theorem SegAt.pv_nil {base:Nat} {w:World} {R:SegD} (h:SegAt base w R):∃ a cap,R.pv=.slice a R.n cap:=by
 rcases h.row.2 with ⟨e,e0⟩ | ⟨g,cap,cur,e,_⟩
 · exact ⟨_,_,by rw [e,e0]⟩
 · exact ⟨_,_,e⟩
theorem SegAt.e_le {base:Nat} {w:World} {R:SegD} (h:SegAt base w R):R.e≤100004095:=by
 unfold SegD.e
 by_cases h0:R.n=0
 · obtain ⟨h1,h2⟩:=h.empty h0
   rw [h1,h2]; simp
 ·
  obtain ⟨h1,h2,h3⟩:=h.long (by omega)
  have:=h.sz
  have h4:R.n * R.size=(R.n - 1) * R.size+R.size:=by
   obtain ⟨m,hm⟩:∃ m,R.n=m+1:=⟨R.n - 1,by omega⟩
   rw [hm,Nat.add_mul]; simp
  omega
theorem begin_any {base:Nat} {R:SegD} (w:World) (h:SegAt base w R) :
 Calls Tryz.prog 123 #[.pointer (some ⟨R.blk,0,none⟩)] w fun e w'=>e=.returned (.int .i64 (R.b:Int))∧w'=w:=by
 obtain ⟨a,cp,hv⟩:=h.pv_nil
 have c3:w.cell? ⟨R.blk,3,none⟩=some (.slice a R.n cp):=h.cell 3 _ (by show some R.pv=_; rw [hv])
 by_cases h0:R.n=0
 ·
  have hb:=(h.empty h0).1
  rw [h0] at c3
  rw [hb]
  clear h hv
  go_enter Tryz.func123,Tryz.ntmps123
  go_wp2_with fail
  go_ret
  exact ⟨rfl,rfl⟩
 ·
  obtain ⟨g,cap,hp,hnc,hc⟩:=h.place 0 (by omega)
  rw [Nat.zero_mul,Nat.add_zero] at hc
  rw [hv] at hp
  injection hp with e1 e2 e3
  subst e1
  have hpos:0 < R.n:=by omega
  have hnn:¬ (R.n:Int)=0:=by omega
  clear h hv e3
  go_enter Tryz.func123,Tryz.ntmps123
  go_wp2_with fail
  go_ret
  exact ⟨rfl,rfl⟩
theorem end_any {base:Nat} {R:SegD} (w:World) (h:SegAt base w R) :
 Calls Tryz.prog 23 #[.pointer (some ⟨R.blk,0,none⟩)] w fun e w'=>e=.returned (.int .i64 (R.e:Int))∧w'=w:=by
 have c4:w.cell? ⟨R.blk,4,none⟩=some (.int .i64 (R.e:Int)):=h.cell 4 _ rfl
 clear h
 go_enter Tryz.func23,Tryz.ntmps23
 go_wp2_with fail
 go_ret
 exact ⟨rfl,rfl⟩
theorem synced_any {base:Nat} {R:SegD} (w:World) (h:SegAt base w R) :
 Calls Tryz.prog 132 #[.pointer (some ⟨R.blk,0,none⟩)] w fun e w'=>e=.returned (.int .i64 (R.synced:Int))∧w'=w:=by
 have c5:w.cell? ⟨R.blk,5,none⟩=some (.int .i64 (R.synced:Int)):=h.cell 5 _ rfl
 clear h
 go_enter Tryz.func132,Tryz.ntmps132
 go_wp2_with fail
 go_ret
 exact ⟨rfl,rfl⟩
theorem name_any {base:Nat} {R:SegD} (w:World) (h:SegAt base w R) (ht:Tab w) (p:Nat) (hp:p≤99999999) :
 Calls Tryz.prog 139 #[.pointer (some ⟨R.blk,0,none⟩),.int .i64 (p:Int)] w fun e w'=>e=.returned (.string (S (nameL R.head p)))∧Below w.heap.size w w':=by
 have c1:w.cell? ⟨R.blk,1,none⟩=some (.string (S R.head)):=h.cell 1 _ rfl
 have c2:=Name_any R.head (p:Int) w ht (by omega) (by have:=h.hd; omega)
 rw [decide_eq_true (by omega:0≤(p:Int)∧(p:Int)≤99999999),show nameR R.head (p:Int)=nameL R.head p by unfold nameR; rw [if_pos (by omega)]; rfl] at c2
 have C:=Lib.hid c2
 clear h ht c2
 generalize nameL R.head p=y at *
 go_enter Tryz.func139,Tryz.ntmps139
 go_wp2_with fail
 refine C.out.mono ?_
 rintro e w2 ⟨rfl,hb⟩
 have HB:=Lib.hid hb
 clear hb C
 go_wp2_with fail
 go_ret
 exact ⟨rfl,HB.out⟩
def SegD.room (R:SegD):Nat:=if 0 < R.n∧R.txt.length < R.n * R.size then R.n * R.size - R.txt.length else R.size
theorem mul_pred {n s:Nat} (h:0 < n):n * s=(n - 1) * s+s:=by
 obtain ⟨m,rfl⟩:∃ m,n=m+1:=⟨n - 1,by omega⟩
 rw [Nat.add_mul]; simp
theorem room_any {base:Nat} {R:SegD} (w:World) (h:SegAt base w R) :
 Calls Tryz.prog 48 #[.pointer (some ⟨R.blk,0,none⟩)] w fun e w'=>e=.returned (.int .i64 (R.room:Int))∧Drawn w w':=by
 obtain ⟨a,cp,hv⟩:=h.pv_nil
 have c2:w.cell? ⟨R.blk,2,none⟩=some (.int .i64 (R.size:Int)):=h.cell 2 _ rfl
 have c3:w.cell? ⟨R.blk,3,none⟩=some (.slice a R.n cp):=h.cell 3 _ (by show some R.pv=_; rw [hv])
 have c4:w.cell? ⟨R.blk,4,none⟩=some (.int .i64 (R.e:Int)):=h.cell 4 _ rfl
 obtain ⟨hs1,hs2⟩:=h.sz
 by_cases h0:R.n=0
 ·
  have hr:R.room=R.size:=by unfold SegD.room; rw [if_neg (by omega)]
  rw [hr]
  rw [h0] at c3
  clear h hv hr c4
  generalize R.size=s at *
  go_enter Tryz.func48,Tryz.ntmps48
  go_wp2_with fail
  go_quiet (fail)
  go_wp2_with fail
  go_ret
  exact ⟨rfl,⟨_,rfl⟩⟩
 ·
  obtain ⟨g,cap,hp,hnc,hc⟩:=h.place (R.n - 1) (by omega)
  rw [hv] at hp
  injection hp with e1 e2 e3
  subst e1
  obtain ⟨l1,l2,l3⟩:=h.long (by omega)
  have hmp:=mul_pred (s:=R.size) (by omega:0 < R.n)
  have hix:((R.n - 1:Nat):Int)=(R.n:Int) - 1:=by omega
  have hee:R.e=R.b+R.txt.length:=rfl
  have hnp:0 < R.n:=by omega
  have hcap:R.n≤1073741824:=by
   have:=Nat.le_mul_of_pos_right R.n (by omega:0 < R.size)
   omega
  have HRR:Hid (R.room=if 0 < R.n∧R.txt.length < R.n * R.size then R.n * R.size - R.txt.length else R.size):=rfl
  clear h hv e3
  generalize R.room=r at *
  generalize R.e=ee at *
  generalize R.size=s at *
  generalize R.txt.length=tl at *
  generalize hns:R.n * s=ns at *
  generalize hpl:R.b+(R.n - 1) * s=pl at *
  have hle:(pl:Int)+(s:Int)=((R.b+ns:Nat):Int):=by omega
  generalize R.b=b at *
  generalize R.n=n at *
  generalize (n - 1) * s=ps at *
  have hn0:(0:Int) < (n:Int):=by omega
  by_cases hlt:tl < ns
  ·
   have hr:(r:Int)=(pl:Int)+(s:Int) - (ee:Int):=by have:=HRR.out; rw [if_pos ⟨hnp,hlt⟩] at this; omega
   have hl2:(ee:Int) < (pl:Int)+(s:Int):=by omega
   rw [hr]
   clear hr HRR hns hpl hle hee
   go_enter Tryz.func48,Tryz.ntmps48
   go_wp2_with fail
   go_quiet (fail)
   go_wp2_with fail
   go_quiet (fail)
   go_wp2_with fail
   go_ret
   exact ⟨rfl,(Drawn.refl w).drewN _ |>.drewN _⟩
  ·
   have hr:r=s:=by have:=HRR.out; rw [if_neg (by omega)] at this; omega
   have hl2:¬ (ee:Int) < (pl:Int)+(s:Int):=by omega
   rw [hr]
   clear hr HRR hns hpl hle hee
   go_enter Tryz.func48,Tryz.ntmps48
   go_wp2_with fail
   go_quiet (fail)
   go_wp2_with fail
   go_ret
   exact ⟨rfl,⟨_,rfl⟩⟩
theorem of_any {base:Nat} {R:SegD} (p:Nat) (hp:p≤1073741824) (w:World) (h:SegAt base w R) :
 Calls Tryz.prog 137 #[.pointer (some ⟨R.blk,0,none⟩),.int .i64 (p:Int)] w fun e w'=>e=.returned (.int .i64 ((p / R.size * R.size:Nat):Int))∧Drawn w w':=by
 have c2:w.cell? ⟨R.blk,2,none⟩=some (.int .i64 (R.size:Int)):=h.cell 2 _ rfl
 obtain ⟨hs1,hs2⟩:=h.sz
 have hq:p / R.size * R.size≤p:=Nat.div_mul_le_self _ _
 have hq2:p / R.size≤p:=Nat.div_le_self _ _
 have hd:Int.tdiv (p:Int) (R.size:Int)=((p / R.size:Nat):Int):=rfl
 have hm:((p / R.size:Nat):Int) * (R.size:Int)=((p / R.size * R.size:Nat):Int):=by rw [Int.natCast_mul]
 have hsz:¬ (R.size:Int)=0:=by omega
 clear h
 generalize hA:p / R.size * R.size=A at *
 generalize p / R.size=q at *
 generalize R.size=s at *
 go_enter Tryz.func137,Tryz.ntmps137
 go_wp2_with fail
 go_quiet (fail)
 go_wp2_with fail
 go_ret
 exact ⟨rfl,⟨_,rfl⟩⟩
def SegD.left (R:SegD) (p:Int):Int:=if p < (R.b:Int)∨(R.e:Int)≤p then 0 else (min (p.toNat / R.size * R.size+R.size) R.e:Nat) - p
theorem left_any {base:Nat} {R:SegD} (p:Int) (hp : -9223372036854775808≤p∧p≤9223372036854775807) (w:World) (h:SegAt base w R) :
 Calls Tryz.prog 136 #[.pointer (some ⟨R.blk,0,none⟩),.int .i64 p] w fun e w'=>e=.returned (.int .i64 (R.left p))∧Drawn w w':=by
 have c2:w.cell? ⟨R.blk,2,none⟩=some (.int .i64 (R.size:Int)):=h.cell 2 _ rfl
 have c4:w.cell? ⟨R.blk,4,none⟩=some (.int .i64 (R.e:Int)):=h.cell 4 _ rfl
 have C:=Lib.hid (begin_any w h)
 have hel:=h.e_le
 obtain ⟨hs1,hs2⟩:=h.sz
 have HL:Hid (R.left p=if p < (R.b:Int)∨(R.e:Int)≤p then 0 else (min (p.toNat / R.size * R.size+R.size) R.e:Nat) - p):=rfl
 by_cases h1:p < (R.b:Int)
 ·
  have hl:R.left p=0:=by rw [HL.out,if_pos (.inl h1)]
  rw [hl]
  clear hl HL h
  go_enter Tryz.func136,Tryz.ntmps136
  go_wp2_with fail
  refine C.out.mono ?_
  rintro e w' ⟨rfl,rfl⟩
  go_wp2_with fail
  go_ret
  exact ⟨rfl,Drawn.refl _⟩
 ·
  by_cases h2:(R.e:Int)≤p
  ·
   have hl:R.left p=0:=by rw [HL.out,if_pos (.inr h2)]
   rw [hl]
   clear hl HL h
   go_enter Tryz.func136,Tryz.ntmps136
   go_wp2_with fail
   refine C.out.mono ?_
   rintro e w' ⟨rfl,rfl⟩
   go_wp2_with fail
   go_ret
   exact ⟨rfl,Drawn.refl _⟩
  ·
   obtain ⟨u,rfl⟩:∃ u:Nat,p=(u:Int):=⟨p.toNat,by omega⟩
   have hl:R.left (u:Int)=(min (u / R.size * R.size+R.size) R.e:Nat) - (u:Int):=by rw [HL.out,if_neg (by omega),Int.toNat_natCast]
   have HO:=Lib.hid (fun (k:Nat)=>of_any u (by omega) (w.drewN k) (h.below (((Drawn.refl w).drewN k).below _)))
   have hq:u / R.size * R.size≤u:=Nat.div_mul_le_self _ _
   have hmn:((min (u / R.size * R.size+R.size) R.e:Nat):Int)=min (((u / R.size * R.size:Nat):Int)+(R.size:Int)) (R.e:Int):=by omega
   rw [hl,hmn]
   clear hl HL h hmn
   generalize u / R.size * R.size=q at *
   generalize R.size=s at *
   generalize R.e=ee at *
   generalize R.b=b at *
   go_enter Tryz.func136,Tryz.ntmps136
   go_wp2_with fail
   refine C.out.mono ?_
   rintro e w' ⟨rfl,rfl⟩
   go_wp2_with fail
   go_quiet (first | (go_at_call 137; exact quiet_drawn (HO.out _)))
   go_wp2_with fail
   go_ret
   exact ⟨rfl,⟨_,rfl⟩⟩
end Go.Proofs.YtnoehodmmkioaaaGreatDoor.SegW
