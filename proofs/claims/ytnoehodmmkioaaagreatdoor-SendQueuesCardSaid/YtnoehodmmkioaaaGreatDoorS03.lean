/- disk: slices.DeleteFunc at []disk.write, walked. And what follows. -/
import Derived.Test.YtnoehodmmkioaaaGreatDoorS02
import Derived.Deep.RegionHeld3
import Derived.Lib.AppendZeros
set_option maxHeartbeats 25600000
set_option maxRecDepth 100000
set_option linter.unusedVariables false
set_option linter.unusedSimpArgs false
namespace Go.Proofs.YtnoehodmmkioaaaGreatDoor.DskW
open Go.RowKit Go.MapKept Go.ChangeMaps OctMath
def keepB (fb:Nat) (x:WriteD):Bool:=!decide (x.blk=fb)
def others (fb:Nat) (ws:List WriteD):List WriteD:=ws.filter (keepB fb)
theorem idxL_cases (fb:Nat):∀ (ws:List WriteD) (i:Nat),(idxL fb ws i = -1∧others fb ws=ws)∨∃ k,∃ h:k < ws.length,idxL fb ws i=((i+k:Nat):Int)∧ws[k].blk=fb∧others fb (ws.take (k+1))=ws.take k
 | [],i=>.inl ⟨rfl,rfl⟩
 | x :: l,i=>by
   by_cases e:x.blk=fb
   ·
    right
    refine ⟨0,by simp,?_,e,?_⟩
    · show (if x.blk=fb then (i:Int) else _)=_
      rw [if_pos e]; rfl
    · show others fb [x]=[]
      unfold others keepB
      simp [e]
   ·
    have hk:keepB fb x=true:=by unfold keepB; simp [e]
    have hidx:idxL fb (x :: l) i=idxL fb l (i+1):=by show (if x.blk=fb then (i:Int) else _)=_; rw [if_neg e]
    rcases idxL_cases fb l (i+1) with ⟨h1,h2⟩ | ⟨k,hkl,h1,h2,h3⟩
    · left
      refine ⟨hidx.trans h1,?_⟩
      show List.filter (keepB fb) (x :: l)=_
      rw [List.filter_cons_of_pos hk]
      congr 1
    · right
      refine ⟨k+1,by simpa using hkl,?_,h2,?_⟩
      · rw [hidx,h1]; congr 1; omega
      · show List.filter (keepB fb) (x :: l.take (k+1))=x :: l.take k
        rw [List.filter_cons_of_pos hk]
        congr 1
theorem others_step (fb:Nat) (ws:List WriteD) (j:Nat) (h:j < ws.length):others fb (ws.take (j+1))=others fb (ws.take j)++(if ws[j].blk=fb then [] else [ws[j]]):=by
 unfold others
 rw [List.take_succ_eq_append_getElem h,List.filter_append]
 congr 1
 by_cases e:ws[j].blk=fb
 · rw [if_pos e]; simp [keepB,e]
 · rw [if_neg e]; simp [keepB,e]
theorem others_len (fb:Nat) (ws:List WriteD) (j:Nat):(others fb (ws.take j)).length≤j:=by
 have:=List.length_filter_le (keepB fb) (ws.take j)
 unfold others
 rw [List.length_take] at this; omega
theorem Seen.mod {w w':World} {bx fb g:Nat} {ws:List WriteD} (h:Seen w bx fb ws) (hm:Mod (fun k=>k=g) w w') (hbx:bx≠g) (hfb:fb≠g) (hws:∀ x∈ws,x.blk≠g):Seen w' bx fb ws:=by
 refine ⟨by rw [hm.cell (cell_lt h.box) hbx]; exact h.box,?_,fun x hx=>?_⟩
 · obtain ⟨ca,ta,hh⟩:=h.file
   exact ⟨ca,ta,(hm.block _ (Array.getElem?_eq_some_iff.1 hh).1 hfb).trans hh⟩
 · obtain ⟨ca,ta,hh⟩:=h.all x hx
   exact ⟨ca,ta,(hm.block _ (Array.getElem?_eq_some_iff.1 hh).1 (hws x hx)).trans hh⟩
theorem delete_any (g cp:Nat) (ws:List WriteD) (rest:List Value) (hx:ws.length≤1048576) (hle:ws.length≤cp) (bx fb:Nat) (w:World) (hr:Row3 w g ws rest) (hs:Seen w bx fb ws) (hbx:bx≠g) (hfb:fb≠g) (hws:∀ x∈ws,x.blk≠g) :
 Calls Tryz.prog 201 #[.slice (some ⟨g,0,none⟩) ws.length cp,.func (.func 228) #[] #[.pointer (some ⟨bx,0,none⟩)]] w fun e w' =>
  e=.returned (.slice (some ⟨g,0,none⟩) (others fb ws).length cp)∧(∃ cs,w'.heap[g]?=some (.cells cs 281 (0,0))∧cs.size=(waitsL ws++rest).length∧cs.toList.take ((others fb ws).length * 3)=waitsL (others fb ws))∧Mod (fun k=>k=g) w w':=by
 have HIX:=Lib.hid (index_any (some ⟨g,0,none⟩) cp ws hx bx fb w hr.rowW hs)
 have HR:=Lib.hid hr
 have HS:=Lib.hid hs
 have HWS:=Lib.hid hws
 clear hr hs hws
 rcases idxL_cases fb ws 0 with ⟨h1,h2⟩ | ⟨k0,hk0,h1,h2,h3⟩
 ·
  rw [h1] at HIX
  have HO:=Lib.hid h2
  clear h1 h2
  go_enter Tryz.func201,Tryz.ntmps201
  go_wp2_with fail
  refine HIX.out.mono ?_
  rintro e w2 ⟨rfl,hb⟩
  have HB:=Lib.hid hb
  clear hb HIX
  go_wp2_with fail
  go_ret
  rw [HO.out]
  refine ⟨rfl,⟨_,HR.out.below HB.out,by simp,?_⟩,Mod.of_below HB.out⟩
  rw [List.toList_toArray,← waitsL_length]
  exact List.take_left
 ·
  rw [h1,Nat.zero_add] at HIX
  have HO:=Lib.hid h3
  have hkm:((k0:Int) == -1)=false:=by rw [beq_eq_false_iff_ne]; omega
  have HLT:Hid ((others fb ws).length < ws.length):=by
   show (ws.filter (keepB fb)).length < _
   rw [List.length_filter_lt_length_iff_exists]
   exact ⟨ws[k0],List.getElem_mem hk0,by simp [keepB,h2]⟩
  clear h1 h2 h3
  go_enter Tryz.func201,Tryz.ntmps201
  go_wp2_with fail
  refine HIX.out.mono ?_
  rintro e w2 ⟨rfl,hb⟩
  have HB:=Lib.hid hb
  clear hb HIX
  go_wp2_with fail
  go_loopw [5,6] (fun s5 s6 wr=>∃ (j:Nat) (cur:List WriteD),j≤ws.length∧s6=.int .i64 (j:Int)∧s5=.int .i64 ((others fb (ws.take j)).length:Int)∧cur.length=ws.length∧Hid (cur.take (others fb (ws.take j)).length=others fb (ws.take j))∧Hid (cur.drop j=ws.drop j)∧Hid (Row3 wr g cur rest)∧Hid (Mod (fun k=>k=g) w wr)) (fun _ s6 _=>ws.length+1 - (intOf s6).toNat)
  case atStart =>
   refine ⟨k0+1,ws,by omega,by go_num,?_,rfl,?_,rfl,HR.out.below HB.out,Mod.of_below HB.out⟩
   · rw [HO.out,List.length_take,Nat.min_eq_left (by omega)]
   · show _=_
     rw [HO.out,List.length_take,Nat.min_eq_left (by omega)]
  case round =>
   obtain ⟨j,cur,hj,rfl,rfl,hcl,HT,HDR,HRW,HMD⟩:=hrel
   have hol:=others_len fb ws j
   by_cases hlt:j < ws.length
   ·
    have hcj:cur[j]'(by omega)=ws[j]:=by
     have h1:(cur.drop j)[0]?=(ws.drop j)[0]?:=by rw [HDR.out]
     rw [List.getElem?_drop,List.getElem?_drop,Nat.add_zero,List.getElem?_eq_getElem (by omega),List.getElem?_eq_getElem hlt] at h1
     exact Option.some.inj h1
    have hst:=others_step fb ws j hlt
    have hxm:ws[j]∈ws:=List.getElem_mem hlt
    have hc0:wr.cell? ⟨g,j * 3,none⟩=some (.pointer (some ⟨ws[j].blk,0,none⟩)):=by have:=HRW.out.cell j 0 (by omega) (by omega); rw [hcj] at this; exact this
    have hc1:wr.cell? ⟨g,j * 3+1,none⟩=some (.int .i64 (ws[j].pos:Int)):=by have:=HRW.out.cell j 1 (by omega) (by omega); rw [hcj] at this; exact this
    have hc2:wr.cell? ⟨g,j * 3+2,none⟩=some (.string (S ws[j].txt)):=by have:=HRW.out.cell j 2 (by omega) (by omega); rw [hcj] at this; exact this
    have HSR:=Lib.hid (HS.out.mod HMD.out hbx hfb HWS.out)
    have hdr2:cur.drop (j+1)=ws.drop (j+1):=by
     have:(cur.drop j).drop 1=(ws.drop j).drop 1:=by rw [HDR.out]
     simpa [List.drop_drop] using this
    have HDR2:=Lib.hid hdr2
    have HST:=Lib.hid hst
    have HXM:=Lib.hid hxm
    have hgl:g < wr.heap.size:=(Array.getElem?_eq_some_iff.1 HRW.out).1
    clear hcj hdr2 hst hxm HDR
    have HLJ:=Lib.hid (show (ws.drop j).length=ws.length - j from List.length_drop)
    generalize ws[j]=x at *
    generalize hF:others fb (ws.take j)=F at *
    have hFj:F.length≤j:=hol
    have HB1:Hid (Below wr.heap.size wr (wr.alloc (.cells #[.pointer (some ⟨x.blk,0,none⟩),.int .i64 (x.pos:Int),.string (S x.txt)] 281))):=(Below.refl _ _).alloc (Nat.le_refl _) _
    have HSB:=Lib.hid (HSR.out.below HB1.out)
    obtain ⟨ca,ta,hca⟩:=HSB.out.all x HXM.out
    obtain ⟨cb,tb,hcb⟩:=HSB.out.file
    have HCL:=Lib.hid (closure_any fb x.blk x.pos bx x.txt _ HSB.out.box hca hcb)
    have hn0:(wr.alloc (.cells #[.pointer (some ⟨x.blk,0,none⟩),.int .i64 (x.pos:Int),.string (S x.txt)] 281)).cell? ⟨wr.heap.size,0,none⟩=some (.pointer (some ⟨x.blk,0,none⟩)):=by rw [World.cell?_alloc_new]; rfl
    have hn1:(wr.alloc (.cells #[.pointer (some ⟨x.blk,0,none⟩),.int .i64 (x.pos:Int),.string (S x.txt)] 281)).cell? ⟨wr.heap.size,1,none⟩=some (.int .i64 (x.pos:Int)):=by rw [World.cell?_alloc_new]; rfl
    have hn2:(wr.alloc (.cells #[.pointer (some ⟨x.blk,0,none⟩),.int .i64 (x.pos:Int),.string (S x.txt)] 281)).cell? ⟨wr.heap.size,2,none⟩=some (.string (S x.txt)):=by rw [World.cell?_alloc_new]; rfl
    clear hca hcb
    go_upto_region 8 with fail
    clear hc0 hc1 hc2
    have hszn:wr.heap.size < (wr.alloc (.cells #[.pointer (some ⟨x.blk,0,none⟩),.int .i64 (x.pos:Int),.string (S x.txt)] 281)).heap.size:=by simp
    generalize wr.alloc (.cells #[.pointer (some ⟨x.blk,0,none⟩),.int .i64 (x.pos:Int),.string (S x.txt)] 281)=wb at *
    by_cases he:x.blk=fb
    ·
     have HF2:Hid (others fb (ws.take (j+1))=F):=by show _=_; rw [HST.out,if_pos he,List.append_nil]
     rw [decide_eq_true he] at HCL
     clear he
     go_wp2_with fail
     refine HCL.out.mono ?_
     rintro e w3 ⟨rfl,hb3⟩
     have HRW3:=Lib.hid ((HRW.out.below HB1.out).below hb3)
     have HMD3:Hid (Mod (fun k=>k=g) w w3):=(HMD.out.trans (Mod.of_below HB1.out)).trans (Mod.of_below hb3)
     clear hb3 HCL hn0 hn1 hn2
     go_wp2_with fail
     go_roundw
     case rel=>exact ⟨j+1,cur,by omega,by go_num,by rw [HF2.out],hcl,by show _=_; rw [HF2.out]; exact HT.out,HDR2,HRW3,HMD3⟩
     case measure=>simp [intOf]; omega
    ·
     have HF2:Hid (others fb (ws.take (j+1))=F++[x]):=by show _=_; rw [HST.out,if_neg he]
     rw [decide_eq_false he] at HCL
     clear he
     go_wp2_with fail
     refine HCL.out.mono ?_
     rintro e w3 ⟨rfl,hb3⟩
     have HRW3:=Lib.hid ((HRW.out.below HB1.out).below hb3)
     have HMD3:Hid (Mod (fun k=>k=g) w w3):=(HMD.out.trans (Mod.of_below HB1.out)).trans (Mod.of_below hb3)
     have hm0:w3.cell? ⟨wr.heap.size,0,none⟩=some (.pointer (some ⟨x.blk,0,none⟩)):=by rw [hb3.cell hszn]; exact hn0
     have hm1:w3.cell? ⟨wr.heap.size,1,none⟩=some (.int .i64 (x.pos:Int)):=by rw [hb3.cell hszn]; exact hn1
     have hm2:w3.cell? ⟨wr.heap.size,2,none⟩=some (.string (S x.txt)):=by rw [hb3.cell hszn]; exact hn2
     clear hb3 HCL hn0 hn1 hn2
     have hil:F.length < cur.length:=by omega
     have ho0:w3.cell? ⟨g,F.length * 3,none⟩=some (.pointer (some ⟨cur[F.length].blk,0,none⟩)):=HRW3.out.cell F.length 0 hil (by omega)
     have ho1:w3.cell? ⟨g,F.length * 3+1,none⟩=some (.int .i64 (cur[F.length].pos:Int)):=HRW3.out.cell F.length 1 hil (by omega)
     have ho2:w3.cell? ⟨g,F.length * 3+2,none⟩=some (.string (S cur[F.length].txt)):=HRW3.out.cell F.length 2 hil (by omega)
     have hfz:∀ k,w3.frozen? ⟨g,k,none⟩=false:=fun k=>HRW3.out.frozen k
     have HPUT:=Lib.hid (HRW3.out.put F.length hil x)
     have HMP:Hid (Mod (fun k=>k=g) w3 (((w3.setCell ⟨g,F.length * 3,none⟩ (.pointer (some ⟨x.blk,0,none⟩))).setCell ⟨g,F.length * 3+1,none⟩ (.int .i64 (x.pos:Int))).setCell ⟨g,F.length * 3+2,none⟩ (.string (S x.txt)))):=((mod_set _ _ _ _).trans (mod_set _ _ _ _)).trans (mod_set _ _ _ _)
     have hne:wr.heap.size≠g:=by omega
     go_wp2_with fail
     go_roundw
     case rel =>
      refine ⟨j+1,cur.set F.length x,by omega,by go_num,by rw [HF2.out,List.length_append]; go_num,by rw [List.length_set]; exact hcl,?_,?_,HPUT.out,HMD3.out.trans HMP.out⟩
      · show _=_
        rw [HF2.out,List.length_append]
        show (cur.set F.length x).take (F.length+1)=_
        rw [List.take_succ_eq_append_getElem (by rw [List.length_set]; exact hil),List.take_set_of_le (Nat.le_refl _),HT.out]
        simp
      · show _=_
        rw [List.drop_set_of_lt (by omega)]
        exact HDR2.out
     case measure=>simp [intOf]; omega
   ·
    obtain rfl:j=ws.length:=by omega
    rw [List.take_length] at hol HT
    have hlt2:=HLT.out
    obtain ⟨w4,hcr,⟨cs,hcs,hcz,hct⟩,hcm⟩:=clear_writes HRW.out (others fb ws).length (by omega) (cp - (others fb ws).length) 0
    rw [hcl] at hcr
    rw [HT.out] at hct
    have HLN:=Lib.hid (show (waitsL cur++rest).length=(waitsL ws++rest).length from by rw [List.length_append,List.length_append,waitsL_length,waitsL_length,hcl])
    have HCS:=Lib.hid hcs
    have HCZ:=Lib.hid hcz
    have HCT:=Lib.hid hct
    have HCM:=Lib.hid (HMD.out.trans hcm)
    rw [List.take_length]
    have HCR:=Lib.hid hcr
    clear hcs hcz hct hcm HT HDR hcr HLT
    generalize hFe:others fb ws=F at *
    have HFE:Hid (others fb ws=F):=hFe
    clear hFe
    have hnc:¬ cp=F.length:=by omega
    go_wp2_with fail
    rw [HCR.out]
    go_wp2_with fail
    go_ret
    rw [HFE.out]
    exact ⟨rfl,⟨cs,HCS.out,HCZ.out.trans HLN.out,HCT.out⟩,HCM.out⟩
def setImg (l:List (List UInt8×FileD)) (n:List UInt8) (t:List UInt8):List (List UInt8×FileD):=l.map fun p=>if p.1=n then (p.1,{ p.2 with img:=t }) else p
theorem setImg_fst (l:List (List UInt8×FileD)) (n t:List UInt8):(setImg l n t).map (·.1)=l.map (·.1):=by
 unfold setImg; rw [List.map_map]; apply List.map_congr_left; intro p _; show (if p.1=n then _ else p).1=_; split <;> rfl
theorem setImg_blk (l:List (List UInt8×FileD)) (n t:List UInt8):(setImg l n t).map (·.2.blk)=l.map (·.2.blk):=by
 unfold setImg; rw [List.map_map]; apply List.map_congr_left; intro p _; show (if p.1=n then _ else p).2.blk=_; split <;> rfl
theorem setImg_ptr (l:List (List UInt8×FileD)) (n t:List UInt8):(setImg l n t).map (fun p=>(Value.string (S p.1),Value.pointer (some ⟨p.2.blk,0,none⟩)))=l.map (fun p=>(Value.string (S p.1),Value.pointer (some ⟨p.2.blk,0,none⟩))):=by
 unfold setImg; rw [List.map_map]; apply List.map_congr_left; intro p _; show ((Value.string (S (if p.1=n then _ else p).1),Value.pointer (some ⟨(if p.1=n then _ else p).2.blk,0,none⟩)):Value×Value)=_; split <;> rfl
theorem setImg_mem {l:List (List UInt8×FileD)} {n t:List UInt8} {q:List UInt8×FileD} (h:q∈setImg l n t):∃ p∈l,q.2.blk=p.2.blk∧q.1=p.1∧q.2.now=p.2.now∧(p.1=n→q.2.img=t)∧(p.1≠n→q=p):=by
 obtain ⟨p,hp,rfl⟩:=List.mem_map.1 h
 by_cases e:p.1=n
 · rw [if_pos e]; exact ⟨p,hp,rfl,rfl,rfl,fun _=>rfl,fun h=>absurd e h⟩
 · rw [if_neg e]; exact ⟨p,hp,rfl,rfl,rfl,fun h=>absurd h e,fun _=>rfl⟩
theorem setImg_has {l:List (List UInt8×FileD)} {n t:List UInt8} {p:List UInt8×FileD} (h:p∈l):∃ q∈setImg l n t,q.2.blk=p.2.blk :=
 ⟨_,List.mem_map.2 ⟨p,h,rfl⟩,by show (if p.1=n then _ else p).2.blk=_; split <;> rfl⟩
theorem sizeL_img (l:List (List UInt8×FileD)) (n t:List UInt8):sizeL (setImg l n t)=sizeL l:=by
 unfold sizeL setImg; rw [List.map_map]; congr 1; apply List.map_congr_left; intro p _; show (if p.1=n then _ else p).2.now.length=_; split <;> rfl
theorem DiskAt.set_img {base:Nat} {w:World} {D:DiskD} (h:DiskAt base w D) {n:List UInt8} {f:FileD} (hf:(n,f)∈D.files) (t:List UInt8) :
 DiskAt base (w.setCell ⟨f.blk,0,none⟩ (.string (S t))) { D with files:=setImg D.files n t }∧Mod D.foot w (w.setCell ⟨f.blk,0,none⟩ (.string (S t))):=by
 have hm:Mod (fun k=>k=f.blk) w (w.setCell ⟨f.blk,0,none⟩ (.string (S t))):=mod_set _ _ _ _
 have hmf:Mod D.foot w (w.setCell ⟨f.blk,0,none⟩ (.string (S t))):=hm.mono (fun k _ hk=>.inr (.inr (.inl ⟨_,hf,hk⟩)))
 have key:∀ k,D.foot k→k≠f.blk→(w.setCell ⟨f.blk,0,none⟩ (.string (S t))).heap[k]?=w.heap[k]?:=fun k hk hne=>hm.block k (h.lt hk) hne
 have hself:(w.setCell ⟨f.blk,0,none⟩ (.string (S t))).heap[f.blk]?=some (.cells #[.string (S t),.string (S f.now)] 87 (0,0)):=heap_set1 (h.file _ hf) _ rfl
 have hap:=h.apart.2.1 _ hf
 obtain ⟨es,c,m1,m2,m3⟩:=h.map
 refine ⟨⟨(key _ (.inl rfl) (fun e=>hap.1 e.symm)).trans h.head,⟨es,c,(key _ (.inr (.inl rfl)) (fun e=>hap.2 e.symm)).trans m1,m2,by rw [m3]; exact (setImg_ptr _ _ _).symm⟩,fun q hq=>?_,?_,by show ((setImg D.files n t).map (·.1)).Nodup; rw [setImg_fst]; exact h.names,by show ((setImg D.files n t).map (·.2.blk)).Nodup; rw [setImg_blk]; exact h.blocks,⟨h.apart.1,fun q hq=>?_,fun k hk=>⟨(h.apart.2.2 k hk).1,(h.apart.2.2 k hk).2.1,fun q hq=>?_⟩⟩,⟨h.above.1,h.above.2.1,fun q hq=>?_⟩,h.ints,by show ((sizeL (setImg D.files n t):Nat):Int)≤D.cap; rw [sizeL_img]; exact h.fits,fun x hx=>by obtain ⟨p,hp,e⟩:=h.waitf x hx; rw [← e]; exact setImg_has hp⟩,hmf⟩
 ·
  obtain ⟨p,hp,hb,h1,h2,h3,h4⟩:=setImg_mem hq
  by_cases e:p.1=n
  ·
   have hpf:p=(n,f):=by
    have h5:=find_blk D.files h.blocks
    have:∀ (l:List (List UInt8×FileD)),(l.map (·.1)).Nodup→∀ a∈l,∀ b∈l,a.1=b.1→a=b:=by
     intro l
     induction l with
     | nil=>intro _ a ha; cases ha
     | cons x l ih =>
       intro hn a ha b hb hab
       simp only [List.map_cons,List.nodup_cons] at hn
       rcases List.mem_cons.1 ha with e1 | h1
       · rcases List.mem_cons.1 hb with e2 | h2
         · rw [e1,e2]
         · exact absurd (show x.1∈l.map (·.1) from List.mem_map.2 ⟨b,h2,by rw [← e1]; exact hab.symm⟩) hn.1
       · rcases List.mem_cons.1 hb with e2 | h2
         · exact absurd (show x.1∈l.map (·.1) from List.mem_map.2 ⟨a,h1,by rw [← e2]; exact hab⟩) hn.1
         · exact ih hn.2 a h1 b h2 hab
    exact this _ h.names p hp _ hf e
   have hq2:q.2.cells=#[.string (S t),.string (S f.now)]:=by
    show #[Value.string (S q.2.img),Value.string (S q.2.now)]=_
    rw [h3 e,h2,hpf]
   rw [hb,hq2,hpf]; exact hself
  ·
   rw [h4 e]
   have hne:p.2.blk≠f.blk:=fun e2=>by
    have a1:=find_blk D.files h.blocks p hp
    have a2:=find_blk D.files h.blocks _ hf
    simp only at a2
    rw [e2,a2] at a1
    have:(n,f)=p:=Option.some.inj a1
    exact e (by rw [← this])
   exact (key _ (.inr (.inr (.inl ⟨p,hp,rfl⟩))) hne).trans (h.file p hp)
 ·
  refine ⟨h.row.1,?_⟩
  rcases h.row.2 with h0 | ⟨g,cap,cur,e,hb,hg,r⟩
  · exact .inl h0
  · have hown:D.wv.ownBlock=some g:=by rw [e]; rfl
    exact .inr ⟨g,cap,cur,e,hb,(key g (.inr (.inr (.inr hown))) ((h.apart.2.2 g hown).2.2 _ hf)).trans hg,r⟩
 · obtain ⟨p,hp,hb,_⟩:=setImg_mem hq
   rw [hb]; exact h.apart.2.1 p hp
 · obtain ⟨p,hp,hb,_⟩:=setImg_mem hq
   rw [hb]; exact (h.apart.2.2 k hk).2.2 p hp
 · obtain ⟨p,hp,hb,_⟩:=setImg_mem hq
   rw [hb]; exact h.above.2.2 p hp
theorem delete_nil (cp:Nat) (bx fb:Nat) (w:World) (hs:Seen w bx fb []) :
 Calls Tryz.prog 201 #[.slice none 0 cp,.func (.func 228) #[] #[.pointer (some ⟨bx,0,none⟩)]] w fun e w'=>e=.returned (.slice none 0 cp)∧Below w.heap.size w w':=by
 have HIX:=Lib.hid (index_any none cp [] (by simp) bx fb w (fun k hk=>absurd hk (Nat.not_lt_zero _)) hs)
 rw [show idxL fb [] 0 = -1 from rfl] at HIX
 clear hs
 go_enter Tryz.func201,Tryz.ntmps201
 go_wp2_with fail
 refine HIX.out.mono ?_
 rintro e w2 ⟨rfl,hb⟩
 have HB:=Lib.hid hb
 clear hb HIX
 go_wp2_with fail
 go_ret
 exact ⟨rfl,HB.out⟩
theorem seen_of {base:Nat} {w:World} {D:DiskD} (h:DiskAt base w D) {n:List UInt8} {f:FileD} (hf:(n,f)∈D.files) {bx:Nat} (hbx:w.cell? ⟨bx,0,none⟩=some (.pointer (some ⟨f.blk,0,none⟩))):Seen w bx f.blk D.waits :=
 ⟨hbx,⟨_,_,h.file _ hf⟩,fun x hx=>by obtain ⟨p,hp,e⟩:=h.waitf x hx; rw [← e]; exact ⟨_,_,h.file p hp⟩⟩
theorem del_waits {base:Nat} {w:World} {D:DiskD} (h:DiskAt base w D) {n:List UInt8} {f:FileD} (hf:(n,f)∈D.files) {bx:Nat} (hbx:w.cell? ⟨bx,0,none⟩=some (.pointer (some ⟨f.blk,0,none⟩))) (hbf:¬ D.foot bx) (hwl:D.waits.length≤1048576) :
 Calls Tryz.prog 201 #[D.wv,.func (.func 228) #[] #[.pointer (some ⟨bx,0,none⟩)]] w fun e w' =>
  ∃ wv,e=.returned wv∧w'.ownsRow base 281 3 wv (others f.blk D.waits).length (waitsL (others f.blk D.waits))∧w.grownBy w' D.wv.ownBlock∧wv.ownBlock=D.wv.ownBlock:=by
 have hs:=seen_of h hf hbx
 rcases h.row.2 with ⟨e,h0⟩ | ⟨g,cap,cur,e,hb,hg,hnc,hcm,hcs,htk⟩
 ·
  have hnil:D.waits=[]:=List.length_eq_zero_iff.1 h0
  rw [e,hnil]
  rw [hnil] at hs
  refine (delete_nil 0 bx f.blk w hs).mono ?_
  rintro e2 w2 ⟨rfl,hb2⟩
  exact ⟨_,rfl,⟨rfl,.inl ⟨rfl,rfl⟩⟩,⟨hb2.os,hb2.tape,hb2.output,hb2.size,fun k hk _=>hb2.block k hk⟩,rfl⟩
 ·
  have hown:D.wv.ownBlock=some g:=by rw [e]; rfl
  have hrow3:Row3 w g D.waits (cur.toList.drop (D.waits.length * 3)):=by
   show w.heap[g]?=_
   rw [hg,← htk,List.take_append_drop,Array.toArray_toList]
  have hlen:(waitsL D.waits++cur.toList.drop (D.waits.length * 3)).length=cap * 3:=by rw [← htk,List.take_append_drop,Array.length_toList]; exact hcs
  rw [e]
  have hap:=h.apart.2.2 g hown
  refine (delete_any g cap D.waits (cur.toList.drop (D.waits.length * 3)) hwl hnc bx f.blk w hrow3 hs (fun e2=>hbf (.inr (.inr (.inr (e2 ▸ hown))))) (fun e2=>hap.2.2 _ hf e2.symm) (fun x hx e2=>by
   obtain ⟨p,hp,e3⟩:=h.waitf x hx
   exact hap.2.2 p hp (by rw [e3]; exact e2.symm))).mono ?_
  rintro e2 w2 ⟨rfl,⟨cs,hc1,hc2,hc3⟩,hm⟩
  have hle:(others f.blk D.waits).length≤D.waits.length:=List.length_filter_le _ _
  refine ⟨_,rfl,⟨waitsL_length _,.inr ⟨g,cap,cs,rfl,hb,hc1,by omega,hcm,by rw [hc2]; exact hlen,hc3⟩⟩,⟨hm.os,hm.tape,hm.output,hm.size,fun k hk hne=>hm.block k hk (fun e3=>hne (by rw [e3]; rfl))⟩,rfl⟩
def DiskD.lasts (D:DiskD) (ns:List (List UInt8)) (wv:Value):DiskD :=
 { D with files:=D.files.map (fun p=>if p.1∈ns then (p.1,{ p.2 with img:=p.2.now }) else p),wv:=wv,waits:=D.waits.filter (fun x=>!D.files.any (fun p=>decide (p.1∈ns) && decide (x.blk=p.2.blk))) }
theorem lasts_nil (D:DiskD):D.lasts [] D.wv=D:=by
 unfold DiskD.lasts
 have h1:D.files.map (fun p=>if p.1∈([]:List (List UInt8)) then (p.1,{ p.2 with img:=p.2.now }) else p)=D.files:=by
  conv=>rhs; rw [← List.map_id D.files]
  apply List.map_congr_left; intro p _; simp
 have h2:D.waits.filter (fun x=>!D.files.any (fun p=>decide (p.1∈([]:List (List UInt8))) && decide (x.blk=p.2.blk)))=D.waits:=by
  rw [List.filter_eq_self]; intro x _; simp
 rw [h1,h2]
theorem lasts_step {D:DiskD} {l:List (List UInt8)} {n:List UInt8} {f:FileD} {wv wv':Value} (hn:(D.files.map (·.1)).Nodup) (hf:(n,f)∈D.files) :
 ({ (D.lasts l wv) with files:=setImg (D.lasts l wv).files n f.now,wv:=wv',waits:=others f.blk (D.lasts l wv).waits }:DiskD)=D.lasts (l++[n]) wv':=by
 unfold DiskD.lasts
 simp only [DiskD.mk.injEq,true_and,and_true]
 constructor
 ·
  unfold setImg
  rw [List.map_map]
  apply List.map_congr_left
  intro p hp
  have huniq:p.1=n→p=(n,f):=fun e=>by
   have:∀ (l:List (List UInt8×FileD)),(l.map (·.1)).Nodup→∀ a∈l,∀ b∈l,a.1=b.1→a=b:=by
    intro l
    induction l with
    | nil=>intro _ a ha; cases ha
    | cons x l ih =>
      intro hn a ha b hb hab
      simp only [List.map_cons,List.nodup_cons] at hn
      rcases List.mem_cons.1 ha with e1 | h1
      · rcases List.mem_cons.1 hb with e2 | h2
        · rw [e1,e2]
        · exact absurd (show x.1∈l.map (·.1) from List.mem_map.2 ⟨b,h2,by rw [← e1]; exact hab.symm⟩) hn.1
      · rcases List.mem_cons.1 hb with e2 | h2
        · exact absurd (show x.1∈l.map (·.1) from List.mem_map.2 ⟨a,h1,by rw [← e2]; exact hab⟩) hn.1
        · exact ih hn.2 a h1 b h2 hab
   exact this _ hn p hp _ hf e
  show (if (if p.1∈l then (p.1,({ p.2 with img:=p.2.now }:FileD)) else p).1=n then _ else _)=_
  by_cases e:p.1=n
  ·
   have hpf:=huniq e
   subst hpf
   by_cases h1:n∈l
   · simp [h1]
   · simp [h1]
  · by_cases h1:p.1∈l
    · simp [h1,e]
    · simp [h1,e]
 ·
  unfold others
  rw [List.filter_filter]
  apply List.filter_congr
  intro x _
  unfold keepB
  have hany:D.files.any (fun p=>decide (p.1∈l++[n]) && decide (x.blk=p.2.blk))=(decide (x.blk=f.blk) || D.files.any (fun p=>decide (p.1∈l) && decide (x.blk=p.2.blk))):=by
   rw [Bool.eq_iff_iff]
   simp only [List.any_eq_true,Bool.and_eq_true,decide_eq_true_eq,Bool.or_eq_true,List.mem_append,List.mem_singleton]
   constructor
   ·
    rintro ⟨p,hp,h1 | h1,h2⟩
    · exact .inr ⟨p,hp,h1,h2⟩
    ·
     left
     have:∀ (l:List (List UInt8×FileD)),(l.map (·.1)).Nodup→∀ a∈l,∀ b∈l,a.1=b.1→a=b:=by
      intro l
      induction l with
      | nil=>intro _ a ha; cases ha
      | cons x l ih =>
        intro hn a ha b hb hab
        simp only [List.map_cons,List.nodup_cons] at hn
        rcases List.mem_cons.1 ha with e1 | h1
        · rcases List.mem_cons.1 hb with e2 | h2
          · rw [e1,e2]
          · exact absurd (show x.1∈l.map (·.1) from List.mem_map.2 ⟨b,h2,by rw [← e1]; exact hab.symm⟩) hn.1
        · rcases List.mem_cons.1 hb with e2 | h2
          · exact absurd (show x.1∈l.map (·.1) from List.mem_map.2 ⟨a,h1,by rw [← e2]; exact hab⟩) hn.1
          · exact ih hn.2 a h1 b h2 hab
     have hpf:=this _ hn p hp _ hf h1
     rw [hpf] at h2; exact h2
   · rintro (h1 | ⟨p,hp,h1,h2⟩)
     · exact ⟨_,hf,.inr rfl,h1⟩
     · exact ⟨p,hp,.inl h1,h2⟩
  rw [hany,Bool.not_or]
theorem find_of_mem {D:DiskD} (hn:(D.files.map (·.1)).Nodup) {n:List UInt8} {f:FileD} (h:(n,f)∈D.files):D.find n=some f:=by
 unfold DiskD.find
 have:∀ (l:List (List UInt8×FileD)),(l.map (·.1)).Nodup→(n,f)∈l→l.find? (fun p=>p.1 == n)=some (n,f):=by
  intro l
  induction l with
  | nil=>intro _ h; cases h
  | cons x l ih =>
    intro hn h
    simp only [List.map_cons,List.nodup_cons] at hn
    rcases List.mem_cons.1 h with e | h
    · subst e; simp
    · have hne:(x.1 == n)=false:=by rw [beq_eq_false_iff_ne]; intro e; exact hn.1 (by rw [e]; exact List.mem_map.2 ⟨_,h,rfl⟩)
      rw [List.find?_cons,hne]; exact ih hn.2 h
 rw [this _ hn h]; rfl
theorem lasts_file {D:DiskD} {l:List (List UInt8)} {wv:Value} {n:List UInt8} {f:FileD} (h:(n,f)∈D.files):∃ f',(n,f')∈(D.lasts l wv).files∧f'.blk=f.blk∧f'.now=f.now:=by
 refine ⟨if n∈l then { f with img:=f.now } else f,?_,?_,?_⟩
 ·
  show _∈D.files.map _
  refine List.mem_map.2 ⟨_,h,?_⟩
  show (if n∈l then (n,({ f with img:=f.now }:FileD)) else (n,f))=_
  split <;> rfl
 · split <;> rfl
 · split <;> rfl
theorem lasts_foot {D:DiskD} {l:List (List UInt8)} {wv:Value} (h:wv.ownBlock=D.wv.ownBlock) (k:Nat):(D.lasts l wv).foot k↔D.foot k:=by
 have hb:(∃ p∈(D.lasts l wv).files,k=p.2.blk)↔∃ p∈D.files,k=p.2.blk:=by
  constructor
  · rintro ⟨p,hp,e⟩
    obtain ⟨q,hq,rfl⟩:=List.mem_map.1 hp
    exact ⟨q,hq,by rw [e]; split <;> rfl⟩
  · rintro ⟨p,hp,e⟩
    exact ⟨_,List.mem_map.2 ⟨p,hp,rfl⟩,by rw [e]; split <;> rfl⟩
 unfold DiskD.foot
 rw [hb,show (D.lasts l wv).wv=wv from rfl,h]
 exact Iff.rfl
theorem lasts_any {base:Nat} {D:DiskD} (a:Option Addr) (cap:Nat) (ns:List (List UInt8)) (hns:ns.length≤1048576) (w:World) (h:DiskAt base w D) (hr:Row1 w a (ns.map fun x=>.string (S x))) (haf:∀ ad,a=some ad→¬ D.foot ad.block)
 (hall:∀ n∈ns,∃ f,(n,f)∈D.files) (hwl:D.waits.length≤1048576) :
 Calls Tryz.prog 203 #[.pointer (some ⟨D.blk,0,none⟩),.slice a ns.length cap] w fun e w'=>e=.returned (.tuple #[])∧∃ wv,wv.ownBlock=D.wv.ownBlock∧DiskAt base w' (D.lasts ns wv)∧Mod D.foot w w':=by
 have HR:=Lib.hid hr
 have HAF:=Lib.hid haf
 have HAL:=Lib.hid hall
 have HD:=Lib.hid h
 clear hr haf hall h
 go_enter Tryz.func203,Tryz.ntmps203
 go_wp2_with fail
 go_loopw [9] (fun i wr=>∃ (k:Nat) (wv:Value),k≤ns.length∧i=.int .i64 (k:Int)∧Hid (wv.ownBlock=D.wv.ownBlock)∧Hid (DiskAt base wr (D.lasts (ns.take k) wv))∧Hid (Mod D.foot w wr)) (fun i _=>ns.length+1 - (intOf i).toNat)
 case atStart=>exact ⟨0,D.wv,by omega,rfl,rfl,by show DiskAt _ _ _; rw [List.take_zero,lasts_nil]; exact HD.out,Mod.refl _ _⟩
 case round =>
  obtain ⟨k,wv,hk,rfl,HWV,HDK,HMD⟩:=hrel
  by_cases hlt:k < ns.length
  ·
   obtain ⟨b,off,hbo,hcell⟩:=(HR.out.mod HMD.out HAF.out) k (by rw [List.length_map]; exact hlt)
   rw [List.getElem_map] at hcell
   obtain ⟨f,hf⟩:=HAL.out ns[k] (List.getElem_mem hlt)
   have hst:ns.take (k+1)=ns.take k++[ns[k]]:=List.take_succ_eq_append_getElem hlt
   have HST:=Lib.hid hst
   have HF:=Lib.hid hf
   clear hst hf
   generalize ns[k]=nm at *
   obtain ⟨f',hf',hb',hn'⟩:=lasts_file (l:=ns.take k) (wv:=wv) HF.out
   have HF':=Lib.hid hf'
   have HNB:=Lib.hid hn'
   have HBB:=Lib.hid hb'
   have hlk:=lookup_file HDK.out nm
   rw [find_of_mem HDK.out.names hf'] at hlk
   unfold fileV at hlk
   simp only [Option.map_some] at hlk
   have hdb:(D.lasts (ns.take k) wv).blk=D.blk:=rfl
   have hmm:(D.lasts (ns.take k) wv).mB=D.mB:=rfl
   rw [hmm] at hlk
   have c2:wr.cell? ⟨D.blk,2,none⟩=some (.map (some D.mB)):=HDK.out.cell 2 _ rfl
   have HB1:Hid (Below wr.heap.size wr (wr.alloc (.cells #[.pointer (some ⟨f'.blk,0,none⟩)] 85))):=(Below.refl _ _).alloc (Nat.le_refl _) _
   clear hf' hb' hn' hdb hmm
   rw [hbo] at *
   go_upto_region 4 with fail
   clear hlk c2 hcell
   have hd1:=HDK.out.below HB1.out
   have hbxf:¬ (D.lasts (ns.take k) wv).foot wr.heap.size:=fun h=>by have:=HDK.out.lt h; omega
   have hbx0:(wr.alloc (.cells #[.pointer (some ⟨f'.blk,0,none⟩)] 85)).cell? ⟨wr.heap.size,0,none⟩=some (.pointer (some ⟨f'.blk,0,none⟩)):=by rw [World.cell?_alloc_new]; rfl
   have HM1:Hid (Mod D.foot w (wr.alloc (.cells #[.pointer (some ⟨f'.blk,0,none⟩)] 85))):=HMD.out.trans (Mod.of_below HB1.out)
   have hbsz:wr.heap.size < (wr.alloc (.cells #[.pointer (some ⟨f'.blk,0,none⟩)] 85)).heap.size:=by simp
   clear HB1 HDK
   generalize wr.alloc (.cells #[.pointer (some ⟨f'.blk,0,none⟩)] 85)=w1 at *
   generalize wr.heap.size=bx at *
   have hfile:=hd1.file _ HF'.out
   have hn1:w1.cell? ⟨f'.blk,1,none⟩=some (.string (S f'.now)):=by unfold World.cell?; rw [show w1.heap[(⟨f'.blk,1,none⟩:Addr).block]?=_ from hfile]; rfl
   have hn0:w1.cell? ⟨f'.blk,0,none⟩=some (.string (S f'.img)):=by unfold World.cell?; rw [show w1.heap[(⟨f'.blk,0,none⟩:Addr).block]?=_ from hfile]; rfl
   have hnf:w1.frozen? ⟨f'.blk,0,none⟩=false:=by unfold World.frozen?; rw [show w1.heap[(⟨f'.blk,0,none⟩:Addr).block]?=_ from hfile]; rfl
   obtain ⟨hd2,hm2⟩:=hd1.set_img HF'.out f'.now
   have hne:bx≠f'.blk:=fun e=>hbxf (.inr (.inr (.inl ⟨_,HF'.out,e⟩)))
   have hbx1:((w1.setCell ⟨f'.blk,0,none⟩ (.string (S f'.now))).drew).cell? ⟨bx,0,none⟩=some (.pointer (some ⟨f'.blk,0,none⟩)):=by
    show (w1.setCell ⟨f'.blk,0,none⟩ (.string (S f'.now))).cell? ⟨bx,0,none⟩=_
    rw [World.cell?_setCell_other _ _ _ _ (fun q=>hne (congrArg Addr.block q).symm)]; exact hbx0
   have hd3:=hd2.below ((Below.refl _ (w1.setCell ⟨f'.blk,0,none⟩ (.string (S f'.now)))).drew)
   have hsf:∀ k',(({ (D.lasts (ns.take k) wv) with files:=setImg (D.lasts (ns.take k) wv).files nm f'.now }:DiskD)).foot k'→(D.lasts (ns.take k) wv).foot k':=fun k' hk'=>by
    rcases hk' with h | h | ⟨p,hp,h⟩ | h
    · exact .inl h
    · exact .inr (.inl h)
    · obtain ⟨q,hq,hb,_⟩:=setImg_mem hp
      exact .inr (.inr (.inl ⟨q,hq,h.trans hb⟩))
    · exact .inr (.inr (.inr h))
   have HM3:Hid (Mod D.foot w ((w1.setCell ⟨f'.blk,0,none⟩ (.string (S f'.now))).drew)):=(HM1.out.trans (hm2.mono (fun k' _ hk'=>(lasts_foot HWV.out k').1 hk'))).drew
   have hmem3:∃ f2,(nm,f2)∈setImg (D.lasts (ns.take k) wv).files nm f'.now∧f2.blk=f'.blk:=⟨{ f' with img:=f'.now },List.mem_map.2 ⟨_,HF'.out,by rw [if_pos rfl]⟩,rfl⟩
   have HD3:=Lib.hid hd3
   have HSF:=Lib.hid hsf
   have HMEM3:=Lib.hid hmem3
   have HBXF:=Lib.hid hbxf
   clear hd1 hd2 hd3 hm2 hfile hsf hmem3 hbxf HM1 hne
   go_region
   clear hn1 hn0 hnf hbx0 hbsz
   generalize (w1.setCell ⟨f'.blk,0,none⟩ (.string (S f'.now))).drew=w2 at *
   obtain ⟨f2,hf2,hfb⟩:=HMEM3.out
   have hwl2:(D.lasts (ns.take k) wv).waits.length≤1048576:=Nat.le_trans (List.length_filter_le _ _) hwl
   have HDW:=Lib.hid (del_waits HD3.out hf2 (bx:=bx) (by rw [hfb]; exact hbx1) (fun h=>HBXF.out (HSF.out _ h)) hwl2)
   obtain ⟨aw,cw,hwv⟩:=own_slice HD3.out.row
   replace hwv:wv=.slice aw (D.lasts (ns.take k) wv).waits.length cw:=hwv
   have c3:w2.cell? ⟨D.blk,3,none⟩=some (.slice aw (D.lasts (ns.take k) wv).waits.length cw):=HD3.out.cell 3 _ (by show some wv=_; rw [← hwv])
   rw [hfb] at HDW
   have HDW2:Hid (Calls Tryz.prog 201 #[.slice aw (D.lasts (ns.take k) wv).waits.length cw,.func (.func 228) #[] #[.pointer (some ⟨bx,0,none⟩)]] w2 fun e w' =>
    ∃ wv',e=.returned wv'∧w'.ownsRow base 281 3 wv' (others f'.blk (D.lasts (ns.take k) wv).waits).length (waitsL (others f'.blk (D.lasts (ns.take k) wv).waits))∧w2.grownBy w' wv.ownBlock∧wv'.ownBlock=wv.ownBlock):=by
    have h:=HDW.out
    show Calls _ _ _ _ _
    rw [← hwv]
    exact h
   clear HDW hf2 hfb hbx1 hwl2
   have hdk:D.blk < w2.heap.size:=HD3.out.lt (.inl rfl)
   have hown3:∀ k',wv.ownBlock=some k'→k'≠D.blk:=fun k' hk'=>(HD3.out.apart.2.2 k' hk').1
   have HOWN:=Lib.hid hown3
   have HWVV:=Lib.hid hwv
   clear hown3 hwv
   go_wp2_with fail
   refine HDW2.out.mono ?_
   rintro e w3 ⟨wv',rfl,hrow,hgb,hob⟩
   have hhead:w3.heap[D.blk]?=w2.heap[D.blk]?:=hgb.block _ hdk (fun e=>HOWN.out _ e.symm rfl)
   have hhd:=hhead.trans HD3.out.head
   have hu:∃ u,w3.cell? ⟨D.blk,3,none⟩=some u:=⟨wv,by unfold World.cell?; rw [show w3.heap[(⟨D.blk,3,none⟩:Addr).block]?=_ from hhd]; rfl⟩
   obtain ⟨u,hu⟩:=hu
   have hfz:w3.frozen? ⟨D.blk,3,none⟩=false:=by unfold World.frozen?; rw [show w3.heap[(⟨D.blk,3,none⟩:Addr).block]?=_ from hhd]; rfl
   obtain ⟨hd4,hm4⟩:=HD3.out.set_waits wv' (others f'.blk (D.lasts (ns.take k) wv).waits) hgb hrow (fun k' hk'=>.inl (hob ▸ hk')) (fun x hx=>HD3.out.waitf x (List.mem_filter.1 hx).1)
   have HM4:Hid (Mod D.foot w (w3.setCell ⟨D.blk,3,none⟩ wv')):=HM3.out.trans (hm4.mono (fun k' _ hk'=>(lasts_foot HWV.out k').1 (HSF.out k' hk')))
   have HD4:Hid (DiskAt base (w3.setCell ⟨D.blk,3,none⟩ wv') (D.lasts (ns.take (k+1)) wv')):=by
    show DiskAt _ _ _
    rw [HST.out,← lasts_step (wv:=wv) HD.out.names HF.out,← HNB.out,← HBB.out]
    exact hd4
   have HWV4:Hid (wv'.ownBlock=D.wv.ownBlock):=hob.trans HWV.out
   obtain ⟨a2,cp2,hv'⟩:=own_slice hrow
   generalize (others f'.blk (D.lasts (ns.take k) wv).waits).length=m2 at *
   clear hrow hgb hob hhead hhd hd4 hm4 HDW2
   subst hv'
   go_wp2_with fail
   go_roundw
   case rel=>exact ⟨k+1,_,by omega,by go_num,HWV4,HD4,HM4⟩
   case measure=>simp [intOf]; omega
  ·
   obtain rfl:k=ns.length:=by omega
   rw [List.take_length] at HDK
   go_wp2_with fail
   go_end0
   exact ⟨rfl,wv,HWV.out,HDK.out,HMD.out⟩
def DiskD.syncE (D:DiskD) (ns:List (List UInt8)):Int:=if D.bars ns=0 then D.done else D.bars ns
def DiskD.sync (D:DiskD) (ns:List (List UInt8)) (wv:Value):DiskD:=if D.bars ns=0 then (if D.left=0 then D.burn else D.burn.lasts ns wv) else D
theorem sync_any {base:Nat} {D:DiskD} (a:Option Addr) (cap:Nat) (ns:List (List UInt8)) (hns:ns.length≤1048576) (w:World) (h:DiskAt base w D) (hr:Row1 w a (ns.map fun x=>.string (S x))) (haf:∀ ad,a=some ad→¬ D.foot ad.block) (hwl:D.waits.length≤1048576) :
 Calls Tryz.prog 153 #[.pointer (some ⟨D.blk,0,none⟩),.slice a ns.length cap] w fun e w'=>∃ wv,e=.returned (.int .i64 (D.syncE ns))∧wv.ownBlock=D.wv.ownBlock∧DiskAt base w' (D.sync ns wv)∧Mod D.foot w w':=by
 have HBA:=Lib.hid (bars_any a cap ns hns w h hr)
 have HDN:=Lib.hid (done_any w h)
 have HE:Hid (D.syncE ns=if D.bars ns=0 then D.done else D.bars ns):=rfl
 have HY:Hid (∀ wv,D.sync ns wv=if D.bars ns=0 then (if D.left=0 then D.burn else D.burn.lasts ns wv) else D):=fun _=>rfl
 have HBS:Hid (D.bars ns=if D.down then 8 else if ns.all fun n=>(D.find n).isSome then 0 else 9):=rfl
 have HR:=Lib.hid hr
 have HAF:=Lib.hid haf
 have HD:=Lib.hid h
 clear hr haf h
 go_enter Tryz.func153,Tryz.ntmps153
 go_wp2_with fail
 refine HBA.out.mono ?_
 rintro e w1 ⟨rfl,rfl⟩
 clear HBA
 by_cases hb0:D.bars ns=0
 ·
  have HB0:=Lib.hid hb0
  rw [hb0] at HE HY ⊢
  clear hb0
  go_wp2_with fail
  refine HDN.out.mono ?_
  rintro e w2 ⟨rfl,hd2,hm2⟩
  have HD2:=Lib.hid hd2
  have HM2:Hid (Mod D.foot w1 w2):=Mod.below_foot hm2
  clear hd2 hm2 HDN
  by_cases h0:D.left=0
  ·
   have hdone:D.done=8:=if_pos h0
   rw [hdone] at HE ⊢
   clear hdone
   go_wp2_with fail
   go_ret
   exact ⟨D.wv,by rw [HE.out]; rfl,rfl,by rw [HY.out,if_pos trivial,if_pos h0]; exact HD2.out,HM2.out⟩
  ·
   have hdone:D.done=0:=if_neg h0
   rw [hdone] at HE ⊢
   clear hdone
   have hall:∀ n∈ns,∃ f,(n,f)∈D.burn.files:=fun n hn=>by
    have h1:=HBS.out
    rw [HB0.out] at h1
    have h2:(ns.all fun n=>(D.find n).isSome)=true:=by
     cases h3:(ns.all fun n=>(D.find n).isSome) with
     | true=>rfl
     | false=>rw [h3] at h1; cases hdn:D.down <;> rw [hdn] at h1 <;> simp at h1
    have h4:=List.all_eq_true.1 h2 n hn
    obtain ⟨f,hf⟩:=Option.isSome_iff_exists.1 h4
    exact ⟨f,by rw [(burn_foot D).2.2.2.1]; exact find_some hf⟩
   have HLS:=Lib.hid (lasts_any (D:=D.burn) a cap ns hns w2 HD2.out (HR.out.mod HM2.out HAF.out) (fun ad had hf=>HAF.out ad had (by rw [(burn_foot D).1] at hf; exact hf)) hall (by rw [(burn_foot D).2.2.2.2.2.1]; exact hwl))
   rw [(burn_foot D).2.1] at HLS
   clear hall
   go_wp2_with fail
   refine HLS.out.mono ?_
   rintro e w3 ⟨rfl,wv,hw,hd3,hm3⟩
   have HD3:=Lib.hid hd3
   have HM3:Hid (Mod D.foot w1 w3):=HM2.out.trans (by rw [(burn_foot D).1] at hm3; exact hm3)
   have HW3:Hid (wv.ownBlock=D.wv.ownBlock):=by rw [(burn_foot D).2.2.2.2.1] at hw; exact hw
   clear hd3 hm3 hw HLS
   go_wp2_with fail
   go_ret
   exact ⟨wv,by rw [HE.out]; rfl,HW3.out,by rw [HY.out,if_pos trivial,if_neg h0]; exact HD3.out,HM3.out⟩
 ·
  have HB0:=Lib.hid hb0
  have hcase:D.bars ns=8∨D.bars ns=9:=by
   have h1:=HBS.out
   have h2:=HB0.out
   rw [h1] at h2 ⊢
   split
   · exact .inl rfl
   · rename_i hdn
     rw [if_neg hdn] at h2
     split
     · rename_i h3; rw [if_pos h3] at h2; exact absurd rfl h2
     · exact .inr rfl
  clear hb0
  replace HE:Hid (D.syncE ns=D.bars ns):=by show _=_; rw [HE.out,if_neg HB0.out]
  generalize D.bars ns=bz at *
  rcases hcase with rfl | rfl
  all_goals
   go_wp2_with fail
   go_ret
   exact ⟨D.wv,by rw [HE.out]; rfl,rfl,by rw [HY.out,if_neg (by decide)]; exact HD.out,Mod.refl _ _⟩
end Go.Proofs.YtnoehodmmkioaaaGreatDoor.DskW
namespace Go.Proofs.YtnoehodmmkioaaaGreatDoor.SegW
open Go.RowKit OctMath DskW
structure SegD where
 blk:Nat
 db:Nat
 head:List UInt8
 size:Nat
 n:Nat
 b:Nat
 txt:List UInt8
 synced:Nat
 pv:Value
def SegD.e (R:SegD):Nat:=R.b+R.txt.length
def SegD.places (R:SegD):List Nat:=(List.range R.n).map fun i=>R.b+i * R.size
def SegD.cells (R:SegD):Array Value:=#[.pointer (some ⟨R.db,0,none⟩),.string (S R.head),.int .i64 (R.size:Int),R.pv,.int .i64 (R.e:Int),.int .i64 (R.synced:Int)]
structure SegAt (base:Nat) (w:World) (R:SegD):Prop where
 cells:w.heap[R.blk]?=some (.cells R.cells 116 (0,0))
 row:w.ownsRow base 3 1 R.pv R.n (R.places.map fun (p:Nat)=>Value.int .i64 (p:Int))
 apart:∀ k,R.pv.ownBlock=some k→k≠R.blk
 above:base≤R.blk
 sz:16≤R.size∧R.size≤4096
 empty:R.n=0→R.b=0∧R.txt=[]
 long:0 < R.n→(R.n - 1) * R.size≤R.txt.length∧R.txt.length≤R.n * R.size∧R.b+(R.n - 1) * R.size≤99999999
 mult:R.b % R.size=0
 syn:R.synced≤R.e
 hd:R.head.length≤1048576
def SegD.foot (R:SegD) (k:Nat):Prop:=k=R.blk∨R.pv.ownBlock=some k
theorem SegAt.lt {base:Nat} {w:World} {R:SegD} (h:SegAt base w R) {k:Nat} (hk:R.foot k):k < w.heap.size:=by
 rcases hk with rfl | hk
 · exact (Array.getElem?_eq_some_iff.1 h.cells).1
 · rcases h.row.2 with ⟨e,_⟩ | ⟨g,cap,cur,e,_,hg,_⟩
   · rw [e] at hk; cases hk
   · rw [e] at hk; cases hk; exact (Array.getElem?_eq_some_iff.1 hg).1
theorem ownsRow_mod {base:Nat} {w w':World} {M:Nat→Prop} {e:TypeId} {size n:Nat} {v:Value} {xs:List Value} (h:w.ownsRow base e size v n xs) (hm:Mod M w w') (hM:∀ k,v.ownBlock=some k→¬ M k):w'.ownsRow base e size v n xs:=by
 refine ⟨h.1,?_⟩
 rcases h.2 with h0 | ⟨g,cap,cur,e,hb,hg,r⟩
 · exact .inl h0
 · exact .inr ⟨g,cap,cur,e,hb,(hm.block g (Array.getElem?_eq_some_iff.1 hg).1 (hM g (by rw [e]; rfl))).trans hg,r⟩
theorem SegAt.mod {base:Nat} {w w':World} {R:SegD} {M:Nat→Prop} (h:SegAt base w R) (hm:Mod M w w') (hM:∀ k,R.foot k→¬ M k):SegAt base w' R :=
 { h with
  cells:=(hm.block _ (h.lt (.inl rfl)) (hM _ (.inl rfl))).trans h.cells
  row:=ownsRow_mod h.row hm fun k hk=>hM k (.inr hk) }
theorem SegAt.below {base:Nat} {w w':World} {R:SegD} (h:SegAt base w R) (hb:Below w.heap.size w w'):SegAt base w' R :=
 h.mod (M:=fun _=>False) (Mod.of_below hb) (fun _ _ h=>h)
theorem SegAt.cell {base:Nat} {w:World} {R:SegD} (h:SegAt base w R) (k:Nat) (v:Value) (hv:R.cells[k]?=some v):w.cell? ⟨R.blk,k,Option.none⟩=some v:=by
 unfold World.cell?
 rw [h.cells]
 simpa using hv
theorem SegAt.place {base:Nat} {w:World} {R:SegD} (h:SegAt base w R) (i:Nat) (hi:i < R.n):∃ g cap,R.pv=.slice (some ⟨g,0,Option.none⟩) R.n cap∧R.n≤cap∧w.cell? ⟨g,i,Option.none⟩=some (.int .i64 ((R.b+i * R.size:Nat):Int)):=by
 rcases h.row.2 with ⟨_,e⟩ | ⟨g,cap,cur,e,_,hg,hn,_,hsz,ht⟩
 · omega
 ·
  refine ⟨g,cap,e,hn,?_⟩
  unfold World.cell?
  rw [hg]
  have h1:(cur.toList.take (R.n * 1))[i]?=some (.int .i64 ((R.b+i * R.size:Nat):Int)):=by
   rw [ht]
   simp [SegD.places,hi]
  rw [List.getElem?_take_of_lt (by omega)] at h1
  simpa using h1
theorem SegAt.pv_nil {base:Nat} {w:World} {R:SegD} (h:SegAt base w R):∃ a cap,R.pv=.slice a R.n cap:=by
 rcases h.row.2 with ⟨e,e0⟩ | ⟨g,cap,cur,e,_⟩
 · exact ⟨_,_,by rw [e,e0]⟩
 · exact ⟨_,_,e⟩
theorem SegAt.e_le {base:Nat} {w:World} {R:SegD} (h:SegAt base w R):R.e≤100004095:=by
 unfold SegD.e
 by_cases h0:R.n=0
 · obtain ⟨h1,h2⟩:=h.empty h0
   rw [h1,h2]; simp
 ·
  obtain ⟨h1,h2,h3⟩:=h.long (by omega)
  have:=h.sz
  have h4:R.n * R.size=(R.n - 1) * R.size+R.size:=by
   obtain ⟨m,hm⟩:∃ m,R.n=m+1:=⟨R.n - 1,by omega⟩
   rw [hm,Nat.add_mul]; simp
  omega
theorem begin_any {base:Nat} {R:SegD} (w:World) (h:SegAt base w R) :
 Calls Tryz.prog 123 #[.pointer (some ⟨R.blk,0,none⟩)] w fun e w'=>e=.returned (.int .i64 (R.b:Int))∧w'=w:=by
 obtain ⟨a,cp,hv⟩:=h.pv_nil
 have c3:w.cell? ⟨R.blk,3,none⟩=some (.slice a R.n cp):=h.cell 3 _ (by show some R.pv=_; rw [hv])
 by_cases h0:R.n=0
 ·
  have hb:=(h.empty h0).1
  rw [h0] at c3
  rw [hb]
  clear h hv
  go_enter Tryz.func123,Tryz.ntmps123
  go_wp2_with fail
  go_ret
  exact ⟨rfl,rfl⟩
 ·
  obtain ⟨g,cap,hp,hnc,hc⟩:=h.place 0 (by omega)
  rw [Nat.zero_mul,Nat.add_zero] at hc
  rw [hv] at hp
  injection hp with e1 e2 e3
  subst e1
  have hpos:0 < R.n:=by omega
  have hnn:¬ (R.n:Int)=0:=by omega
  clear h hv e3
  go_enter Tryz.func123,Tryz.ntmps123
  go_wp2_with fail
  go_ret
  exact ⟨rfl,rfl⟩
theorem end_any {base:Nat} {R:SegD} (w:World) (h:SegAt base w R) :
 Calls Tryz.prog 23 #[.pointer (some ⟨R.blk,0,none⟩)] w fun e w'=>e=.returned (.int .i64 (R.e:Int))∧w'=w:=by
 have c4:w.cell? ⟨R.blk,4,none⟩=some (.int .i64 (R.e:Int)):=h.cell 4 _ rfl
 clear h
 go_enter Tryz.func23,Tryz.ntmps23
 go_wp2_with fail
 go_ret
 exact ⟨rfl,rfl⟩
theorem synced_any {base:Nat} {R:SegD} (w:World) (h:SegAt base w R) :
 Calls Tryz.prog 132 #[.pointer (some ⟨R.blk,0,none⟩)] w fun e w'=>e=.returned (.int .i64 (R.synced:Int))∧w'=w:=by
 have c5:w.cell? ⟨R.blk,5,none⟩=some (.int .i64 (R.synced:Int)):=h.cell 5 _ rfl
 clear h
 go_enter Tryz.func132,Tryz.ntmps132
 go_wp2_with fail
 go_ret
 exact ⟨rfl,rfl⟩
theorem name_any {base:Nat} {R:SegD} (w:World) (h:SegAt base w R) (ht:Tab w) (p:Nat) (hp:p≤99999999) :
 Calls Tryz.prog 139 #[.pointer (some ⟨R.blk,0,none⟩),.int .i64 (p:Int)] w fun e w'=>e=.returned (.string (S (nameL R.head p)))∧Below w.heap.size w w':=by
 have c1:w.cell? ⟨R.blk,1,none⟩=some (.string (S R.head)):=h.cell 1 _ rfl
 have c2:=Name_any R.head (p:Int) w ht (by omega) (by have:=h.hd; omega)
 rw [decide_eq_true (by omega:0≤(p:Int)∧(p:Int)≤99999999),show nameR R.head (p:Int)=nameL R.head p by unfold nameR; rw [if_pos (by omega)]; rfl] at c2
 have C:=Lib.hid c2
 clear h ht c2
 generalize nameL R.head p=y at *
 go_enter Tryz.func139,Tryz.ntmps139
 go_wp2_with fail
 refine C.out.mono ?_
 rintro e w2 ⟨rfl,hb⟩
 have HB:=Lib.hid hb
 clear hb C
 go_wp2_with fail
 go_ret
 exact ⟨rfl,HB.out⟩
def SegD.room (R:SegD):Nat:=if 0 < R.n∧R.txt.length < R.n * R.size then R.n * R.size - R.txt.length else R.size
theorem mul_pred {n s:Nat} (h:0 < n):n * s=(n - 1) * s+s:=by
 obtain ⟨m,rfl⟩:∃ m,n=m+1:=⟨n - 1,by omega⟩
 rw [Nat.add_mul]; simp
theorem room_any {base:Nat} {R:SegD} (w:World) (h:SegAt base w R) :
 Calls Tryz.prog 48 #[.pointer (some ⟨R.blk,0,none⟩)] w fun e w'=>e=.returned (.int .i64 (R.room:Int))∧Drawn w w':=by
 obtain ⟨a,cp,hv⟩:=h.pv_nil
 have c2:w.cell? ⟨R.blk,2,none⟩=some (.int .i64 (R.size:Int)):=h.cell 2 _ rfl
 have c3:w.cell? ⟨R.blk,3,none⟩=some (.slice a R.n cp):=h.cell 3 _ (by show some R.pv=_; rw [hv])
 have c4:w.cell? ⟨R.blk,4,none⟩=some (.int .i64 (R.e:Int)):=h.cell 4 _ rfl
 obtain ⟨hs1,hs2⟩:=h.sz
 by_cases h0:R.n=0
 ·
  have hr:R.room=R.size:=by unfold SegD.room; rw [if_neg (by omega)]
  rw [hr]
  rw [h0] at c3
  clear h hv hr c4
  generalize R.size=s at *
  go_enter Tryz.func48,Tryz.ntmps48
  go_wp2_with fail
  go_quiet (fail)
  go_wp2_with fail
  go_ret
  exact ⟨rfl,⟨_,rfl⟩⟩
 ·
  obtain ⟨g,cap,hp,hnc,hc⟩:=h.place (R.n - 1) (by omega)
  rw [hv] at hp
  injection hp with e1 e2 e3
  subst e1
  obtain ⟨l1,l2,l3⟩:=h.long (by omega)
  have hmp:=mul_pred (s:=R.size) (by omega:0 < R.n)
  have hix:((R.n - 1:Nat):Int)=(R.n:Int) - 1:=by omega
  have hee:R.e=R.b+R.txt.length:=rfl
  have hnp:0 < R.n:=by omega
  have hcap:R.n≤1073741824:=by
   have:=Nat.le_mul_of_pos_right R.n (by omega:0 < R.size)
   omega
  have HRR:Hid (R.room=if 0 < R.n∧R.txt.length < R.n * R.size then R.n * R.size - R.txt.length else R.size):=rfl
  clear h hv e3
  generalize R.room=r at *
  generalize R.e=ee at *
  generalize R.size=s at *
  generalize R.txt.length=tl at *
  generalize hns:R.n * s=ns at *
  generalize hpl:R.b+(R.n - 1) * s=pl at *
  have hle:(pl:Int)+(s:Int)=((R.b+ns:Nat):Int):=by omega
  generalize R.b=b at *
  generalize R.n=n at *
  generalize (n - 1) * s=ps at *
  have hn0:(0:Int) < (n:Int):=by omega
  by_cases hlt:tl < ns
  ·
   have hr:(r:Int)=(pl:Int)+(s:Int) - (ee:Int):=by have:=HRR.out; rw [if_pos ⟨hnp,hlt⟩] at this; omega
   have hl2:(ee:Int) < (pl:Int)+(s:Int):=by omega
   rw [hr]
   clear hr HRR hns hpl hle hee
   go_enter Tryz.func48,Tryz.ntmps48
   go_wp2_with fail
   go_quiet (fail)
   go_wp2_with fail
   go_quiet (fail)
   go_wp2_with fail
   go_ret
   exact ⟨rfl,(Drawn.refl w).drewN _ |>.drewN _⟩
  ·
   have hr:r=s:=by have:=HRR.out; rw [if_neg (by omega)] at this; omega
   have hl2:¬ (ee:Int) < (pl:Int)+(s:Int):=by omega
   rw [hr]
   clear hr HRR hns hpl hle hee
   go_enter Tryz.func48,Tryz.ntmps48
   go_wp2_with fail
   go_quiet (fail)
   go_wp2_with fail
   go_ret
   exact ⟨rfl,⟨_,rfl⟩⟩
theorem of_any {base:Nat} {R:SegD} (p:Nat) (hp:p≤1073741824) (w:World) (h:SegAt base w R) :
 Calls Tryz.prog 137 #[.pointer (some ⟨R.blk,0,none⟩),.int .i64 (p:Int)] w fun e w'=>e=.returned (.int .i64 ((p / R.size * R.size:Nat):Int))∧Drawn w w':=by
 have c2:w.cell? ⟨R.blk,2,none⟩=some (.int .i64 (R.size:Int)):=h.cell 2 _ rfl
 obtain ⟨hs1,hs2⟩:=h.sz
 have hq:p / R.size * R.size≤p:=Nat.div_mul_le_self _ _
 have hq2:p / R.size≤p:=Nat.div_le_self _ _
 have hd:Int.tdiv (p:Int) (R.size:Int)=((p / R.size:Nat):Int):=rfl
 have hm:((p / R.size:Nat):Int) * (R.size:Int)=((p / R.size * R.size:Nat):Int):=by rw [Int.natCast_mul]
 have hsz:¬ (R.size:Int)=0:=by omega
 clear h
 generalize hA:p / R.size * R.size=A at *
 generalize p / R.size=q at *
 generalize R.size=s at *
 go_enter Tryz.func137,Tryz.ntmps137
 go_wp2_with fail
 go_quiet (fail)
 go_wp2_with fail
 go_ret
 exact ⟨rfl,⟨_,rfl⟩⟩
def SegD.left (R:SegD) (p:Int):Int:=if p < (R.b:Int)∨(R.e:Int)≤p then 0 else (min (p.toNat / R.size * R.size+R.size) R.e:Nat) - p
theorem left_any {base:Nat} {R:SegD} (p:Int) (hp : -9223372036854775808≤p∧p≤9223372036854775807) (w:World) (h:SegAt base w R) :
 Calls Tryz.prog 136 #[.pointer (some ⟨R.blk,0,none⟩),.int .i64 p] w fun e w'=>e=.returned (.int .i64 (R.left p))∧Drawn w w':=by
 have c2:w.cell? ⟨R.blk,2,none⟩=some (.int .i64 (R.size:Int)):=h.cell 2 _ rfl
 have c4:w.cell? ⟨R.blk,4,none⟩=some (.int .i64 (R.e:Int)):=h.cell 4 _ rfl
 have C:=Lib.hid (begin_any w h)
 have hel:=h.e_le
 obtain ⟨hs1,hs2⟩:=h.sz
 have HL:Hid (R.left p=if p < (R.b:Int)∨(R.e:Int)≤p then 0 else (min (p.toNat / R.size * R.size+R.size) R.e:Nat) - p):=rfl
 by_cases h1:p < (R.b:Int)
 ·
  have hl:R.left p=0:=by rw [HL.out,if_pos (.inl h1)]
  rw [hl]
  clear hl HL h
  go_enter Tryz.func136,Tryz.ntmps136
  go_wp2_with fail
  refine C.out.mono ?_
  rintro e w' ⟨rfl,rfl⟩
  go_wp2_with fail
  go_ret
  exact ⟨rfl,Drawn.refl _⟩
 ·
  by_cases h2:(R.e:Int)≤p
  ·
   have hl:R.left p=0:=by rw [HL.out,if_pos (.inr h2)]
   rw [hl]
   clear hl HL h
   go_enter Tryz.func136,Tryz.ntmps136
   go_wp2_with fail
   refine C.out.mono ?_
   rintro e w' ⟨rfl,rfl⟩
   go_wp2_with fail
   go_ret
   exact ⟨rfl,Drawn.refl _⟩
  ·
   obtain ⟨u,rfl⟩:∃ u:Nat,p=(u:Int):=⟨p.toNat,by omega⟩
   have hl:R.left (u:Int)=(min (u / R.size * R.size+R.size) R.e:Nat) - (u:Int):=by rw [HL.out,if_neg (by omega),Int.toNat_natCast]
   have HO:=Lib.hid (fun (k:Nat)=>of_any u (by omega) (w.drewN k) (h.below (((Drawn.refl w).drewN k).below _)))
   have hq:u / R.size * R.size≤u:=Nat.div_mul_le_self _ _
   have hmn:((min (u / R.size * R.size+R.size) R.e:Nat):Int)=min (((u / R.size * R.size:Nat):Int)+(R.size:Int)) (R.e:Int):=by omega
   rw [hl,hmn]
   clear hl HL h hmn
   generalize u / R.size * R.size=q at *
   generalize R.size=s at *
   generalize R.e=ee at *
   generalize R.b=b at *
   go_enter Tryz.func136,Tryz.ntmps136
   go_wp2_with fail
   refine C.out.mono ?_
   rintro e w' ⟨rfl,rfl⟩
   go_wp2_with fail
   go_quiet (first | (go_at_call 137; exact quiet_drawn (HO.out _)))
   go_wp2_with fail
   go_ret
   exact ⟨rfl,⟨_,rfl⟩⟩
def SegOk (D:DiskD) (R:SegD):Prop:=∀ i,i < R.n→D.bytes (nameL R.head (R.b+i * R.size))=(R.txt.drop (i * R.size)).take R.size∧(D.find (nameL R.head (R.b+i * R.size))).isSome=true
def SegD.readB (R:SegD) (p n:Int):Bool:=decide (1≤n) && decide (n≤R.left p)
def SegD.readE (D:DiskD) (R:SegD) (p n:Int):Int:=if D.down then 8 else if n=0∧(R.b:Int)≤p∧p≤(R.e:Int) then 0 else if R.readB p n then 0 else 2
def SegD.readT (D:DiskD) (R:SegD) (p n:Int):List UInt8:=if D.down=false∧R.readB p n=true then (R.txt.drop (p.toNat - R.b)).take n.toNat else []
theorem place_of {b s p:Nat} (hm:b % s=0) (hs:0 < s) (hp:b≤p):∃ i,p / s * s=b+i * s∧b+i * s≤p∧p < b+i * s+s∧i=(p - b) / s:=by
 obtain ⟨q,rfl⟩:∃ q,b=q * s:=⟨b / s,by have:=Nat.div_add_mod b s; rw [hm,Nat.add_zero,Nat.mul_comm] at this; exact this.symm⟩
 obtain ⟨d,rfl⟩:∃ d,p=q * s+d:=⟨p - q * s,by omega⟩
 have h1:(q * s+d) / s=q+d / s:=by rw [Nat.mul_comm,Nat.mul_add_div hs]
 have h2:=Nat.div_add_mod d s
 have h3:=Nat.mod_lt d hs
 rw [Nat.mul_comm] at h2
 refine ⟨d / s,by rw [h1,Nat.add_mul],by omega,by omega,by rw [Nat.add_sub_cancel_left]⟩
theorem read_plain {base:Nat} {w:World} {D:DiskD} {R:SegD} (h:SegAt base w R) (hok:SegOk D R) {p:Nat} {n:Int} (h1:R.b≤p) (h2:p < R.e) (hn:1≤n) (hl:n≤R.left (p:Int)) (hd:D.down=false) :
 D.readE (nameL R.head (p / R.size * R.size)) ((p:Int) - ((p / R.size * R.size:Nat):Int)) n=0∧D.readT (nameL R.head (p / R.size * R.size)) ((p:Int) - ((p / R.size * R.size:Nat):Int)) n=(R.txt.drop (p - R.b)).take n.toNat:=by
 obtain ⟨hs1,hs2⟩:=h.sz
 have hn0:0 < R.n:=by
  rcases Nat.eq_zero_or_pos R.n with h0 | h0
  · obtain ⟨e1,e2⟩:=h.empty h0
    unfold SegD.e at h2
    rw [e2] at h2; simp at h2; omega
  · exact h0
 obtain ⟨l1,l2,l3⟩:=h.long hn0
 obtain ⟨i,e1,e2,e3,e4⟩:=place_of h.mult (by omega:0 < R.size) h1
 unfold SegD.e at h2
 have hin:i < R.n:=by
  rw [e4]
  exact (Nat.div_lt_iff_lt_mul (by omega)).2 (by omega)
 obtain ⟨f1,f2⟩:=hok i hin
 have hle:n≤((min (R.b+i * R.size+R.size) R.e:Nat):Int) - (p:Int):=by
  unfold SegD.left at hl
  rw [if_neg (by unfold SegD.e; omega),Int.toNat_natCast,e1] at hl
  exact hl
 rw [e1]
 have hbar:D.bars [nameL R.head (R.b+i * R.size)]=0:=by
  unfold DiskD.bars
  rw [hd]
  simp [f2]
 have hlen:(D.bytes (nameL R.head (R.b+i * R.size))).length=min R.size (R.txt.length - i * R.size):=by
  rw [f1,List.length_take,List.length_drop]
 have hro:D.readOk (nameL R.head (R.b+i * R.size)) ((p:Int) - ((R.b+i * R.size:Nat):Int)) n=true:=by
  unfold DiskD.readOk
  rw [hlen]
  unfold SegD.e at hle
  simp only [Bool.and_eq_true,decide_eq_true_eq]
  refine ⟨⟨by omega,by omega⟩,by omega⟩
 refine ⟨?_,?_⟩
 · unfold DiskD.readE
   rw [if_pos hbar,if_pos hro]
 ·
  unfold DiskD.readT
  rw [if_pos ⟨hbar,hro⟩,f1,List.drop_take,List.drop_drop,List.take_take]
  have hk:((p:Int) - ((R.b+i * R.size:Nat):Int)).toNat=p - (R.b+i * R.size):=by omega
  rw [hk]
  unfold SegD.e at hle
  congr 1
  · omega
  · congr 1; omega
theorem read_any {base:Nat} {D:DiskD} {R:SegD} (p n:Int) (hp : -9223372036854775808≤p∧p≤9223372036854775807) (hn : -9223372036854775808≤n∧n≤9223372036854775807) (w:World) (ht:Tab w) (h:SegAt base w R) (hD:DiskAt base w D) (hdb:R.db=D.blk) (hok:SegOk D R) :
 Calls Tryz.prog 82 #[.pointer (some ⟨R.blk,0,none⟩),.int .i64 p,.int .i64 n] w fun e w'=>e=.returned (.tuple #[.string (S (R.readT D p n)),.int .i64 (R.readE D p n)])∧Below w.heap.size w w':=by
 have c0:w.cell? ⟨R.blk,0,none⟩=some (.pointer (some ⟨D.blk,0,none⟩)):=h.cell 0 _ (by rw [← hdb]; rfl)
 have c4:w.cell? ⟨R.blk,4,none⟩=some (.int .i64 (R.e:Int)):=h.cell 4 _ rfl
 have CD:=Lib.hid (down_any w hD)
 have CB:=Lib.hid (begin_any w h)
 have CL:=Lib.hid (left_any p hp w h)
 have HE:Hid (R.readE D p n=if D.down then 8 else if n=0∧(R.b:Int)≤p∧p≤(R.e:Int) then 0 else if R.readB p n then 0 else 2):=rfl
 have HT:Hid (R.readT D p n=if D.down=false∧R.readB p n=true then (R.txt.drop (p.toNat - R.b)).take n.toNat else []):=rfl
 have HBB:Hid (R.readB p n=(decide (1≤n) && decide (n≤R.left p))):=rfl
 by_cases hdn:D.down=true
 ·
  rw [hdn] at CD
  have he:R.readE D p n=8:=by rw [HE.out,if_pos hdn]
  have ht:R.readT D p n=[]:=by rw [HT.out,if_neg (by rw [hdn]; simp)]
  rw [he,ht]
  clear he ht HE HT HBB h hD hok hdb hdn CL CB
  go_enter Tryz.func82,Tryz.ntmps82
  go_wp2_with fail
  refine CD.out.mono ?_
  rintro e w' ⟨rfl,rfl⟩
  go_wp2_with fail
  go_ret2
  exact ⟨rfl,Below.refl _ _⟩
 ·
  rw [Bool.not_eq_true] at hdn
  by_cases hz:n=0∧(R.b:Int)≤p∧p≤(R.e:Int)
  ·
   have he:R.readE D p n=0:=by rw [HE.out,if_neg (by rw [hdn]; simp),if_pos hz]
   have htx:R.readT D p n=[]:=by rw [HT.out,if_neg (by rw [HBB.out,hz.1]; simp)]
   rw [he,htx]
   obtain ⟨rfl,hz1,hz2⟩:=hz
   rw [hdn] at CD
   clear he htx HE HT HBB h hD hok hdb hdn CL
   go_enter Tryz.func82,Tryz.ntmps82
   go_wp2_with fail
   refine CD.out.mono ?_
   rintro e w' ⟨rfl,rfl⟩
   go_wp2_with fail
   refine CB.out.mono ?_
   rintro e w' ⟨rfl,rfl⟩
   go_wp2_with fail
   go_ret2
   exact ⟨rfl,Below.refl _ _⟩
  ·
   rw [if_neg (by rw [hdn]; simp),if_neg hz] at HE
   rw [hdn] at CD
   by_cases hn1:n < 1
   ·
    have hb:R.readB p n=false:=by rw [HBB.out,decide_eq_false (by omega)]; rfl
    have he:R.readE D p n=2:=by rw [HE.out,hb]; rfl
    have htx:R.readT D p n=[]:=by rw [HT.out,hb]; simp
    rw [he,htx]
    clear he htx HE HT HBB h hD hok hdb CL hb
    by_cases hn0:n=0
    ·
     subst hn0
     by_cases hpb:p < (R.b:Int)
     ·
      clear hz
      go_enter Tryz.func82,Tryz.ntmps82
      go_wp2_with fail
      refine CD.out.mono ?_
      rintro e w' ⟨rfl,rfl⟩
      go_wp2_with fail
      refine CB.out.mono ?_
      rintro e w' ⟨rfl,rfl⟩
      go_wp2_with fail
      go_ret2
      exact ⟨rfl,Below.refl _ _⟩
     ·
      have hpe:(R.e:Int) < p:=by omega
      clear hz
      go_enter Tryz.func82,Tryz.ntmps82
      go_wp2_with fail
      refine CD.out.mono ?_
      rintro e w' ⟨rfl,rfl⟩
      go_wp2_with fail
      refine CB.out.mono ?_
      rintro e w' ⟨rfl,rfl⟩
      go_wp2_with fail
      go_ret2
      exact ⟨rfl,Below.refl _ _⟩
    ·
     clear hz
     go_enter Tryz.func82,Tryz.ntmps82
     go_wp2_with fail
     refine CD.out.mono ?_
     rintro e w' ⟨rfl,rfl⟩
     go_wp2_with fail
     go_ret2
     exact ⟨rfl,Below.refl _ _⟩
   ·
    have hn0:¬ n=0:=by omega
    by_cases hll:R.left p < n
    ·
     have hb:R.readB p n=false:=by rw [HBB.out,decide_eq_false (by omega:¬ n≤R.left p),Bool.and_false]
     have he:R.readE D p n=2:=by rw [HE.out,hb]; rfl
     have htx:R.readT D p n=[]:=by rw [HT.out,hb]; simp
     rw [he,htx]
     clear he htx HE HT HBB h hD hok hdb hb hz CB
     generalize R.left p=lf at *
     go_enter Tryz.func82,Tryz.ntmps82
     go_wp2_with fail
     refine CD.out.mono ?_
     rintro e w' ⟨rfl,rfl⟩
     go_wp2_with fail
     refine CL.out.mono ?_
     rintro e w' ⟨rfl,hdr⟩
     have HDR:=Lib.hid hdr
     clear hdr
     go_wp2_with fail
     go_ret2
     exact ⟨rfl,HDR.out.below _⟩
    ·
     have hb:R.readB p n=true:=by rw [HBB.out,decide_eq_true (by omega:1≤n),decide_eq_true (by omega:n≤R.left p)]; rfl
     have he:R.readE D p n=0:=by rw [HE.out,hb]; rfl
     have hpp:(R.b:Int)≤p∧p < (R.e:Int):=by
      have hq:¬ (p < (R.b:Int)∨(R.e:Int)≤p):=by
       intro hq
       have:R.left p=0:=if_pos hq
       omega
      omega
     obtain ⟨u,rfl⟩:∃ u:Nat,p=(u:Int):=⟨p.toNat,by omega⟩
     have htx:R.readT D (u:Int) n=(R.txt.drop (u - R.b)).take n.toNat:=by rw [HT.out,if_pos ⟨hdn,hb⟩,Int.toNat_natCast]
     have hel:=h.e_le
     obtain ⟨hr1,hr2⟩:=read_plain h hok (by omega:R.b≤u) (by omega) (by omega:1≤n) (by omega) hdn
     have hq:u / R.size * R.size≤u:=Nat.div_mul_le_self _ _
     have hlm:=(show ∃ i,u / R.size * R.size=R.b+i * R.size∧i < R.n from by
      have hs:=h.sz
      obtain ⟨i,e1,e2,e3,e4⟩:=place_of h.mult (by omega:0 < R.size) (by omega:R.b≤u)
      refine ⟨i,e1,?_⟩
      have hn0:0 < R.n:=by
       rcases Nat.eq_zero_or_pos R.n with h0 | h0
       · obtain ⟨e5,e6⟩:=h.empty h0
         have:R.e=0:=by unfold SegD.e; rw [e5,e6]; rfl
         omega
       · exact h0
      obtain ⟨l1,l2,l3⟩:=h.long hn0
      rw [e4]
      refine (Nat.div_lt_iff_lt_mul (by omega)).2 ?_
      have:R.e=R.b+R.txt.length:=rfl
      omega)
     have hnm:u / R.size * R.size≤99999999:=by
      obtain ⟨i,e1,e2⟩:=hlm
      obtain ⟨l1,l2,l3⟩:=h.long (by omega)
      have:i * R.size≤(R.n - 1) * R.size:=Nat.mul_le_mul_right _ (by omega)
      omega
     have HOF:=Lib.hid (fun (w2:World) (hb:Below w.heap.size w w2)=>of_any u (by omega) w2 (h.below hb))
     have HNM:=Lib.hid (fun (w2:World) (hb:Below w.heap.size w w2)=>name_any w2 (h.below hb) (ht.below hb) (u / R.size * R.size) hnm)
     have HRD:=Lib.hid (fun (w2:World) (hb:Below w.heap.size w w2)=>DskW.read_any (nameL R.head (u / R.size * R.size)) ((u:Int) - ((u / R.size * R.size:Nat):Int)) n (by omega) hn w2 (hD.below hb))
     rw [hr1,hr2] at HRD
     rw [he,htx]
     have HCC:Hid (∀ w2:World,Below w.heap.size w w2→w2.cell? ⟨R.blk,0,none⟩=some (.pointer (some ⟨D.blk,0,none⟩))):=fun w2 hb=>by rw [hb.cell (cell_lt c0)]; exact c0
     clear he htx HE HT HBB h hD hok hdb hb hz CB hr1 hr2 hlm
     have hwr:IntKind.i64.wrap ((u:Int) - ((u / R.size * R.size:Nat):Int))=(u:Int) - ((u / R.size * R.size:Nat):Int):=IntWalk.i64_in _ (by omega)
     generalize (R.txt.drop (u - R.b)).take n.toNat=tx at *
     generalize nameL R.head (u / R.size * R.size)=nm at *
     generalize u / R.size * R.size=q at *
     generalize R.left (u:Int)=lf at *
     go_enter Tryz.func82,Tryz.ntmps82
     go_wp2_with fail
     refine CD.out.mono ?_
     rintro e wz ⟨rfl,rfl⟩
     go_wp2_with fail
     refine CL.out.mono ?_
     rintro e w' ⟨rfl,hdr⟩
     have HB1:=Lib.hid (hdr.below wz.heap.size)
     clear hdr CL CD
     go_wp2_with fail
     refine (HOF.out _ HB1.out).mono ?_
     rintro e w2 ⟨rfl,hdr⟩
     have HB2:=Lib.hid (HB1.out.trans (hdr.below wz.heap.size))
     clear hdr HOF c0 c4
     go_wp2_with fail
     refine Grow.wp_region_g 16 [none,none,none,some (.inl (.pointer (some ⟨D.blk,0,none⟩))),none,none,some (.inl (.string (S nm))),none,none,none,none,some (.inl (.tuple #[.string (S tx),.int .i64 0])),none,none,none,none] Ext (by kernel_rfl) (by kernel_rfl) (by kernel_rfl) Ext.refl (fun _ _ _=>Ext.trans) ?_ ?_
     · intro K hK Y hY v w w' hR h
       simp only [List.mem_cons,List.not_mem_nil,or_false] at hK
       rcases hK with rfl | rfl | rfl | rfl | rfl | rfl | rfl | rfl | rfl | rfl | rfl | rfl | rfl | rfl | rfl | rfl <;> simp only [reduceCtorEq,Option.some.injEq,Sum.inr.injEq] at hY
     simp only [List.take_succ_cons,List.take_zero,List.drop_succ_cons,List.drop_zero]
     iterate 3
      refine Grow.g_det rfl ?_
      apply Exists.intro
      refine ⟨fun w hw hF=>?_,?_⟩
      · clear hF
        go_simp
        exact ⟨rfl,Ext.refl _⟩
      go_frame
     refine Grow.g_con rfl (fun w2' hw hF=>?_) ?_
     · clear hF
       have c0:=HCC.out w2' (HB2.out.trans (((Below.refl w2.heap.size w2).drew.trans hw).mono HB2.out.size))
       go_simp
       all_goals exact Ext.refl _
     iterate 2
      go_frame
      refine Grow.g_det rfl ?_
      apply Exists.intro
      refine ⟨fun w hw hF=>?_,?_⟩
      · clear hF
        go_simp
        exact ⟨rfl,Ext.refl _⟩
     go_frame
     refine Grow.g_con rfl (fun w2' hw hF=>?_) ?_
     · clear hF
       go_simp
       exact (HNM.out w2' (HB2.out.trans (((Below.refl w2.heap.size w2).drew.trans hw).mono HB2.out.size))).mono fun e w3 h=>⟨_,h.1,rfl,h.2⟩
     iterate 4
      go_frame
      refine Grow.g_det rfl ?_
      apply Exists.intro
      refine ⟨fun w hw hF=>?_,?_⟩
      · clear hF
        go_simp
        exact ⟨rfl,Ext.refl _⟩
     go_frame
     refine Grow.g_con rfl (fun w2' hw hF=>?_) ?_
     · clear hF
       go_simp
       exact (HRD.out w2' (HB2.out.trans (((Below.refl w2.heap.size w2).drew.trans hw).mono HB2.out.size))).mono fun e w3 h=>⟨_,h.1,rfl,h.2⟩
     iterate 4
      go_frame
      refine Grow.g_det rfl ?_
      apply Exists.intro
      refine ⟨fun w hw hF=>?_,?_⟩
      · clear hF
        go_simp
        exact ⟨rfl,Ext.refl _⟩
     go_frame
     refine Grow.g_nil fun w3 hw3 hF=>?_
     clear hF
     refine wpList_nil ?_
     have HB:=Lib.hid (HB2.out.trans (((Below.refl w2.heap.size w2).drew.trans hw3).mono HB2.out.size))
     clear hw3
     go_wp2_with fail
     go_ret2
     exact ⟨rfl,HB.out⟩
def SegD.open_ (R:SegD):Prop:=0 < R.n∧R.txt.length < R.n * R.size
theorem fresh_no {base:Nat} {R:SegD} (w:World) (h:SegAt base w R) (ho:R.open_) :
 Calls Tryz.prog 170 #[.pointer (some ⟨R.blk,0,none⟩)] w fun e w'=>e=.returned (.int .i64 0)∧Drawn w w':=by
 obtain ⟨hn0,hlt⟩:=ho
 obtain ⟨a,cp,hv⟩:=h.pv_nil
 have c2:w.cell? ⟨R.blk,2,none⟩=some (.int .i64 (R.size:Int)):=h.cell 2 _ rfl
 have c3:w.cell? ⟨R.blk,3,none⟩=some (.slice a R.n cp):=h.cell 3 _ (by show some R.pv=_; rw [hv])
 have c4:w.cell? ⟨R.blk,4,none⟩=some (.int .i64 (R.e:Int)):=h.cell 4 _ rfl
 obtain ⟨hs1,hs2⟩:=h.sz
 obtain ⟨l1,l2,l3⟩:=h.long hn0
 obtain ⟨g,cap,hp,hnc,hc⟩:=h.place (R.n - 1) (by omega)
 rw [hv] at hp
 injection hp with e1 e2 e3
 subst e1
 have hmp:=mul_pred (s:=R.size) hn0
 have hix:((R.n - 1:Nat):Int)=(R.n:Int) - 1:=by omega
 have hcap:R.n≤1073741824:=by
  have:=Nat.le_mul_of_pos_right R.n (by omega:0 < R.size)
  omega
 have hrm:R.room=R.n * R.size - R.txt.length:=by unfold SegD.room; rw [if_pos ⟨hn0,hlt⟩]
 have hee:R.e=R.b+R.txt.length:=rfl
 have HRM:=Lib.hid (fun (k:Nat)=>room_any (w.drewN k) (h.below (((Drawn.refl w).drewN k).below _)))
 have hn0i:(0:Int) < (R.n:Int):=by omega
 have key:(R.room:Int) < (R.size:Int)∨(R.room=R.size∧R.e=R.b+(R.n - 1) * R.size):=by omega
 clear h hv e3 hrm hmp l1 l2 hlt hee
 generalize R.room=r at *
 generalize R.e=ee at *
 generalize R.size=s at *
 generalize R.b+(R.n - 1) * s=pl at *
 generalize R.n=n at *
 rcases key with h1 | ⟨h1,h2⟩
 ·
  go_enter Tryz.func170,Tryz.ntmps170
  go_wp2_with fail
  go_quiet (first | (go_at_call 48; exact quiet_drawn (HRM.out _)))
  go_wp2_with fail
  go_ret
  exact ⟨rfl,⟨_,rfl⟩⟩
 ·
  subst h1 h2
  go_enter Tryz.func170,Tryz.ntmps170
  go_wp2_with fail
  go_quiet (first | (go_at_call 48; exact quiet_drawn (HRM.out _)))
  go_wp2_with fail
  go_ret
  exact ⟨rfl,⟨_,rfl⟩⟩
theorem step_append_run {P:Program} (w:World) {ops:Array Oper} {o:Oper} {a:Act} {K:Act→World→Prop} {Q:Exit→Act→World→Prop} {E:Prop} (hgd:o.guard=none) (s x:Operand) (t tn:TypeId)
 (ho:o.op=.call { callee:=.builtin .append,args:=#[s,x],argTypes:=#[t,tn] }) (vs vx:Value) (hs:a.eval s=vs) (hx:a.eval x=vx)
 (v':Value) (w':World) (hr:(Builtin.append_ #[t,tn] o.type #[vs,vx]).run P w=.ok v' w') (h:K (a.put o.dst v') w'):if Region.wanted o (yielded ops a.tmps)=true then Oper.wp P o a w K Q else E:=by
 have hw:Region.wanted o (yielded ops a.tmps)=true:=by simp [Region.wanted,hgd]
 rw [if_pos hw]
 exact Lib.wp_append_run w s x t tn ho vs vx hs hx v' w' hr h
def SegD.more (R:SegD) (pv:Value):SegD:={ R with n:=R.n+1,pv:=pv }
theorem append_place {base:Nat} {w:World} {R:SegD} (h:SegAt base w R) (hfull:R.n=0∨(0 < R.n∧R.txt.length=R.n * R.size)) (he:R.e≤99999999) (hbase:base≤w.heap.size) :
 ∃ v' w8,(Builtin.append_ #[49,49] 49 #[R.pv,.slice (some ⟨w.heap.size,0,none⟩) 1 1]).run Tryz.prog (w.alloc (.cells #[.int .i64 (R.e:Int)] 3))=.ok v' w8 ∧
  SegAt base (w8.setCell ⟨R.blk,3,none⟩ v') (R.more v')∧Mod R.foot w (w8.setCell ⟨R.blk,3,none⟩ v') ∧
  (∃ a cp,v'=.slice a (R.n+1) cp)∧w8.cell? ⟨R.blk,3,none⟩=some R.pv∧w8.cell? ⟨R.blk,4,none⟩=some (.int .i64 (R.e:Int))∧w8.frozen? ⟨R.blk,3,none⟩=false∧∀ k,v'.ownBlock=some k→R.foot k∨w.heap.size≤k:=by
 have hb7:Below w.heap.size w (w.alloc (.cells #[.int .i64 (R.e:Int)] 3)):=(Below.refl _ _).alloc (Nat.le_refl _) _
 have hd7:=h.below hb7
 obtain ⟨i0,hi0,hz0,hz1,hz2⟩:∃ i,Tryz.prog.info? 3=some i∧i.zero=some (.int .i64 0)∧i.size=1∧i.bytes=8:=by
  have:=(show (Tryz.prog.info? 3).map (fun i=>(i.zero,i.size,i.bytes))=some (some (.int .i64 0),1,8) by kernel_rfl)
  cases hh:Tryz.prog.info? 3 with
  | none=>rw [hh] at this; cases this
  | some i=>rw [hh] at this; have h2:=Option.some.inj this; exact ⟨i,rfl,congrArg (·.1) h2,congrArg (·.2.1) h2,congrArg (·.2.2) h2⟩
 have hcap:R.n≤1073741824:=by
  rcases hfull with h0 | ⟨h0,h1⟩
  · omega
  · have:=Nat.le_mul_of_pos_right R.n (by have:=h.sz; omega:0 < R.size)
    unfold SegD.e at he
    omega
 obtain ⟨v',w8,hr,hrow,hgb,_,hob⟩:=run_append_own_at (P:=Tryz.prog) _ base 49 49 3 i0 (.int .i64 0) 1 8 Tryz.underlying49 hi0 hz0 hz1 hz2 rfl (by omega) _ _ _ hd7.row
  ⟨w.heap.size,0,none⟩ 1 1 [.int .i64 (R.e:Int)] rfl (fun j u hu=>by
   have hadd:(⟨w.heap.size,0,none⟩:Addr).add j=⟨w.heap.size,j,none⟩:=by unfold Addr.add; split <;> simp_all
   rw [hadd,World.cell?_alloc_new]
   match j,hu with
   | 0,hu=>exact hu
   | j+1,hu=>cases hu) (fun u hu=>by
   rw [List.mem_singleton] at hu; subst hu; rfl) (by unfold maxLen; omega) (by omega) (Nat.le_trans hbase hb7.size)
 have hsz7:(w.alloc (.cells #[.int .i64 (R.e:Int)] 3)).heap.size=w.heap.size+1:=World.size_alloc _ _
 have hpl:R.places++[R.e]=(R.more v').places:=by
  unfold SegD.places SegD.more
  simp only
  rw [List.range_succ,List.map_append]
  congr 1
  unfold SegD.e
  rcases hfull with h0 | ⟨h0,h1⟩
  · obtain ⟨e1,e2⟩:=h.empty h0
    rw [h0,e1,e2]; simp
  · rw [h1]; rfl
 have hhead8:w8.heap[R.blk]?=some (.cells R.cells 116 (0,0)):=(hgb.block _ (hd7.lt (.inl rfl)) (fun e=>hd7.apart _ e.symm rfl)).trans hd7.cells
 have hown:∀ k,v'.ownBlock=some k→k≠R.blk:=fun k hk=>by
  rcases hob with e | e
  · rw [e] at hk; exact h.apart k hk
  · rw [e] at hk; cases hk
    have:=hd7.lt (.inl rfl); omega
 have hm9:Mod (fun k=>k=R.blk) w8 (w8.setCell ⟨R.blk,3,none⟩ v'):=mod_set _ _ _ _
 refine ⟨v',w8,hr,?_,?_,own_slice hrow,?_,?_,?_,fun k hk=>?_⟩
 ·
  have hset:∀ k,k≠R.blk→(w8.setCell ⟨R.blk,3,none⟩ v').heap[k]?=w8.heap[k]?:=fun k hk=>Below.heap_setCell _ _ _ _ (fun e=>hk e)
  have hrow':(w8.setCell ⟨R.blk,3,none⟩ v').ownsRow base 3 1 v' (R.more v').n ((R.more v').places.map fun (p:Nat)=>Value.int .i64 (p:Int)):=by
   rw [← hpl,List.map_append]
   refine ownsRow_mod (M:=fun k=>k=R.blk) hrow hm9 (fun k hk=>hown k hk)
  refine ⟨heap_set1 hhead8 _ rfl,hrow',hown,h.above,h.sz,fun h0=>absurd (show R.n+1=0 from h0) (by omega),fun _=>?_,h.mult,h.syn,h.hd⟩
  show (R.n+1 - 1) * R.size≤R.txt.length∧R.txt.length≤(R.n+1) * R.size∧R.b+(R.n+1 - 1) * R.size≤99999999
  rw [Nat.add_sub_cancel,Nat.add_mul]
  unfold SegD.e at he
  rcases hfull with h0 | ⟨h0,h1⟩
  · obtain ⟨e1,e2⟩:=h.empty h0
    rw [h0,e1,e2]; simp
  · omega
 · have h1:Mod R.foot w w8:=(Mod.of_below hb7).trans ⟨hgb.os,hgb.tape,hgb.output,hgb.size,fun k hk hnf=>hgb.block k hk (fun e=>hnf (.inr e.symm))⟩
   exact h1.setCell (.inl (.inl rfl)) _
 · unfold World.cell?; rw [show w8.heap[(⟨R.blk,3,none⟩:Addr).block]?=_ from hhead8]; rfl
 · unfold World.cell?; rw [show w8.heap[(⟨R.blk,4,none⟩:Addr).block]?=_ from hhead8]; rfl
 · unfold World.frozen?; rw [show w8.heap[(⟨R.blk,3,none⟩:Addr).block]?=_ from hhead8]; rfl
 · rcases hob with e | e
   · exact .inl (.inr (e ▸ hk))
   · rw [e] at hk; cases hk; right; omega
theorem create_foot {D:DiskD} {n:List UInt8} {b k:Nat} (h:(D.create n b).foot k):D.foot k∨k=b:=by
 obtain ⟨L,Dn,hb⟩:=burn_eq D
 unfold DiskD.create at h
 split at h
 · exact .inl h
 ·
  split at h
  · rw [hb] at h; exact .inl h
  ·
   rw [hb] at h
   rcases h with h | h | ⟨p,hp,h⟩ | h
   · exact .inl (.inl h)
   · exact .inl (.inr (.inl h))
   · rcases List.mem_append.1 hp with hp | hp
     · exact .inl (.inr (.inr (.inl ⟨p,hp,h⟩)))
     · rw [List.mem_singleton] at hp; subst hp; exact .inr h
   · exact .inl (.inr (.inr (.inr h)))
def SegD.freshE (R:SegD) (D:DiskD):Int:=if 99999999 < R.e then 2 else D.createE (nameL R.head R.e)
theorem fresh_new {base:Nat} {D:DiskD} {R:SegD} (w:World) (ht:Tab w) (h:SegAt base w R) (hD:DiskAt base w D) (hdb:R.db=D.blk) (hap:∀ k,D.foot k→¬ R.foot k) (ho:¬ R.open_) (hbase:base≤w.heap.size) :
 Calls Tryz.prog 170 #[.pointer (some ⟨R.blk,0,none⟩)] w fun e w'=>e=.returned (.int .i64 (R.freshE D)) ∧
  (R.freshE D≠0→SegAt base w' R∧((99999999 < R.e∧DiskAt base w' D)∨(¬ 99999999 < R.e∧∃ bk,DiskAt base w' (D.create (nameL R.head R.e) bk)))∧Mod D.foot w w') ∧
  (R.freshE D=0→∃ bk pv,w.heap.size≤bk∧DiskAt base w' (D.create (nameL R.head R.e) bk)∧SegAt base w' (R.more pv)∧Mod (fun k=>D.foot k∨R.foot k) w w'∧(∀ k,pv.ownBlock=some k→R.foot k∨w.heap.size≤k)∧∀ k,(D.create (nameL R.head R.e) bk).foot k→¬ (R.more pv).foot k):=by
 obtain ⟨a,cp,hv⟩:=h.pv_nil
 have c1:w.cell? ⟨R.blk,1,none⟩=some (.string (S R.head)):=h.cell 1 _ rfl
 have c2:w.cell? ⟨R.blk,2,none⟩=some (.int .i64 (R.size:Int)):=h.cell 2 _ rfl
 have c3:w.cell? ⟨R.blk,3,none⟩=some (.slice a R.n cp):=h.cell 3 _ (by show some R.pv=_; rw [hv])
 have c4:w.cell? ⟨R.blk,4,none⟩=some (.int .i64 (R.e:Int)):=h.cell 4 _ rfl
 obtain ⟨hs1,hs2⟩:=h.sz
 have hel:=h.e_le
 have hrm:R.room=R.size:=by unfold SegD.room; exact if_neg ho
 have HRM:=Lib.hid (fun (k:Nat)=>room_any (w.drewN k) (h.below (((Drawn.refl w).drewN k).below _)))
 rw [hrm] at HRM
 have HC1:Hid (∀ w2:World,Below w.heap.size w w2→w2.cell? ⟨R.blk,1,none⟩=some (.string (S R.head))):=fun w2 hb=>by rw [hb.cell (cell_lt c1)]; exact c1
 have HC4:Hid (∀ w2:World,Below w.heap.size w w2→w2.cell? ⟨R.blk,4,none⟩=some (.int .i64 (R.e:Int))):=fun w2 hb=>by rw [hb.cell (cell_lt c4)]; exact c4
 obtain ⟨nm,HNMD⟩:∃ nm,Hid (nm=nameR R.head (R.e:Int)):=⟨_,rfl⟩
 obtain ⟨ok,HOK⟩:∃ ok,Hid (ok=decide (0≤(R.e:Int)∧(R.e:Int)≤99999999)):=⟨_,rfl⟩
 have HNM:Hid (∀ w2:World,Below w.heap.size w w2→Calls Tryz.prog 195 #[.string (S R.head),.int .i64 (R.e:Int)] w2 fun e w'=>e=.returned (.tuple #[.string (S nm),.bool ok])∧Below w2.heap.size w2 w'):=fun w2 hb=>by
  rw [HNMD.out,HOK.out]
  exact Name_any R.head (R.e:Int) w2 (ht.below hb) (by omega) (by have:=h.hd; omega)
 have HH:=Lib.hid h
 have HDD:=Lib.hid hD
 have hfull:R.n=0∨(0 < R.n∧R.txt.length=R.n * R.size):=by
  rcases Nat.eq_zero_or_pos R.n with h0 | h0
  · exact .inl h0
  ·
   right
   refine ⟨h0,?_⟩
   have:=(h.long h0).2.1
   have hno:¬ (R.txt.length < R.n * R.size):=fun hh=>ho ⟨h0,hh⟩
   omega
 have HFU:=Lib.hid hfull
 have hlast:R.n=0∨∃ g cap,R.pv=.slice (some ⟨g,0,Option.none⟩) R.n cap∧R.n≤cap∧w.cell? ⟨g,R.n - 1,Option.none⟩=some (.int .i64 ((R.b+(R.n - 1) * R.size:Nat):Int))∧0 < R.n:=by
  rcases hfull with h0 | ⟨h0,_⟩
  · exact .inl h0
  · obtain ⟨g,cap,r1,r2,r3⟩:=h.place (R.n - 1) (by omega)
    exact .inr ⟨g,cap,r1,r2,r3,h0⟩
 have hcap:R.n≤1073741824:=by
  rcases hfull with h0 | ⟨h0,h1⟩
  · omega
  · have:=Nat.le_mul_of_pos_right R.n (by omega:0 < R.size)
    have:=h.e_le
    unfold SegD.e at this
    omega
 have hne:R.n=0∨¬ (R.e:Int)=((R.b+(R.n - 1) * R.size:Nat):Int):=by
  rcases hfull with h0 | ⟨h0,h1⟩
  · exact .inl h0
  · right
    have:=mul_pred (s:=R.size) h0
    unfold SegD.e
    omega
 clear h hD c1 hrm hfull ht
 rcases hlast with h0 | ⟨g,cap,hp,hnc,hc,hnpos⟩
 ·
  rw [h0] at c3
  clear hne
  go_enter Tryz.func170,Tryz.ntmps170
  go_wp2_with fail
  go_quiet (first | (go_at_call 48; exact quiet_drawn (HRM.out _)))
  go_wp2_with fail
  refine Grow.wp_region_g 14 [none,none,none,some (.inl (.string (S R.head))),none,none,none,some (.inl (.int .i64 (R.e:Int))),some (.inl (.tuple #[.string (S nm),.bool ok])),none,none,none,none,none] Ext (by kernel_rfl) (by kernel_rfl) (by kernel_rfl) Ext.refl (fun _ _ _=>Ext.trans) ?_ ?_
  · intro K hK Y hY v w w' hR h
    simp only [List.mem_cons,List.not_mem_nil,or_false] at hK
    rcases hK with rfl | rfl | rfl | rfl | rfl | rfl | rfl | rfl | rfl | rfl | rfl | rfl | rfl | rfl <;> simp only [reduceCtorEq,Option.some.injEq,Sum.inr.injEq] at hY
  simp only [List.take_succ_cons,List.take_zero,List.drop_succ_cons,List.drop_zero]
  iterate 3
   refine Grow.g_det rfl ?_
   apply Exists.intro
   refine ⟨fun w hw hF=>?_,?_⟩
   · clear hF
     go_simp
     exact ⟨rfl,Ext.refl _⟩
   go_frame
  refine Grow.g_con rfl (fun w2' hw hF=>?_) ?_
  · clear hF
    have c1:=HC1.out w2' ((((Drawn.refl w).drewN nq).below w.heap.size).trans (((Below.refl _ _).drew.trans hw).mono (Nat.le_refl _)))
    go_simp
    all_goals exact Ext.refl _
  iterate 3
   go_frame
   refine Grow.g_det rfl ?_
   apply Exists.intro
   refine ⟨fun w hw hF=>?_,?_⟩
   · clear hF
     go_simp
     exact ⟨rfl,Ext.refl _⟩
  go_frame
  refine Grow.g_con rfl (fun w2' hw hF=>?_) ?_
  · clear hF
    have c4:=HC4.out w2' ((((Drawn.refl w).drewN nq).below w.heap.size).trans (((Below.refl _ _).drew.trans hw).mono (Nat.le_refl _)))
    go_simp
    all_goals exact Ext.refl _
  go_frame
  refine Grow.g_con rfl (fun w2' hw hF=>?_) ?_
  · clear hF
    go_simp
    exact (HNM.out w2' ((((Drawn.refl w).drewN nq).below w.heap.size).trans (((Below.refl _ _).drew.trans hw).mono (Nat.le_refl _)))).mono fun e w3 h=>⟨_,h.1,rfl,h.2⟩
  iterate 5
   go_frame
   refine Grow.g_det rfl ?_
   apply Exists.intro
   refine ⟨fun w hw hF=>?_,?_⟩
   · clear hF
     go_simp
     exact ⟨rfl,Ext.refl _⟩
  go_frame
  refine Grow.g_nil fun w3 hw3 hF=>?_
  clear hF
  refine wpList_nil ?_
  have HB:=Lib.hid ((((Drawn.refl w).drewN nq).below w.heap.size).trans (((Below.refl _ _).drew.trans hw3).mono (Nat.le_refl _)))
  clear hw3
  by_cases h99:99999999 < R.e
  ·
   have hok:ok=false:=by rw [HOK.out]; exact decide_eq_false (by omega)
   subst hok
   have HFE:Hid (R.freshE D=2):=if_pos h99
   go_wp2_with fail
   go_ret
   rw [HFE.out]
   exact ⟨rfl,fun _=>⟨HH.out.below HB.out,.inl ⟨h99,HDD.out.below HB.out⟩,Mod.of_below HB.out⟩,fun h=>absurd h (by decide)⟩
  ·
   have hok:ok=true:=by rw [HOK.out]; exact decide_eq_true (by omega)
   subst hok
   have hnm:nm=nameL R.head R.e:=by rw [HNMD.out]; unfold nameR; rw [if_pos (by omega)]; rfl
   subst hnm
   have HFE:Hid (R.freshE D=D.createE (nameL R.head R.e)):=if_neg h99
   have hd3:=HDD.out.below HB.out
   have hr3:=HH.out.below HB.out
   have c0:w3.cell? ⟨R.blk,0,none⟩=some (.pointer (some ⟨D.blk,0,none⟩)):=hr3.cell 0 _ (by rw [← hdb]; rfl)
   have HCR:=Lib.hid (create_any (nameL R.head R.e) w3 hd3 (Nat.le_trans hbase HB.out.size))
   have HD3:=Lib.hid hd3
   have HR3:=Lib.hid hr3
   clear hd3 hr3
   go_wp2_with fail
   refine HCR.out.mono ?_
   rintro e w4 ⟨bk,hbk,rfl,hd4,hm4⟩
   have HBK:=Lib.hid hbk
   have HD4:=Lib.hid hd4
   have HR4:=Lib.hid (HR3.out.mod hm4 (fun k hk hk2=>hap k hk2 hk))
   have HM4:=Lib.hid ((Mod.of_below (M:=D.foot) HB.out).trans hm4)
   clear hd4 hm4 HCR HD3 HR3 c0 hbk
   by_cases hce:D.createE (nameL R.head R.e)=0
   ·
    have HFZ:Hid (R.freshE D=0):=HFE.out.trans hce
    rw [hce]
    have hr5:SegAt base w4.drew R:=HR4.out.below (Below.refl _ _).drew
    have hs5:w4.drew.heap.size=w4.heap.size:=rfl
    obtain ⟨a5,cp5,hv5⟩:=hr5.pv_nil
    try clear h0
    obtain ⟨v',w8,hr8,hr9,hm9,⟨a9,cp9,rfl⟩,hu3,hu4,hfr8,hft⟩:=append_place hr5 HFU.out (by omega) (Nat.le_trans hbase HM4.out.size)
    have HR9:=Lib.hid hr9
    have HM9:=Lib.hid hm9
    have HFT:=Lib.hid hft
    have HAP:Hid ((Builtin.append_ #[49,49] 49 #[.slice a5 R.n cp5,.slice (some ⟨w4.heap.size,0,none⟩) 1 1]).run Tryz.prog (w4.alloc (.cells #[.int .i64 (R.e:Int)] 3)).drew=.ok (.slice a9 (R.n+1) cp9) w8):=by rw [← hv5]; exact hr8
    have c4b:w4.drew.cell? ⟨R.blk,4,none⟩=some (.int .i64 (R.e:Int)):=hr5.cell 4 _ rfl
    have c3b:w4.drew.cell? ⟨R.blk,3,none⟩=some (.slice a5 R.n cp5):=hr5.cell 3 _ (by show some R.pv=_; rw [hv5])
    have hb5:Below w4.drew.heap.size w4.drew (w4.drew.alloc (.cells #[.int .i64 (R.e:Int)] 3)):=(Below.refl _ _).alloc (Nat.le_refl _) _
    have c3c:(w4.alloc (.cells #[.int .i64 (R.e:Int)] 3)).drew.cell? ⟨R.blk,3,none⟩=some (.slice a5 R.n cp5):=(hb5.cell (cell_lt c3b)).trans c3b
    have c4c:(w4.alloc (.cells #[.int .i64 (R.e:Int)] 3)).drew.cell? ⟨R.blk,4,none⟩=some (.int .i64 (R.e:Int)):=(hb5.cell (cell_lt c4b)).trans c4b
    rw [hv5] at hu3
    clear hr8 hr9 hm9 hft hb5 hce c2 c3 c4 hr5 hv5
    go_wp2_with fail
    go_region_law (refine step_append_run _ (by rfl) _ _ _ _ (by rfl) _ _ (by rfl) (by rfl) (.slice a9 (R.n+1) cp9) w8 HAP.out ?_)
    all_goals (
     go_wp2_with fail
     go_ret
     rw [HFZ.out]
     have hm:=(Mod.of_below (Below.refl w4.heap.size w4).drew).trans HM9.out
     have hcf:∀ k,(D.create (nameL R.head R.e) bk).foot k→¬ R.foot k:=fun k hk hk2=>by
      rcases create_foot hk with h | h
      · exact hap k h hk2
      · have h1:=HH.out.lt hk2
        have h2:=HB.out.size
        have h3:=HBK.out
        omega
     refine ⟨rfl,fun h=>absurd rfl h,fun _=>⟨bk,_,Nat.le_trans HB.out.size HBK.out,HD4.out.mod hm (fun k hk hk2=>hcf k hk hk2),HR9.out,(HM4.out.mono fun _ _ h=>.inl h).trans (hm.mono fun _ _ h=>.inr h),fun k hk=>(HFT.out k hk).imp_right fun h=>Nat.le_trans HM4.out.size h,fun k hk hk2=>?_⟩⟩
     rcases hk2 with rfl | hk2
     · exact hcf _ hk (.inl rfl)
     · rcases HFT.out k hk2 with h | h
       · exact hcf k hk h
       · have h1:=HD4.out.lt hk
         have h2:w4.heap.size≤k:=h
         omega)
   ·
    have HCE:Hid (D.createE (nameL R.head R.e)≠0):=hce
    have hce2:¬ D.createE (nameL R.head R.e)=0:=hce
    clear hce
    generalize D.createE (nameL R.head R.e)=ce at *
    go_wp2_with fail
    go_ret
    rw [HFE.out]
    exact ⟨rfl,fun _=>⟨HR4.out,.inr ⟨h99,bk,HD4.out⟩,HM4.out⟩,fun h=>absurd h HCE.out⟩
 ·
  rw [hv] at hp
  injection hp with e1 e2 e3
  subst e1
  have hn0:¬ R.n=0:=by omega
  have hnei:=hne.resolve_left hn0
  have hix:((R.n - 1:Nat):Int)=(R.n:Int) - 1:=by omega
  have hn0i:(0:Int) < (R.n:Int):=by omega
  have hn0p:0 < R.n:=by omega
  clear hne e3 hv
  generalize hpl:R.b+(R.n - 1) * R.size=pl at *
  go_enter Tryz.func170,Tryz.ntmps170
  go_wp2_with fail
  go_quiet (first | (go_at_call 48; exact quiet_drawn (HRM.out _)))
  go_wp2_with fail
  refine Grow.wp_region_g 14 [none,none,none,some (.inl (.string (S R.head))),none,none,none,some (.inl (.int .i64 (R.e:Int))),some (.inl (.tuple #[.string (S nm),.bool ok])),none,none,none,none,none] Ext (by kernel_rfl) (by kernel_rfl) (by kernel_rfl) Ext.refl (fun _ _ _=>Ext.trans) ?_ ?_
  · intro K hK Y hY v w w' hR h
    simp only [List.mem_cons,List.not_mem_nil,or_false] at hK
    rcases hK with rfl | rfl | rfl | rfl | rfl | rfl | rfl | rfl | rfl | rfl | rfl | rfl | rfl | rfl <;> simp only [reduceCtorEq,Option.some.injEq,Sum.inr.injEq] at hY
  simp only [List.take_succ_cons,List.take_zero,List.drop_succ_cons,List.drop_zero]
  iterate 3
   refine Grow.g_det rfl ?_
   apply Exists.intro
   refine ⟨fun w hw hF=>?_,?_⟩
   · clear hF
     go_simp
     exact ⟨rfl,Ext.refl _⟩
   go_frame
  refine Grow.g_con rfl (fun w2' hw hF=>?_) ?_
  · clear hF
    have c1:=HC1.out w2' ((((Drawn.refl w).drewN nq).below w.heap.size).trans (((Below.refl _ _).drew.trans hw).mono (Nat.le_refl _)))
    go_simp
    all_goals exact Ext.refl _
  iterate 3
   go_frame
   refine Grow.g_det rfl ?_
   apply Exists.intro
   refine ⟨fun w hw hF=>?_,?_⟩
   · clear hF
     go_simp
     exact ⟨rfl,Ext.refl _⟩
  go_frame
  refine Grow.g_con rfl (fun w2' hw hF=>?_) ?_
  · clear hF
    have c4:=HC4.out w2' ((((Drawn.refl w).drewN nq).below w.heap.size).trans (((Below.refl _ _).drew.trans hw).mono (Nat.le_refl _)))
    go_simp
    all_goals exact Ext.refl _
  go_frame
  refine Grow.g_con rfl (fun w2' hw hF=>?_) ?_
  · clear hF
    go_simp
    exact (HNM.out w2' ((((Drawn.refl w).drewN nq).below w.heap.size).trans (((Below.refl _ _).drew.trans hw).mono (Nat.le_refl _)))).mono fun e w3 h=>⟨_,h.1,rfl,h.2⟩
  iterate 5
   go_frame
   refine Grow.g_det rfl ?_
   apply Exists.intro
   refine ⟨fun w hw hF=>?_,?_⟩
   · clear hF
     go_simp
     exact ⟨rfl,Ext.refl _⟩
  go_frame
  refine Grow.g_nil fun w3 hw3 hF=>?_
  clear hF
  refine wpList_nil ?_
  have HB:=Lib.hid ((((Drawn.refl w).drewN nq).below w.heap.size).trans (((Below.refl _ _).drew.trans hw3).mono (Nat.le_refl _)))
  clear hw3
  by_cases h99:99999999 < R.e
  ·
   have hok:ok=false:=by rw [HOK.out]; exact decide_eq_false (by omega)
   subst hok
   have HFE:Hid (R.freshE D=2):=if_pos h99
   go_wp2_with fail
   go_ret
   rw [HFE.out]
   exact ⟨rfl,fun _=>⟨HH.out.below HB.out,.inl ⟨h99,HDD.out.below HB.out⟩,Mod.of_below HB.out⟩,fun h=>absurd h (by decide)⟩
  ·
   have hok:ok=true:=by rw [HOK.out]; exact decide_eq_true (by omega)
   subst hok
   have hnm:nm=nameL R.head R.e:=by rw [HNMD.out]; unfold nameR; rw [if_pos (by omega)]; rfl
   subst hnm
   have HFE:Hid (R.freshE D=D.createE (nameL R.head R.e)):=if_neg h99
   have hd3:=HDD.out.below HB.out
   have hr3:=HH.out.below HB.out
   have c0:w3.cell? ⟨R.blk,0,none⟩=some (.pointer (some ⟨D.blk,0,none⟩)):=hr3.cell 0 _ (by rw [← hdb]; rfl)
   have HCR:=Lib.hid (create_any (nameL R.head R.e) w3 hd3 (Nat.le_trans hbase HB.out.size))
   have HD3:=Lib.hid hd3
   have HR3:=Lib.hid hr3
   clear hd3 hr3
   go_wp2_with fail
   refine HCR.out.mono ?_
   rintro e w4 ⟨bk,hbk,rfl,hd4,hm4⟩
   have HBK:=Lib.hid hbk
   have HD4:=Lib.hid hd4
   have HR4:=Lib.hid (HR3.out.mod hm4 (fun k hk hk2=>hap k hk2 hk))
   have HM4:=Lib.hid ((Mod.of_below (M:=D.foot) HB.out).trans hm4)
   clear hd4 hm4 HCR HD3 HR3 c0 hbk
   by_cases hce:D.createE (nameL R.head R.e)=0
   ·
    have HFZ:Hid (R.freshE D=0):=HFE.out.trans hce
    rw [hce]
    have hr5:SegAt base w4.drew R:=HR4.out.below (Below.refl _ _).drew
    have hs5:w4.drew.heap.size=w4.heap.size:=rfl
    obtain ⟨a5,cp5,hv5⟩:=hr5.pv_nil
    try clear h0
    obtain ⟨v',w8,hr8,hr9,hm9,⟨a9,cp9,rfl⟩,hu3,hu4,hfr8,hft⟩:=append_place hr5 HFU.out (by omega) (Nat.le_trans hbase HM4.out.size)
    have HR9:=Lib.hid hr9
    have HM9:=Lib.hid hm9
    have HFT:=Lib.hid hft
    have HAP:Hid ((Builtin.append_ #[49,49] 49 #[.slice a5 R.n cp5,.slice (some ⟨w4.heap.size,0,none⟩) 1 1]).run Tryz.prog (w4.alloc (.cells #[.int .i64 (R.e:Int)] 3)).drew=.ok (.slice a9 (R.n+1) cp9) w8):=by rw [← hv5]; exact hr8
    have c4b:w4.drew.cell? ⟨R.blk,4,none⟩=some (.int .i64 (R.e:Int)):=hr5.cell 4 _ rfl
    have c3b:w4.drew.cell? ⟨R.blk,3,none⟩=some (.slice a5 R.n cp5):=hr5.cell 3 _ (by show some R.pv=_; rw [hv5])
    have hb5:Below w4.drew.heap.size w4.drew (w4.drew.alloc (.cells #[.int .i64 (R.e:Int)] 3)):=(Below.refl _ _).alloc (Nat.le_refl _) _
    have c3c:(w4.alloc (.cells #[.int .i64 (R.e:Int)] 3)).drew.cell? ⟨R.blk,3,none⟩=some (.slice a5 R.n cp5):=(hb5.cell (cell_lt c3b)).trans c3b
    have c4c:(w4.alloc (.cells #[.int .i64 (R.e:Int)] 3)).drew.cell? ⟨R.blk,4,none⟩=some (.int .i64 (R.e:Int)):=(hb5.cell (cell_lt c4b)).trans c4b
    rw [hv5] at hu3
    clear hr8 hr9 hm9 hft hb5 hce c2 c3 c4 hr5 hv5
    go_wp2_with fail
    go_region_law (refine step_append_run _ (by rfl) _ _ _ _ (by rfl) _ _ (by rfl) (by rfl) (.slice a9 (R.n+1) cp9) w8 HAP.out ?_)
    all_goals (
     go_wp2_with fail
     go_ret
     rw [HFZ.out]
     have hm:=(Mod.of_below (Below.refl w4.heap.size w4).drew).trans HM9.out
     have hcf:∀ k,(D.create (nameL R.head R.e) bk).foot k→¬ R.foot k:=fun k hk hk2=>by
      rcases create_foot hk with h | h
      · exact hap k h hk2
      · have h1:=HH.out.lt hk2
        have h2:=HB.out.size
        have h3:=HBK.out
        omega
     refine ⟨rfl,fun h=>absurd rfl h,fun _=>⟨bk,_,Nat.le_trans HB.out.size HBK.out,HD4.out.mod hm (fun k hk hk2=>hcf k hk hk2),HR9.out,(HM4.out.mono fun _ _ h=>.inl h).trans (hm.mono fun _ _ h=>.inr h),fun k hk=>(HFT.out k hk).imp_right fun h=>Nat.le_trans HM4.out.size h,fun k hk hk2=>?_⟩⟩
     rcases hk2 with rfl | hk2
     · exact hcf _ hk (.inl rfl)
     · rcases HFT.out k hk2 with h | h
       · exact hcf k hk h
       · have h1:=HD4.out.lt hk
         have h2:w4.heap.size≤k:=h
         omega)
   ·
    have HCE:Hid (D.createE (nameL R.head R.e)≠0):=hce
    have hce2:¬ D.createE (nameL R.head R.e)=0:=hce
    clear hce
    generalize D.createE (nameL R.head R.e)=ce at *
    go_wp2_with fail
    go_ret
    rw [HFE.out]
    exact ⟨rfl,fun _=>⟨HR4.out,.inr ⟨h99,bk,HD4.out⟩,HM4.out⟩,fun h=>absurd h HCE.out⟩
def TabB (base:Nat) (w:World):Prop:=∃ W,Tab W∧W.heap.size≤base∧Below W.heap.size W w
theorem TabB.tab {base:Nat} {w:World} (h:TabB base w):Tab w:=by
 obtain ⟨W,h1,h2,h3⟩:=h
 exact h1.below h3
theorem TabB.mod {base:Nat} {w w':World} {M:Nat→Prop} (h:TabB base w) (hm:Mod M w w') (hM:∀ k,M k→base≤k):TabB base w':=by
 obtain ⟨W,h1,h2,h3⟩:=h
 exact ⟨W,h1,h2,h3.trans (hm.to_below W.heap.size h3.size (fun k hk=>Nat.le_trans h2 (hM k hk)))⟩
theorem TabB.below {base:Nat} {w w':World} (h:TabB base w) (hb:Below w.heap.size w w'):TabB base w' :=
 h.mod (M:=fun _=>False) (Mod.of_below hb) (fun _ h=>h.elim)
structure Quiet (D:DiskD):Prop where
 left:D.left = -1
 up:D.down=false
theorem Quiet.burn {D:DiskD} (h:Quiet D):D.burn=D:=by
 unfold DiskD.burn
 rw [h.left]
 simp
theorem Quiet.done {D:DiskD} (h:Quiet D):D.done=0:=by unfold DiskD.done; rw [h.left]; simp
theorem Quiet.createE {D:DiskD} (h:Quiet D) {n:List UInt8} (hf:D.find n=none):D.createE n=0:=by
 unfold DiskD.createE
 rw [h.up,hf,h.done]; simp
theorem Quiet.create {D:DiskD} (h:Quiet D) {n:List UInt8} (hf:D.find n=none) (b:Nat):D.create n b={ D with files:=D.files++[(n,⟨b,[],[]⟩)] }:=by
 unfold DiskD.create
 rw [h.up,hf,h.left,h.burn]; simp [h.left,h.up]
theorem find_create {D:DiskD} (h:Quiet D) {n:List UInt8} (hf:D.find n=none) (b:Nat) (m:List UInt8):(D.create n b).find m=if m=n then some ⟨b,[],[]⟩ else D.find m:=by
 rw [h.create hf]
 unfold DiskD.find at *
 simp only
 rw [List.find?_append]
 by_cases e:m=n
 ·
  subst e
  rw [if_pos rfl]
  cases hh:D.files.find? (fun p=>p.1 == m) with
  | none=>simp
  | some x=>rw [hh] at hf; cases hf
 · rw [if_neg e]
   have:([(n,(⟨b,[],[]⟩:FileD))].find? fun p=>p.1 == m)=none:=by simp; exact fun h=>e h.symm
   rw [this]; simp
theorem find_setNow (l:List (List UInt8×FileD)) (n t m:List UInt8):(((setNow l n t).find? fun p=>p.1 == m).map (·.2))=if m=n then ((l.find? fun p=>p.1 == m).map (·.2)).map (fun f=>{ f with now:=t }) else (l.find? fun p=>p.1 == m).map (·.2):=by
 induction l with
 | nil=>simp [setNow]
 | cons p l ih =>
   unfold setNow at *
   rw [List.map_cons,List.find?_cons,List.find?_cons]
   have e1:(if p.1=n then (p.1,{ p.2 with now:=t }) else p).1=p.1:=by split <;> rfl
   rw [e1]
   by_cases hp:p.1=m
   · rw [show (p.1 == m)=true by simp [hp]]
     simp only [Option.map_some]
     by_cases hm:m=n
     · rw [if_pos hm,if_pos (hp.trans hm)]
     · rw [if_neg hm,if_neg (by rw [hp]; exact hm)]
   · rw [show (p.1 == m)=false by simp [hp]]
     exact ih
theorem laid_end (s t:List UInt8):laidL s s.length t=s++t:=by
 unfold laidL
 by_cases h:t=[]
 · rw [if_pos h,h,List.append_nil]
 ·
  rw [if_neg h]
  unfold overB
  rw [List.take_append_of_le_length (Nat.le_refl _),List.take_length]
  have:s.length+t.length - s.length=t.length:=by omega
  rw [this,List.drop_of_length_le (by simp),List.append_nil]
theorem Quiet.write {D:DiskD} (h:Quiet D) (hn:(D.files.map (·.1)).Nodup) {n:List UInt8} {f:FileD} (hf:D.find n=some f) {o:Int} (ho:o=(f.now.length:Int)) {t:List UInt8} (ht:t≠[]) (hr:(t.length:Int)≤D.room) (wv:Value) :
 D.writeE n o t=0∧D.write n o t wv={ D with files:=setNow D.files n (f.now++t),wv:=wv,waits:=D.waits++[⟨f.blk,f.now.length,t⟩] }:=by
 have hb:D.bars [n]=0:=by rw [bars_one,h.up,hf]; rfl
 have hfit:D.fitB f o t=0:=by
  unfold DiskD.fitB
  subst ho
  rw [if_neg (by omega),if_neg (by omega)]
 subst ho
 unfold DiskD.writeE DiskD.write
 rw [if_pos hb,if_pos hb,hf]
 simp only
 rw [if_pos hfit,if_pos hfit,if_neg (by rw [h.left]; simp [ht]),h.done,h.burn,Int.toNat_natCast,laid_end]
 exact ⟨rfl,rfl⟩
theorem sizeL_append (a b:List (List UInt8×FileD)):sizeL (a++b)=sizeL a+sizeL b:=by unfold sizeL; simp
def SegD.lastP (R:SegD):Nat:=R.b+(R.n - 1) * R.size
def SegD.add (R:SegD) (s:List UInt8):SegD:={ R with txt:=R.txt++s }
def SegOnly (D:DiskD) (R:SegD):Prop:=∀ p,p≤99999999→(∀ i,i < R.n→p≠R.b+i * R.size)→D.find (nameL R.head p)=none
structure Whole (base:Nat) (w:World) (D:DiskD) (R:SegD):Prop where
 seg:SegAt base w R
 dsk:DiskAt base w D
 db:R.db=D.blk
 ap:∀ k,D.foot k→¬ R.foot k
 ok:SegOk D R
 only:SegOnly D R
theorem Whole.mod {base:Nat} {w w':World} {D:DiskD} {R:SegD} {M:Nat→Prop} (h:Whole base w D R) (hm:Mod M w w') (h1:∀ k,D.foot k→¬ M k) (h2:∀ k,R.foot k→¬ M k):Whole base w' D R :=
 { h with seg:=h.seg.mod hm h2,dsk:=h.dsk.mod hm h1 }
theorem Whole.below {base:Nat} {w w':World} {D:DiskD} {R:SegD} (h:Whole base w D R) (hb:Below w.heap.size w w'):Whole base w' D R :=
 { h with seg:=h.seg.below hb,dsk:=h.dsk.below hb }
structure AppOk (D D':DiskD) (R R':SegD) (s:List UInt8):Prop where
 quiet:Quiet D'
 blk:D'.blk=D.blk
 ok:SegOk D' R'
 only:SegOnly D' R'
 other:∀ m,(∀ p,p≤99999999→m≠nameL R.head p)→D'.find m=D.find m
 room:D'.room=D.room - (s.length:Int)
 waits:∃ f o,D'.find (nameL R.head R'.lastP)=some f∧D'.waits=D.waits++[⟨f.blk,o,s⟩]
 blks:∀ m f,D.find m=some f→∃ f',D'.find m=some f'∧f'.blk=f.blk∧f'.img=f.img
 files:D'.files.length≤D.files.length+1
 names:∀ p∈D'.files,p.1.length≤R.head.length+8∨∃ q∈D.files,q.1=p.1
 cap:D'.cap=D.cap
theorem setNow_length (l:List (List UInt8×FileD)) (n t:List UInt8):(setNow l n t).length=l.length:=by unfold setNow; simp
theorem app_open {base:Nat} {w:World} {D:DiskD} {R:SegD} {s:List UInt8} (hR:SegAt base w R) (hD:DiskAt base w D) (hok:SegOk D R) (hon:SegOnly D R) (hq:Quiet D) (hn:0 < R.n) (hs:s≠[])
 (hle:R.txt.length+s.length≤R.n * R.size) (hrm:(s.length:Int)≤D.room) (wv:Value) :
 D.writeE (nameL R.head R.lastP) ((R.e:Int) - (R.lastP:Int)) s=0∧AppOk D (D.write (nameL R.head R.lastP) ((R.e:Int) - (R.lastP:Int)) s wv) R (R.add s) s ∧
  (D.write (nameL R.head R.lastP) ((R.e:Int) - (R.lastP:Int)) s wv).files.length=D.files.length∧∀ p∈(D.write (nameL R.head R.lastP) ((R.e:Int) - (R.lastP:Int)) s wv).files,∃ q∈D.files,q.1=p.1:=by
 obtain ⟨l1,l2,l3⟩:=hR.long hn
 have hsz:=hR.sz
 obtain ⟨hb,hf⟩:=hok (R.n - 1) (by omega)
 have hmp:=mul_pred (s:=R.size) hn
 obtain ⟨f,hf⟩:=Option.isSome_iff_exists.1 hf
 have hfn:f.now=R.txt.drop ((R.n - 1) * R.size):=by
  have:D.bytes (nameL R.head (R.b+(R.n - 1) * R.size))=f.now:=by unfold DiskD.bytes; rw [hf]; rfl
  rw [← this,hb]
  exact List.take_of_length_le (by rw [List.length_drop]; omega)
 have hfl:(R.e:Int) - (R.lastP:Int)=(f.now.length:Int):=by
  rw [hfn,List.length_drop]
  unfold SegD.e SegD.lastP
  omega
 obtain ⟨h1,h2⟩:=hq.write hD.names (n:=nameL R.head R.lastP) (f:=f) hf hfl hs hrm wv
 refine ⟨h1,?_⟩
 rw [h2]
 have hnm:∀ p∈setNow D.files (nameL R.head R.lastP) (f.now++s),∃ q∈D.files,q.1=p.1:=fun p hp=>by
  obtain ⟨q,hq,_,e,_⟩:=setNow_mem hp
  exact ⟨q,hq,e.symm⟩
 have hfind:∀ m,DiskD.find { D with files:=setNow D.files (nameL R.head R.lastP) (f.now++s),wv:=wv,waits:=D.waits++[⟨f.blk,f.now.length,s⟩] } m=if m=nameL R.head R.lastP then (D.find m).map (fun f=>{ f with now:=f.now++s }) else D.find m:=by
  intro m
  unfold DiskD.find
  simp only
  rw [find_setNow]
  by_cases e:m=nameL R.head R.lastP
  · rw [if_pos e,if_pos e]
    subst e
    have:(D.files.find? fun p=>p.1 == nameL R.head R.lastP).map (·.2)=some f:=hf
    rw [this]; rfl
  · rw [if_neg e,if_neg e]
 refine ⟨⟨⟨hq.left,hq.up⟩,rfl,fun i hi=>?_,fun p hp hne=>?_,fun m hm=>?_,?_,?_,fun m g hm=>?_,by simp [setNow_length],fun p hp=>.inr (hnm p hp),rfl⟩,setNow_length _ _ _,hnm⟩
 ·
  have hi':i < R.n:=hi
  obtain ⟨k1,k2⟩:=hok i hi'
  show DiskD.bytes _ (nameL R.head (R.b+i * R.size))=((R.txt++s).drop (i * R.size)).take R.size∧_
  by_cases e:i=R.n - 1
  ·
   subst e
   refine ⟨?_,?_⟩
   · unfold DiskD.bytes
     rw [hfind,if_pos (show nameL R.head (R.b+(R.n - 1) * R.size)=nameL R.head R.lastP from rfl),show D.find (nameL R.head (R.b+(R.n - 1) * R.size))=some f from hf]
     show f.now++s=_
     rw [List.drop_append_of_le_length l1,← hfn,List.take_of_length_le]
     rw [List.length_append,hfn,List.length_drop]; omega
   · show (DiskD.find _ (nameL R.head (R.b+(R.n - 1) * R.size))).isSome=true
     rw [hfind,if_pos (show nameL R.head (R.b+(R.n - 1) * R.size)=nameL R.head R.lastP from rfl),show D.find (nameL R.head (R.b+(R.n - 1) * R.size))=some f from hf]; rfl
  ·
   have hlt:i+1≤R.n - 1:=by omega
   have hmm:(i+1) * R.size≤(R.n - 1) * R.size:=Nat.mul_le_mul_right _ hlt
   rw [Nat.add_mul,Nat.one_mul] at hmm
   have hne:nameL R.head (R.b+i * R.size)≠nameL R.head R.lastP:=fun h=>by
    have:=name_inj h
    unfold SegD.lastP at this
    omega
   refine ⟨?_,?_⟩
   · have:DiskD.bytes { D with files:=setNow D.files (nameL R.head R.lastP) (f.now++s),wv:=wv,waits:=D.waits++[⟨f.blk,f.now.length,s⟩] } (nameL R.head (R.b+i * R.size))=D.bytes (nameL R.head (R.b+i * R.size)):=by
      unfold DiskD.bytes; rw [hfind,if_neg hne]
     rw [this,k1,List.drop_append_of_le_length (by omega),List.take_append_of_le_length (by rw [List.length_drop]; omega)]
   · show (DiskD.find _ (nameL R.head (R.b+i * R.size))).isSome=true
     rw [hfind,if_neg hne]; exact k2
 ·
  rw [hfind,if_neg ?_]
  · exact hon p hp hne
  · intro h
    exact hne (R.n - 1) (by show R.n - 1 < R.n; omega) (name_inj h)
 · rw [hfind,if_neg]
   · intro h; exact hm R.lastP (by unfold SegD.lastP; omega) h
 ·
  unfold DiskD.room DiskD.size
  simp only
  have:=sizeL_set D.files (nameL R.head R.lastP) (f.now++s) f hD.names (find_some hf)
  rw [List.length_append] at this
  omega
 · refine ⟨{ f with now:=f.now++s },f.now.length,?_,rfl⟩
   show DiskD.find _ (nameL R.head R.lastP)=_
   rw [hfind,if_pos rfl,show D.find (nameL R.head R.lastP)=some f from hf]; rfl
 ·
  rw [hfind,hm]
  by_cases e:m=nameL R.head R.lastP
  · rw [if_pos e]; exact ⟨_,rfl,rfl,rfl⟩
  · rw [if_neg e]; exact ⟨_,rfl,rfl,rfl⟩
theorem frD_ok {base:Nat} {w:World} {D:DiskD} {R:SegD} (hR:SegAt base w R) (hok:SegOk D R) (hon:SegOnly D R) (hq:Quiet D) (hfull:R.n=0∨(0 < R.n∧R.txt.length=R.n * R.size)) (he:R.e≤99999999) (bk:Nat) (pv:Value) :
 D.createE (nameL R.head R.e)=0∧Quiet (D.create (nameL R.head R.e) bk)∧SegOk (D.create (nameL R.head R.e) bk) (R.more pv)∧SegOnly (D.create (nameL R.head R.e) bk) (R.more pv) ∧
  (∀ m,(∀ p,p≤99999999→m≠nameL R.head p)→(D.create (nameL R.head R.e) bk).find m=D.find m)∧(D.create (nameL R.head R.e) bk).room=D.room∧(D.create (nameL R.head R.e) bk).waits=D.waits ∧
  (D.create (nameL R.head R.e) bk).files=D.files++[(nameL R.head R.e,⟨bk,[],[]⟩)]∧(D.create (nameL R.head R.e) bk).blk=D.blk∧(D.create (nameL R.head R.e) bk).cap=D.cap:=by
 have hsz:=hR.sz
 have hee:R.e=R.b+R.n * R.size:=by
  unfold SegD.e
  rcases hfull with h0 | ⟨h0,h1⟩
  · obtain ⟨e1,e2⟩:=hR.empty h0
    rw [h0,e1,e2]; simp
  · rw [h1]
 have htl:R.txt.length=R.n * R.size:=by unfold SegD.e at hee; omega
 have hne:∀ i,i < R.n→R.e≠R.b+i * R.size:=fun i hi h=>by
  have:(i+1) * R.size≤R.n * R.size:=Nat.mul_le_mul_right _ hi
  rw [Nat.add_mul,Nat.one_mul] at this
  omega
 have hf:D.find (nameL R.head R.e)=none:=hon R.e he hne
 have hfc:=find_create hq hf bk
 have hcr:=hq.create hf bk
 refine ⟨hq.createE hf,?_,fun i hi=>?_,fun p hp hp2=>?_,fun m hm=>?_,?_,?_,?_,?_,?_⟩
 · rw [hcr]; exact ⟨hq.left,hq.up⟩
 ·
  show DiskD.bytes _ (nameL R.head (R.b+i * R.size))=(R.txt.drop (i * R.size)).take R.size∧(DiskD.find _ (nameL R.head (R.b+i * R.size))).isSome=true
  have hi':i < R.n+1:=hi
  by_cases e:i=R.n
  ·
   subst e
   have h1:(D.create (nameL R.head R.e) bk).find (nameL R.head (R.b+R.n * R.size))=some ⟨bk,[],[]⟩:=by rw [hfc,if_pos (by rw [hee])]
   refine ⟨?_,by rw [h1]; rfl⟩
   unfold DiskD.bytes
   rw [h1,List.drop_of_length_le (by omega),List.take_nil]
   rfl
  ·
   obtain ⟨k1,k2⟩:=hok i (by omega)
   have h1:(D.create (nameL R.head R.e) bk).find (nameL R.head (R.b+i * R.size))=D.find (nameL R.head (R.b+i * R.size)):=by
    rw [hfc,if_neg]
    intro h
    exact hne i (by omega) (name_inj h).symm
   refine ⟨?_,by rw [h1]; exact k2⟩
   rw [← k1]
   unfold DiskD.bytes
   rw [h1]
 ·
  show DiskD.find _ (nameL R.head p)=none
  rw [hfc,if_neg ?_]
  · exact hon p hp fun i hi=>hp2 i (by show i < R.n+1; omega)
  · intro h
    have:=name_inj h
    exact hp2 R.n (by show R.n < R.n+1; omega) (this.trans hee)
 · rw [hfc,if_neg (hm R.e he)]
 ·
  unfold DiskD.room DiskD.size
  rw [hcr]
  simp only
  rw [sizeL_append]
  show D.cap - ((sizeL D.files+0:Nat):Int)=_
  rw [Nat.add_zero]
 · rw [hcr]
 · rw [hcr]
 · rw [hcr]
 · rw [hcr]
theorem open_or {base:Nat} {w:World} {R:SegD} (h:SegAt base w R):(0 < R.n∧R.txt.length < R.n * R.size)∨(R.n=0∨(0 < R.n∧R.txt.length=R.n * R.size)):=by
 rcases Nat.eq_zero_or_pos R.n with h0 | h0
 · exact .inr (.inl h0)
 ·
  have:=(h.long h0).2.1
  by_cases h1:R.txt.length < R.n * R.size
  · exact .inl ⟨h0,h1⟩
  · exact .inr (.inr ⟨h0,by omega⟩)
structure FrOk (D D1:DiskD) (R R1:SegD):Prop where
 quiet:Quiet D1
 blk:D1.blk=D.blk
 other:∀ m,(∀ p,p≤99999999→m≠nameL R.head p)→D1.find m=D.find m
 room:D1.room=D.room
 waits:D1.waits=D.waits
 files:D1.files=D.files∨∃ n bk,n.length≤R.head.length+8∧D1.files=D.files++[(n,⟨bk,[],[]⟩)]
 same:R1={ R with n:=R1.n,pv:=R1.pv }
 pos:0 < R1.n
 fit:R.txt.length+R.room≤R1.n * R1.size
 cap:D1.cap=D.cap
theorem FrOk.refl {D:DiskD} {R:SegD} (hq:Quiet D) (ho:0 < R.n∧R.txt.length < R.n * R.size):FrOk D D R R :=
 ⟨hq,rfl,fun _ _=>rfl,rfl,rfl,.inl rfl,rfl,ho.1,by unfold SegD.room; rw [if_pos ho]; omega,rfl⟩
theorem AppOk.join {D D1 D':DiskD} {R R1 R':SegD} {s:List UInt8} (h:AppOk D1 D' R1 R' s) (hlen:D'.files.length=D1.files.length) (hnm:∀ p∈D'.files,∃ q∈D1.files,q.1=p.1) (hf:FrOk D D1 R R1):AppOk D D' R R' s:=by
 have hh:R1.head=R.head:=by rw [hf.same]
 refine ⟨h.quiet,h.blk.trans hf.blk,h.ok,h.only,fun m hm=>?_,by rw [h.room,hf.room],?_,fun m f hm=>?_,?_,fun p hp=>?_,h.cap.trans hf.cap⟩
 · rw [h.other m (by rw [hh]; exact hm),hf.other m hm]
 · obtain ⟨f,o,h1,h2⟩:=h.waits
   exact ⟨f,o,by rw [← hh]; exact h1,by rw [h2,hf.waits]⟩
 ·
  have:D1.find m=some f:=by
   rcases hf.files with e | ⟨n,bk,_,e⟩
   · unfold DiskD.find at *
     rw [e]; exact hm
   · unfold DiskD.find at *
     rw [e,List.find?_append]
     cases hx:D.files.find? (fun p=>p.1 == m) with
     | none=>rw [hx] at hm; cases hm
     | some x=>rw [hx] at hm; exact hm
  exact h.blks m f this
 · rw [hlen]
   rcases hf.files with e | ⟨n,bk,_,e⟩ <;> rw [e] <;> simp
 ·
  obtain ⟨q,hq,e⟩:=hnm p hp
  rcases hf.files with e2 | ⟨n,bk,hn,e2⟩
  · rw [e2] at hq; exact .inr ⟨q,hq,e⟩
  ·
   rw [e2,List.mem_append] at hq
   rcases hq with hq | hq
   · exact .inr ⟨q,hq,e⟩
   · rw [List.mem_singleton] at hq
     subst hq
     left
     rw [← e]; exact hn
theorem fresh_ok {base:Nat} {D:DiskD} {R:SegD} (w:World) (hT:TabB base w) (hW:Whole base w D R) (hq:Quiet D) (hbase:base≤w.heap.size) (he:(R.n=0∨(0 < R.n∧R.txt.length=R.n * R.size))→R.e≤99999999) :
 Calls Tryz.prog 170 #[.pointer (some ⟨R.blk,0,none⟩)] w fun e w'=>e=.returned (.int .i64 0)∧∃ D1 R1,Whole base w' D1 R1∧FrOk D D1 R R1∧Mod (fun k=>D.foot k∨R.foot k) w w' ∧
  (∀ k,D1.foot k→D.foot k∨w.heap.size≤k)∧∀ k,R1.foot k→R.foot k∨w.heap.size≤k:=by
 rcases open_or hW.seg with ho | hfull
 · refine (fresh_no w hW.seg ho).mono ?_
   rintro e w' ⟨rfl,hd⟩
   exact ⟨rfl,D,R,hW.below (hd.below _),FrOk.refl hq ho,Mod.of_below (hd.below _),fun k h=>.inl h,fun k h=>.inl h⟩
 ·
  have hno:¬ R.open_:=by rintro ⟨h1,h2⟩; rcases hfull with h | h <;> omega
  have he9:=he hfull
  have hP:=fun (bk:Nat) (pv:Value)=>frD_ok hW.seg hW.ok hW.only hq hfull he9 bk pv
  have hE:R.freshE D=0:=by unfold SegD.freshE; rw [if_neg (by omega)]; exact (hP 0 (.bool true)).1
  refine (fresh_new w hT.tab hW.seg hW.dsk hW.db hW.ap hno hbase).mono ?_
  rintro e w' ⟨rfl,-,h⟩
  obtain ⟨bk,pv,h1,h2,h3,h4,h5,h6⟩:=h hE
  obtain ⟨p1,p2,p3,p4,p5,p6,p7,p8,p9,p10⟩:=hP bk pv
  rw [hE]
  refine ⟨rfl,D.create (nameL R.head R.e) bk,R.more pv,⟨h3,h2,hW.db.trans p9.symm,h6,p3,p4⟩,⟨p2,p9,p5,p6,p7,.inr ⟨_,bk,?_,p8⟩,rfl,?_,?_,p10⟩,h4,fun k hk=>?_,fun k hk=>?_⟩
  · unfold nameL; rw [List.length_append,pad_len R.e he9]; exact Nat.le_refl _
  · show 0 < R.n+1; omega
  ·
   show R.txt.length+R.room≤(R.n+1) * R.size
   have:R.room=R.size:=by unfold SegD.room; exact if_neg hno
   rw [this,Nat.add_mul,Nat.one_mul]
   rcases hfull with h0 | ⟨h0,h1'⟩
   · obtain ⟨-,e2⟩:=hW.seg.empty h0
     rw [h0,e2]; simp
   · omega
  · rcases create_foot hk with h | h
    · exact .inl h
    · right; omega
  · rcases hk with h | h
    · exact .inl (.inl h)
    · exact h5 k h
theorem append_arg {base:Nat} {D:DiskD} {R:SegD} (s:List UInt8) (w:World) (hW:Whole base w D R) (hs:s=[]∨R.room < s.length) :
 Calls Tryz.prog 108 #[.pointer (some ⟨R.blk,0,none⟩),.string (S s)] w fun e w'=>e=.returned (.tuple #[.int .i64 0,.int .i64 1])∧Below w.heap.size w w':=by
 have hsz:=S_size
 have htl:=S_toList
 by_cases h0:s=[]
 ·
  subst h0
  clear hs hW
  go_enter Tryz.func108,Tryz.ntmps108
  go_wp2_with fail
  go_ret2
  exact ⟨rfl,Below.refl _ _⟩
 ·
  have hR:R.room < s.length:=by rcases hs with h | h; exact absurd h h0; exact h
  have HRM:=Lib.hid (room_any w hW.seg)
  have hRi:(R.room:Int) < (s.length:Int):=by omega
  clear hs hW hR
  generalize R.room=r at *
  go_enter Tryz.func108,Tryz.ntmps108
  go_wp2_with fail
  refine HRM.out.mono ?_
  rintro e w' ⟨rfl,hd⟩
  go_wp2_with fail
  go_ret2
  exact ⟨rfl,hd.below _⟩
theorem append_far {base:Nat} {D:DiskD} {R:SegD} (s:List UInt8) (w:World) (hT:TabB base w) (hW:Whole base w D R) (hbase:base≤w.heap.size) (hq:Quiet D) (h0:s≠[]) (hr:s.length≤R.room) (hf:(s.length:Int)≤D.room)
 (hfull:R.n=0∨(0 < R.n∧R.txt.length=R.n * R.size)) (h99:99999999 < R.e) :
 Calls Tryz.prog 108 #[.pointer (some ⟨R.blk,0,none⟩),.string (S s)] w fun e w'=>e=.returned (.tuple #[.int .i64 0,.int .i64 2])∧Whole base w' D R∧Mod D.foot w w':=by
 have hsz:=S_size
 have htl:=S_toList
 have h0b:s.isEmpty=false:=by cases s with | nil=>exact absurd rfl h0 | cons _ _=>rfl
 have HRM:=Lib.hid (room_any w hW.seg)
 have HDR:=Lib.hid (fun (w2:World) (hb:Below w.heap.size w w2)=>DskW.room_any w2 (hW.dsk.below hb))
 have hno:¬ R.open_:=by rintro ⟨h1,h2⟩; rcases hfull with h | h <;> omega
 have hE:R.freshE D=2:=if_pos h99
 have HFR:=Lib.hid (fun (w2:World) (hb:Below w.heap.size w w2)=>fresh_new w2 (hT.below hb).tab (hW.seg.below hb) (hW.dsk.below hb) hW.db hW.ap hno (Nat.le_trans hbase hb.size))
 rw [hE] at HFR
 have HC0:=Lib.hid (fun (w2:World) (hb:Below w.heap.size w w2)=>(hW.seg.below hb).cell 0 (.pointer (some ⟨D.blk,0,none⟩)) (by rw [← hW.db]; rfl))
 have HW:=Lib.hid hW
 have H99:=Lib.hid h99
 have hRi:¬ R.room < s.length:=by omega
 have hDi:¬ D.room < (s.length:Int):=by omega
 clear hW hr h0 hq hT hfull hno hE h99 hf
 generalize R.room=r at *
 generalize D.room=dr at *
 go_enter Tryz.func108,Tryz.ntmps108
 go_wp2_with fail
 refine HRM.out.mono ?_
 rintro e w1 ⟨rfl,hd⟩
 have HB1:=Lib.hid (hd.below w.heap.size)
 have c0:=HC0.out w1 HB1.out
 clear hd HRM
 go_wp2_with fail
 refine (HDR.out w1 HB1.out).mono ?_
 rintro e w2 ⟨rfl,hb⟩
 have HB2:=Lib.hid (HB1.out.trans (hb.mono HB1.out.size))
 clear hb HDR
 go_wp2_with fail
 refine (HFR.out w2 HB2.out).mono ?_
 rintro e w3 ⟨rfl,h,-⟩
 obtain ⟨h1,h2,h3⟩:=h (by decide)
 have HD3:Hid (DiskAt base w3 D):=by
  rcases h2 with h2 | ⟨h2,-⟩
  · exact h2.2
  · exact absurd H99.out h2
 have HS3:=Lib.hid h1
 have HM3:=Lib.hid ((Mod.of_below (M:=D.foot) HB2.out).trans h3)
 clear h1 h2 h3 h
 go_wp2_with fail
 go_ret2
 exact ⟨rfl,{ HW.out with seg:=HS3.out,dsk:=HD3.out },HM3.out⟩
theorem mod_over {M M':Nat→Prop} {u v w:World} (h:Mod M u v) (h':Mod M' v w) (hk:∀ k,M' k→M k∨u.heap.size≤k):Mod M u w :=
 ⟨h'.os.trans h.os,h'.tape.trans h.tape,h'.output.trans h.output,Nat.le_trans h.size h'.size,fun k hk1 hk2=>(h'.block k (Nat.lt_of_lt_of_le hk1 h.size) (fun hm=>by
  rcases hk k hm with h1 | h1
  · exact hk2 h1
  · omega)).trans (h.block k hk1 hk2)⟩
theorem seg_add {base:Nat} {w:World} {R:SegD} {s:List UInt8} (h:SegAt base w R) (hn:0 < R.n) (hl:R.txt.length+s.length≤R.n * R.size):SegAt base (w.setCell ⟨R.blk,4,none⟩ (.int .i64 ((R.e:Int)+(s.length:Int)))) (R.add s):=by
 obtain ⟨l1,l2,l3⟩:=h.long hn
 have he:((R.add s).e:Int)=(R.e:Int)+(s.length:Int):=by unfold SegD.add SegD.e; simp only; rw [List.length_append]; omega
 refine ⟨heap_set1 h.cells _ ?_,ownsRow_mod (M:=fun k=>k=R.blk) h.row (mod_set _ _ _ _) (fun k hk e=>h.apart k hk e),h.apart,h.above,h.sz,fun h0=>absurd (show R.n=0 from h0) (by omega),fun _=>?_,h.mult,?_,h.hd⟩
 · rw [← he]; rfl
 · show (R.n - 1) * R.size≤(R.txt++s).length∧(R.txt++s).length≤R.n * R.size∧R.b+(R.n - 1) * R.size≤99999999
   rw [List.length_append]; omega
 · have:=h.syn
   show R.synced≤(R.add s).e
   omega
theorem append_ok {base:Nat} {D:DiskD} {R:SegD} (s:List UInt8) (w:World) (hT:TabB base w) (hW:Whole base w D R) (hbase:base≤w.heap.size) (hq:Quiet D) (h0:s≠[]) (hr:s.length≤R.room) (hf:(s.length:Int)≤D.room) (hwl:D.waits.length≤1048576)
 (he:(R.n=0∨(0 < R.n∧R.txt.length=R.n * R.size))→R.e≤99999999) :
 Calls Tryz.prog 108 #[.pointer (some ⟨R.blk,0,none⟩),.string (S s)] w fun e w'=>e=.returned (.tuple #[.int .i64 (R.e:Int),.int .i64 0])∧Mod (fun k=>D.foot k∨R.foot k) w w' ∧
  ∃ D' R',Whole base w' D' R'∧AppOk D D' R R' s∧R'={ R with n:=R'.n,pv:=R'.pv,txt:=R.txt++s }∧(∀ k,D'.foot k→D.foot k∨w.heap.size≤k)∧∀ k,R'.foot k→R.foot k∨w.heap.size≤k:=by
 have hsz:=S_size
 have htl:=S_toList
 have h0b:s.isEmpty=false:=by cases s with | nil=>exact absurd rfl h0 | cons _ _=>rfl
 have HRM:=Lib.hid (room_any w hW.seg)
 have HDR:=Lib.hid (fun (w2:World) (hb:Below w.heap.size w w2)=>DskW.room_any w2 (hW.dsk.below hb))
 have HFR:=Lib.hid (fun (w2:World) (hb:Below w.heap.size w w2)=>fresh_ok w2 (hT.below hb) (hW.below hb) hq (Nat.le_trans hbase hb.size) he)
 have HC0:=Lib.hid (fun (w2:World) (hb:Below w.heap.size w w2)=>(hW.seg.below hb).cell 0 (.pointer (some ⟨D.blk,0,none⟩)) (by rw [← hW.db]; rfl))
 have HW:=Lib.hid hW
 have HT:=Lib.hid hT
 have HHF:=Lib.hid hf
 have HHR:=Lib.hid hr
 have HAB:Hid (∀ k,R.foot k∨D.foot k→k < w.heap.size):=fun k hk=>by
  rcases hk with h | h
  · exact hW.seg.lt h
  · exact hW.dsk.lt h
 have hRi:¬ R.room < s.length:=by omega
 have hDi:¬ D.room < (s.length:Int):=by omega
 have hsl:s.length≤4096:=by
  have h1:=hW.seg.sz.2
  have h2:R.room≤R.size:=by
   unfold SegD.room
   split
   · rename_i h
     have h3:=(hW.seg.long h.1).1
     have h4:=mul_pred (s:=R.size) h.1
     omega
   · exact Nat.le_refl _
  omega
 clear hW hr hq hT he hf
 generalize hrr:R.room=r at *
 generalize hdr:D.room=dr at *
 go_enter Tryz.func108,Tryz.ntmps108
 go_wp2_with fail
 refine HRM.out.mono ?_
 rintro e w1 ⟨rfl,hd⟩
 have HB1:=Lib.hid (hd.below w.heap.size)
 have c0:=HC0.out w1 HB1.out
 clear hd HRM
 go_wp2_with fail
 refine (HDR.out w1 HB1.out).mono ?_
 rintro e w2 ⟨rfl,hb⟩
 have HB2:=Lib.hid (HB1.out.trans (hb.mono HB1.out.size))
 clear hb HDR HC0 c0
 go_wp2_with fail
 refine (HFR.out w2 HB2.out).mono ?_
 rintro e w3 ⟨rfl,D1,R1,hW1,hF,hM,hfd,hfr⟩
 have hT3:TabB base w3:=(HT.out.below HB2.out).mod hM (fun k hk=>by
  rcases hk with h | h
  · exact HW.out.dsk.base_le h
  · rcases h with h | h
    · rw [h]; exact HW.out.seg.above
    · exact ownBlock_of_own HW.out.seg.row k h)
 have HM3:=Lib.hid ((Mod.of_below (M:=fun k=>D.foot k∨R.foot k) HB2.out).trans hM)
 have HFD:=Lib.hid (fun k (hk:D1.foot k)=>(hfd k hk).imp_right fun h=>Nat.le_trans HB2.out.size h)
 have HFS:=Lib.hid (fun k (hk:R1.foot k)=>(hfr k hk).imp_right fun h=>Nat.le_trans HB2.out.size h)
 have HW1:=Lib.hid hW1
 have HF:=Lib.hid hF
 have HT3:=Lib.hid hT3
 have he1:R1.e=R.e:=by rw [hF.same]; rfl
 have hb1:R1.blk=R.blk:=by rw [hF.same]
 have HE1:=Lib.hid he1
 have HBB1:=Lib.hid hb1
 obtain ⟨l1,l2,l3⟩:=hW1.seg.long hF.pos
 obtain ⟨g,cap,hp,hnc,hc⟩:=hW1.seg.place (R1.n - 1) (by have:=hF.pos; omega)
 have c3:w3.cell? ⟨R1.blk,3,none⟩=some (.slice (some ⟨g,0,none⟩) R1.n cap):=hW1.seg.cell 3 _ (by show some R1.pv=_; rw [hp])
 have c4:w3.cell? ⟨R1.blk,4,none⟩=some (.int .i64 (R1.e:Int)):=hW1.seg.cell 4 _ rfl
 have HC0:=Lib.hid (fun (w2:World) (hb:Below w3.heap.size w3 w2)=>(hW1.seg.below hb).cell 0 (.pointer (some ⟨D1.blk,0,none⟩)) (by rw [← hW1.db]; rfl))
 have HNM:=Lib.hid (fun (w2:World) (hb:Below w3.heap.size w3 w2)=>name_any w2 (hW1.seg.below hb) (hT3.tab.below hb) R1.lastP (by unfold SegD.lastP; omega))
 have hft:R1.txt.length+s.length≤R1.n * R1.size:=by
  have e1:R1.txt=R.txt:=by rw [hF.same]
  have h1:=hF.fit
  have h2:=HHR.out
  rw [e1]; omega
 have HFT:=Lib.hid hft
 have happ:=app_open hW1.seg hW1.dsk hW1.ok hW1.only hF.quiet hF.pos h0 hft (by rw [hF.room,hdr]; exact HHF.out)
 have hwl1:D1.waits.length≤1048576:=by rw [hF.waits]; exact hwl
 have HWR:=Lib.hid (fun (w2:World) (hb:Below w3.heap.size w3 w2)=>DskW.write_any (nameL R1.head R1.lastP) ((R1.e:Int) - (R1.lastP:Int)) (by have:=hW1.seg.e_le; unfold SegD.lastP; omega) s (by omega) hwl1 w2 (hW1.dsk.below hb) (Nat.le_trans hbase (Nat.le_trans HM3.out.size hb.size)))
 rw [(happ D1.wv).1] at HWR
 have HAPP:=Lib.hid happ
 have hix:((R1.n - 1:Nat):Int)=(R1.n:Int) - 1:=by have:=hF.pos; omega
 have hn1:(0:Int) < (R1.n:Int):=by have:=hF.pos; omega
 have hn2:R1.n≤1073741824:=by
  have:=hW1.seg.sz
  have h3:=Nat.le_mul_of_pos_right (R1.n - 1) (by omega:0 < R1.size)
  omega
 have hc':w3.cell? ⟨g,R1.n - 1,none⟩=some (.int .i64 (R1.lastP:Int)):=hc
 have hwrp:IntKind.i64.wrap ((R1.e:Int) - (R1.lastP:Int))=(R1.e:Int) - (R1.lastP:Int):=IntWalk.i64_in _ (by have:=hW1.seg.e_le; unfold SegD.lastP; omega)
 have hel:=hW1.seg.e_le
 obtain ⟨nm,HNMD⟩:∃ nm,Hid (nm=nameL R1.head R1.lastP):=⟨_,rfl⟩
 have hnn:nameL R1.head R1.lastP=nm:=HNMD.out.symm
 rw [hnn] at HNM HWR
 have hlp:R1.lastP≤99999999:=by unfold SegD.lastP; omega
 rw [hb1] at c3 c4 HC0 HNM
 rw [he1] at c4 HWR hwrp hel HAPP
 clear hW1 hF hM hfd hfr he1 hb1 happ HFR hc hp hT3 l1 l2 l3 hwl hwl1 hnn hrr hdr
 generalize hlpg:R1.lastP=lp at *
 go_wp2_with fail
 go_quiet (fail)
 go_wp2_with fail
 refine Grow.wp_region_g 11 [none,none,none,some (.inl (.pointer (some ⟨D1.blk,0,none⟩))),none,none,some (.inl (.string (S nm))),none,none,none,none] Ext (by kernel_rfl) (by kernel_rfl) (by kernel_rfl) Ext.refl (fun _ _ _=>Ext.trans) ?_ ?_
 · intro K hK Y hY v w w' hR h
   simp only [List.mem_cons,List.not_mem_nil,or_false] at hK
   rcases hK with rfl | rfl | rfl | rfl | rfl | rfl | rfl | rfl | rfl | rfl | rfl <;> simp only [reduceCtorEq,Option.some.injEq,Sum.inr.injEq] at hY
 simp only [List.take_succ_cons,List.take_zero,List.drop_succ_cons,List.drop_zero]
 iterate 3
  refine Grow.g_det rfl ?_
  apply Exists.intro
  refine ⟨fun w hw hF=>?_,?_⟩
  · clear hF
    go_simp
    exact ⟨rfl,Ext.refl _⟩
  go_frame
 refine Grow.g_con rfl (fun w2' hw hF=>?_) ?_
 ·
  clear hF
  have c0:=HC0.out w2' ((((Drawn.refl w3).drewN nq).below w3.heap.size).trans (((Below.refl _ _).drew.trans hw).mono (Nat.le_refl _)))
  go_simp
  all_goals exact Ext.refl _
 iterate 2
  go_frame
  refine Grow.g_det rfl ?_
  apply Exists.intro
  refine ⟨fun w hw hF=>?_,?_⟩
  · clear hF
    go_simp
    exact ⟨rfl,Ext.refl _⟩
 go_frame
 refine Grow.g_con rfl (fun w2' hw hF=>?_) ?_
 · clear hF
   go_simp
   exact (HNM.out w2' ((((Drawn.refl w3).drewN nq).below w3.heap.size).trans (((Below.refl _ _).drew.trans hw).mono (Nat.le_refl _)))).mono fun e w3 h=>⟨_,h.1,rfl,h.2⟩
 iterate 4
  go_frame
  refine Grow.g_det rfl ?_
  apply Exists.intro
  refine ⟨fun w hw hF=>?_,?_⟩
  · clear hF
    go_simp
    exact ⟨rfl,Ext.refl _⟩
 go_frame
 refine Grow.g_nil fun w4 hw4 hF=>?_
 clear hF
 have HB4:=Lib.hid ((((Drawn.refl w3).drewN nq).below w3.heap.size).trans (((Below.refl _ _).drew.trans hw4).mono (Nat.le_refl _)))
 clear hw4 HC0 HNM c3 c4 hc'
 go_wp2_with fail
 refine (HWR.out w4 HB4.out).mono ?_
 rintro e w5 ⟨wv,rfl,hd5,hm5,hf5⟩
 rw [HNMD.out] at hd5 hf5
 have hs5:SegAt base w5 R1:=(HW1.out.seg.below HB4.out).mod hm5 (fun k hk hk2=>HW1.out.ap k hk2 hk)
 have HM5:=Lib.hid ((Mod.of_below (M:=D1.foot) HB4.out).trans hm5)
 have hfz5:w5.frozen? ⟨R.blk,4,none⟩=false:=by
  unfold World.frozen?
  rw [← HBB1.out,show w5.heap[(⟨R1.blk,4,none⟩:Addr).block]?=_ from hs5.cells]; rfl
 have c45:w5.cell? ⟨R.blk,4,none⟩=some (.int .i64 (R.e:Int)):=by rw [← HBB1.out,← HE1.out]; exact hs5.cell 4 _ rfl
 have HD5:=Lib.hid hd5
 have HS5:=Lib.hid hs5
 have HF5:=Lib.hid hf5
 have hwr2:IntKind.i64.wrap ((R.e:Int)+(s.length:Int))=(R.e:Int)+(s.length:Int):=IntWalk.i64_in _ (by omega)
 clear hd5 hm5 hf5 hs5 HWR
 go_wp2_with fail
 go_ret2
 have hA:=HAPP.out wv
 have hP1:=HF.out.pos
 have hR1:=HS5.out
 have hadd:=seg_add hR1 hP1 HFT.out
 rw [HBB1.out,HE1.out] at hadd
 have hnr:∀ k,(D1.write (nameL R1.head lp) ((R.e:Int) - (lp:Int)) s wv).foot k→¬ R1.foot k:=fun k hk hk2=>by
  rcases HF5.out k hk with h | h
  · exact HW1.out.ap k h hk2
  · have h1:=HW1.out.seg.lt hk2
    have h2:=HB4.out.size
    omega
 have hm5:Mod (fun k=>D.foot k∨R.foot k) w w5:=mod_over HM3.out HM5.out (fun k hk=>(HFD.out k hk).imp_left .inl)
 have hs1:=HM3.out.size
 have hs2:=HB4.out.size
 refine ⟨rfl,hm5.setCell (.inl (.inr (.inl rfl))) _,_,R1.add s,⟨hadd,HD5.out.mod (mod_set _ _ _ _) (fun k hk e=>hnr k hk (.inl (e.trans HBB1.out.symm))),HW1.out.db.trans hA.2.1.blk.symm,hnr,hA.2.1.ok,hA.2.1.only⟩,?_,?_,fun k hk=>?_,fun k hk=>HFS.out k hk⟩
 · exact AppOk.join hA.2.1 hA.2.2.1 hA.2.2.2 HF.out
 ·
  unfold SegD.add
  have:=HF.out.same
  generalize hn:R1.n=n1 at *
  generalize hp:R1.pv=p1 at *
  rw [this]
 · rcases HF5.out k hk with h | h
   · exact HFD.out k h
   · right; omega
end Go.Proofs.YtnoehodmmkioaaaGreatDoor.SegW
