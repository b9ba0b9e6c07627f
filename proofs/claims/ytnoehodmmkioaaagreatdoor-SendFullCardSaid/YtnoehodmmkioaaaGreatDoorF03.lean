/- seg: Read. And what follows. -/
import Derived.Test.YtnoehodmmkioaaaGreatDoorF02
import Derived.Deep.RegionHeld3
import Derived.Lib.AppendZeros
import Derived.Laws.AppendOwn
import Derived.Test.YtnoehodmmkioaaaGreatDoorF01
import Derived.Maps.Own
import Derived.Sort.KeysCollected
import Derived.Shelf.SlIter.Keys
import Derived.Shelf.SlIter.Sorted
import Derived.Shelf.SlicesE.DeleteFunc
import Derived.Sort.OwnSorted
set_option maxHeartbeats 25600000
set_option maxRecDepth 100000
set_option linter.unusedVariables false
set_option linter.unusedSimpArgs false
namespace Go.Proofs.YtnoehodmmkioaaaGreatDoor.SegW
open Go.RowKit OctMath DskW
def SegOk (D:DiskD) (R:SegD):Prop:=∀ i,i < R.n→D.bytes (nameL R.head (R.b+i * R.size))=(R.txt.drop (i * R.size)).take R.size∧(D.find (nameL R.head (R.b+i * R.size))).isSome=true
def SegD.readB (R:SegD) (p n:Int):Bool:=decide (1≤n) && decide (n≤R.left p)
def SegD.readE (D:DiskD) (R:SegD) (p n:Int):Int:=if D.down then 8 else if n=0∧(R.b:Int)≤p∧p≤(R.e:Int) then 0 else if R.readB p n then 0 else 2
def SegD.readT (D:DiskD) (R:SegD) (p n:Int):List UInt8:=if D.down=false∧R.readB p n=true then (R.txt.drop (p.toNat - R.b)).take n.toNat else []
theorem place_of {b s p:Nat} (hm:b % s=0) (hs:0 < s) (hp:b≤p):∃ i,p / s * s=b+i * s∧b+i * s≤p∧p < b+i * s+s∧i=(p - b) / s:=by
 obtain ⟨q,rfl⟩:∃ q,b=q * s:=⟨b / s,by have:=Nat.div_add_mod b s; rw [hm,Nat.add_zero,Nat.mul_comm] at this; exact this.symm⟩
 obtain ⟨d,rfl⟩:∃ d,p=q * s+d:=⟨p - q * s,by omega⟩
 have h1:(q * s+d) / s=q+d / s:=by rw [Nat.mul_comm,Nat.mul_add_div hs]
 have h2:=Nat.div_add_mod d s
 have h3:=Nat.mod_lt d hs
 rw [Nat.mul_comm] at h2
 refine ⟨d / s,by rw [h1,Nat.add_mul],by omega,by omega,by rw [Nat.add_sub_cancel_left]⟩
theorem read_plain {base:Nat} {w:World} {D:DiskD} {R:SegD} (h:SegAt base w R) (hok:SegOk D R) {p:Nat} {n:Int} (h1:R.b≤p) (h2:p < R.e) (hn:1≤n) (hl:n≤R.left (p:Int)) (hd:D.down=false) :
 D.readE (nameL R.head (p / R.size * R.size)) ((p:Int) - ((p / R.size * R.size:Nat):Int)) n=0∧D.readT (nameL R.head (p / R.size * R.size)) ((p:Int) - ((p / R.size * R.size:Nat):Int)) n=(R.txt.drop (p - R.b)).take n.toNat:=by
 obtain ⟨hs1,hs2⟩:=h.sz
 have hn0:0 < R.n:=by
  rcases Nat.eq_zero_or_pos R.n with h0 | h0
  · obtain ⟨e1,e2⟩:=h.empty h0
    unfold SegD.e at h2
    rw [e2] at h2; simp at h2; omega
  · exact h0
 obtain ⟨l1,l2,l3⟩:=h.long hn0
 obtain ⟨i,e1,e2,e3,e4⟩:=place_of h.mult (by omega:0 < R.size) h1
 unfold SegD.e at h2
 have hin:i < R.n:=by
  rw [e4]
  exact (Nat.div_lt_iff_lt_mul (by omega)).2 (by omega)
 obtain ⟨f1,f2⟩:=hok i hin
 have hle:n≤((min (R.b+i * R.size+R.size) R.e:Nat):Int) - (p:Int):=by
  unfold SegD.left at hl
  rw [if_neg (by unfold SegD.e; omega),Int.toNat_natCast,e1] at hl
  exact hl
 rw [e1]
 have hbar:D.bars [nameL R.head (R.b+i * R.size)]=0:=by
  unfold DiskD.bars
  rw [hd]
  simp [f2]
 have hlen:(D.bytes (nameL R.head (R.b+i * R.size))).length=min R.size (R.txt.length - i * R.size):=by
  rw [f1,List.length_take,List.length_drop]
 have hro:D.readOk (nameL R.head (R.b+i * R.size)) ((p:Int) - ((R.b+i * R.size:Nat):Int)) n=true:=by
  unfold DiskD.readOk
  rw [hlen]
  unfold SegD.e at hle
  simp only [Bool.and_eq_true,decide_eq_true_eq]
  refine ⟨⟨by omega,by omega⟩,by omega⟩
 refine ⟨?_,?_⟩
 · unfold DiskD.readE
   rw [if_pos hbar,if_pos hro]
 ·
  unfold DiskD.readT
  rw [if_pos ⟨hbar,hro⟩,f1,List.drop_take,List.drop_drop,List.take_take]
  have hk:((p:Int) - ((R.b+i * R.size:Nat):Int)).toNat=p - (R.b+i * R.size):=by omega
  rw [hk]
  unfold SegD.e at hle
  congr 1
  · omega
  · congr 1; omega
theorem read_any {base:Nat} {D:DiskD} {R:SegD} (p n:Int) (hp : -9223372036854775808≤p∧p≤9223372036854775807) (hn : -9223372036854775808≤n∧n≤9223372036854775807) (w:World) (ht:Tab w) (h:SegAt base w R) (hD:DiskAt base w D) (hdb:R.db=D.blk) (hok:SegOk D R) :
 Calls Tryz.prog 82 #[.pointer (some ⟨R.blk,0,none⟩),.int .i64 p,.int .i64 n] w fun e w'=>e=.returned (.tuple #[.string (S (R.readT D p n)),.int .i64 (R.readE D p n)])∧Below w.heap.size w w':=by
 have c0:w.cell? ⟨R.blk,0,none⟩=some (.pointer (some ⟨D.blk,0,none⟩)):=h.cell 0 _ (by rw [← hdb]; rfl)
 have c4:w.cell? ⟨R.blk,4,none⟩=some (.int .i64 (R.e:Int)):=h.cell 4 _ rfl
 have CD:=Lib.hid (down_any w hD)
 have CB:=Lib.hid (begin_any w h)
 have CL:=Lib.hid (left_any p hp w h)
 have HE:Hid (R.readE D p n=if D.down then 8 else if n=0∧(R.b:Int)≤p∧p≤(R.e:Int) then 0 else if R.readB p n then 0 else 2):=rfl
 have HT:Hid (R.readT D p n=if D.down=false∧R.readB p n=true then (R.txt.drop (p.toNat - R.b)).take n.toNat else []):=rfl
 have HBB:Hid (R.readB p n=(decide (1≤n) && decide (n≤R.left p))):=rfl
 by_cases hdn:D.down=true
 ·
  rw [hdn] at CD
  have he:R.readE D p n=8:=by rw [HE.out,if_pos hdn]
  have ht:R.readT D p n=[]:=by rw [HT.out,if_neg (by rw [hdn]; simp)]
  rw [he,ht]
  clear he ht HE HT HBB h hD hok hdb hdn CL CB
  go_enter Tryz.func82,Tryz.ntmps82
  go_wp2_with fail
  refine CD.out.mono ?_
  rintro e w' ⟨rfl,rfl⟩
  go_wp2_with fail
  go_ret2
  exact ⟨rfl,Below.refl _ _⟩
 ·
  rw [Bool.not_eq_true] at hdn
  by_cases hz:n=0∧(R.b:Int)≤p∧p≤(R.e:Int)
  ·
   have he:R.readE D p n=0:=by rw [HE.out,if_neg (by rw [hdn]; simp),if_pos hz]
   have htx:R.readT D p n=[]:=by rw [HT.out,if_neg (by rw [HBB.out,hz.1]; simp)]
   rw [he,htx]
   obtain ⟨rfl,hz1,hz2⟩:=hz
   rw [hdn] at CD
   clear he htx HE HT HBB h hD hok hdb hdn CL
   go_enter Tryz.func82,Tryz.ntmps82
   go_wp2_with fail
   refine CD.out.mono ?_
   rintro e w' ⟨rfl,rfl⟩
   go_wp2_with fail
   refine CB.out.mono ?_
   rintro e w' ⟨rfl,rfl⟩
   go_wp2_with fail
   go_ret2
   exact ⟨rfl,Below.refl _ _⟩
  ·
   rw [if_neg (by rw [hdn]; simp),if_neg hz] at HE
   rw [hdn] at CD
   by_cases hn1:n < 1
   ·
    have hb:R.readB p n=false:=by rw [HBB.out,decide_eq_false (by omega)]; rfl
    have he:R.readE D p n=2:=by rw [HE.out,hb]; rfl
    have htx:R.readT D p n=[]:=by rw [HT.out,hb]; simp
    rw [he,htx]
    clear he htx HE HT HBB h hD hok hdb CL hb
    by_cases hn0:n=0
    ·
     subst hn0
     by_cases hpb:p < (R.b:Int)
     ·
      clear hz
      go_enter Tryz.func82,Tryz.ntmps82
      go_wp2_with fail
      refine CD.out.mono ?_
      rintro e w' ⟨rfl,rfl⟩
      go_wp2_with fail
      refine CB.out.mono ?_
      rintro e w' ⟨rfl,rfl⟩
      go_wp2_with fail
      go_ret2
      exact ⟨rfl,Below.refl _ _⟩
     ·
      have hpe:(R.e:Int) < p:=by omega
      clear hz
      go_enter Tryz.func82,Tryz.ntmps82
      go_wp2_with fail
      refine CD.out.mono ?_
      rintro e w' ⟨rfl,rfl⟩
      go_wp2_with fail
      refine CB.out.mono ?_
      rintro e w' ⟨rfl,rfl⟩
      go_wp2_with fail
      go_ret2
      exact ⟨rfl,Below.refl _ _⟩
    ·
     clear hz
     go_enter Tryz.func82,Tryz.ntmps82
     go_wp2_with fail
     refine CD.out.mono ?_
     rintro e w' ⟨rfl,rfl⟩
     go_wp2_with fail
     go_ret2
     exact ⟨rfl,Below.refl _ _⟩
   ·
    have hn0:¬ n=0:=by omega
    by_cases hll:R.left p < n
    ·
     have hb:R.readB p n=false:=by rw [HBB.out,decide_eq_false (by omega:¬ n≤R.left p),Bool.and_false]
     have he:R.readE D p n=2:=by rw [HE.out,hb]; rfl
     have htx:R.readT D p n=[]:=by rw [HT.out,hb]; simp
     rw [he,htx]
     clear he htx HE HT HBB h hD hok hdb hb hz CB
     generalize R.left p=lf at *
     go_enter Tryz.func82,Tryz.ntmps82
     go_wp2_with fail
     refine CD.out.mono ?_
     rintro e w' ⟨rfl,rfl⟩
     go_wp2_with fail
     refine CL.out.mono ?_
     rintro e w' ⟨rfl,hdr⟩
     have HDR:=Lib.hid hdr
     clear hdr
     go_wp2_with fail
     go_ret2
     exact ⟨rfl,HDR.out.below _⟩
    ·
     have hb:R.readB p n=true:=by rw [HBB.out,decide_eq_true (by omega:1≤n),decide_eq_true (by omega:n≤R.left p)]; rfl
     have he:R.readE D p n=0:=by rw [HE.out,hb]; rfl
     have hpp:(R.b:Int)≤p∧p < (R.e:Int):=by
      have hq:¬ (p < (R.b:Int)∨(R.e:Int)≤p):=by
       intro hq
       have:R.left p=0:=if_pos hq
       omega
      omega
     obtain ⟨u,rfl⟩:∃ u:Nat,p=(u:Int):=⟨p.toNat,by omega⟩
     have htx:R.readT D (u:Int) n=(R.txt.drop (u - R.b)).take n.toNat:=by rw [HT.out,if_pos ⟨hdn,hb⟩,Int.toNat_natCast]
     have hel:=h.e_le
     obtain ⟨hr1,hr2⟩:=read_plain h hok (by omega:R.b≤u) (by omega) (by omega:1≤n) (by omega) hdn
     have hq:u / R.size * R.size≤u:=Nat.div_mul_le_self _ _
     have hlm:=(show ∃ i,u / R.size * R.size=R.b+i * R.size∧i < R.n from by
      have hs:=h.sz
      obtain ⟨i,e1,e2,e3,e4⟩:=place_of h.mult (by omega:0 < R.size) (by omega:R.b≤u)
      refine ⟨i,e1,?_⟩
      have hn0:0 < R.n:=by
       rcases Nat.eq_zero_or_pos R.n with h0 | h0
       · obtain ⟨e5,e6⟩:=h.empty h0
         have:R.e=0:=by unfold SegD.e; rw [e5,e6]; rfl
         omega
       · exact h0
      obtain ⟨l1,l2,l3⟩:=h.long hn0
      rw [e4]
      refine (Nat.div_lt_iff_lt_mul (by omega)).2 ?_
      have:R.e=R.b+R.txt.length:=rfl
      omega)
     have hnm:u / R.size * R.size≤99999999:=by
      obtain ⟨i,e1,e2⟩:=hlm
      obtain ⟨l1,l2,l3⟩:=h.long (by omega)
      have:i * R.size≤(R.n - 1) * R.size:=Nat.mul_le_mul_right _ (by omega)
      omega
     have HOF:=Lib.hid (fun (w2:World) (hb:Below w.heap.size w w2)=>of_any u (by omega) w2 (h.below hb))
     have HNM:=Lib.hid (fun (w2:World) (hb:Below w.heap.size w w2)=>name_any w2 (h.below hb) (ht.below hb) (u / R.size * R.size) hnm)
     have HRD:=Lib.hid (fun (w2:World) (hb:Below w.heap.size w w2)=>DskW.read_any (nameL R.head (u / R.size * R.size)) ((u:Int) - ((u / R.size * R.size:Nat):Int)) n (by omega) hn w2 (hD.below hb))
     rw [hr1,hr2] at HRD
     rw [he,htx]
     have HCC:Hid (∀ w2:World,Below w.heap.size w w2→w2.cell? ⟨R.blk,0,none⟩=some (.pointer (some ⟨D.blk,0,none⟩))):=fun w2 hb=>by rw [hb.cell (cell_lt c0)]; exact c0
     clear he htx HE HT HBB h hD hok hdb hb hz CB hr1 hr2 hlm
     have hwr:IntKind.i64.wrap ((u:Int) - ((u / R.size * R.size:Nat):Int))=(u:Int) - ((u / R.size * R.size:Nat):Int):=IntWalk.i64_in _ (by omega)
     generalize (R.txt.drop (u - R.b)).take n.toNat=tx at *
     generalize nameL R.head (u / R.size * R.size)=nm at *
     generalize u / R.size * R.size=q at *
     generalize R.left (u:Int)=lf at *
     go_enter Tryz.func82,Tryz.ntmps82
     go_wp2_with fail
     refine CD.out.mono ?_
     rintro e wz ⟨rfl,rfl⟩
     go_wp2_with fail
     refine CL.out.mono ?_
     rintro e w' ⟨rfl,hdr⟩
     have HB1:=Lib.hid (hdr.below wz.heap.size)
     clear hdr CL CD
     go_wp2_with fail
     refine (HOF.out _ HB1.out).mono ?_
     rintro e w2 ⟨rfl,hdr⟩
     have HB2:=Lib.hid (HB1.out.trans (hdr.below wz.heap.size))
     clear hdr HOF c0 c4
     go_wp2_with fail
     refine Grow.wp_region_g 16 [none,none,none,some (.inl (.pointer (some ⟨D.blk,0,none⟩))),none,none,some (.inl (.string (S nm))),none,none,none,none,some (.inl (.tuple #[.string (S tx),.int .i64 0])),none,none,none,none] Ext (by kernel_rfl) (by kernel_rfl) (by kernel_rfl) Ext.refl (fun _ _ _=>Ext.trans) ?_ ?_
     · intro K hK Y hY v w w' hR h
       simp only [List.mem_cons,List.not_mem_nil,or_false] at hK
       rcases hK with rfl | rfl | rfl | rfl | rfl | rfl | rfl | rfl | rfl | rfl | rfl | rfl | rfl | rfl | rfl | rfl <;> simp only [reduceCtorEq,Option.some.injEq,Sum.inr.injEq] at hY
     simp only [List.take_succ_cons,List.take_zero,List.drop_succ_cons,List.drop_zero]
     iterate 3
      refine Grow.g_det rfl ?_
      apply Exists.intro
      refine ⟨fun w hw hF=>?_,?_⟩
      · clear hF
        go_simp
        exact ⟨rfl,Ext.refl _⟩
      go_frame
     refine Grow.g_con rfl (fun w2' hw hF=>?_) ?_
     · clear hF
       have c0:=HCC.out w2' (HB2.out.trans (((Below.refl w2.heap.size w2).drew.trans hw).mono HB2.out.size))
       go_simp
       all_goals exact Ext.refl _
     iterate 2
      go_frame
      refine Grow.g_det rfl ?_
      apply Exists.intro
      refine ⟨fun w hw hF=>?_,?_⟩
      · clear hF
        go_simp
        exact ⟨rfl,Ext.refl _⟩
     go_frame
     refine Grow.g_con rfl (fun w2' hw hF=>?_) ?_
     · clear hF
       go_simp
       exact (HNM.out w2' (HB2.out.trans (((Below.refl w2.heap.size w2).drew.trans hw).mono HB2.out.size))).mono fun e w3 h=>⟨_,h.1,rfl,h.2⟩
     iterate 4
      go_frame
      refine Grow.g_det rfl ?_
      apply Exists.intro
      refine ⟨fun w hw hF=>?_,?_⟩
      · clear hF
        go_simp
        exact ⟨rfl,Ext.refl _⟩
     go_frame
     refine Grow.g_con rfl (fun w2' hw hF=>?_) ?_
     · clear hF
       go_simp
       exact (HRD.out w2' (HB2.out.trans (((Below.refl w2.heap.size w2).drew.trans hw).mono HB2.out.size))).mono fun e w3 h=>⟨_,h.1,rfl,h.2⟩
     iterate 4
      go_frame
      refine Grow.g_det rfl ?_
      apply Exists.intro
      refine ⟨fun w hw hF=>?_,?_⟩
      · clear hF
        go_simp
        exact ⟨rfl,Ext.refl _⟩
     go_frame
     refine Grow.g_nil fun w3 hw3 hF=>?_
     clear hF
     refine wpList_nil ?_
     have HB:=Lib.hid (HB2.out.trans (((Below.refl w2.heap.size w2).drew.trans hw3).mono HB2.out.size))
     clear hw3
     go_wp2_with fail
     go_ret2
     exact ⟨rfl,HB.out⟩
def SegD.open_ (R:SegD):Prop:=0 < R.n∧R.txt.length < R.n * R.size
theorem fresh_no {base:Nat} {R:SegD} (w:World) (h:SegAt base w R) (ho:R.open_) :
 Calls Tryz.prog 170 #[.pointer (some ⟨R.blk,0,none⟩)] w fun e w'=>e=.returned (.int .i64 0)∧Drawn w w':=by
 obtain ⟨hn0,hlt⟩:=ho
 obtain ⟨a,cp,hv⟩:=h.pv_nil
 have c2:w.cell? ⟨R.blk,2,none⟩=some (.int .i64 (R.size:Int)):=h.cell 2 _ rfl
 have c3:w.cell? ⟨R.blk,3,none⟩=some (.slice a R.n cp):=h.cell 3 _ (by show some R.pv=_; rw [hv])
 have c4:w.cell? ⟨R.blk,4,none⟩=some (.int .i64 (R.e:Int)):=h.cell 4 _ rfl
 obtain ⟨hs1,hs2⟩:=h.sz
 obtain ⟨l1,l2,l3⟩:=h.long hn0
 obtain ⟨g,cap,hp,hnc,hc⟩:=h.place (R.n - 1) (by omega)
 rw [hv] at hp
 injection hp with e1 e2 e3
 subst e1
 have hmp:=mul_pred (s:=R.size) hn0
 have hix:((R.n - 1:Nat):Int)=(R.n:Int) - 1:=by omega
 have hcap:R.n≤1073741824:=by
  have:=Nat.le_mul_of_pos_right R.n (by omega:0 < R.size)
  omega
 have hrm:R.room=R.n * R.size - R.txt.length:=by unfold SegD.room; rw [if_pos ⟨hn0,hlt⟩]
 have hee:R.e=R.b+R.txt.length:=rfl
 have HRM:=Lib.hid (fun (k:Nat)=>room_any (w.drewN k) (h.below (((Drawn.refl w).drewN k).below _)))
 have hn0i:(0:Int) < (R.n:Int):=by omega
 have key:(R.room:Int) < (R.size:Int)∨(R.room=R.size∧R.e=R.b+(R.n - 1) * R.size):=by omega
 clear h hv e3 hrm hmp l1 l2 hlt hee
 generalize R.room=r at *
 generalize R.e=ee at *
 generalize R.size=s at *
 generalize R.b+(R.n - 1) * s=pl at *
 generalize R.n=n at *
 rcases key with h1 | ⟨h1,h2⟩
 ·
  go_enter Tryz.func170,Tryz.ntmps170
  go_wp2_with fail
  go_quiet (first | (go_at_call 48; exact quiet_drawn (HRM.out _)))
  go_wp2_with fail
  go_ret
  exact ⟨rfl,⟨_,rfl⟩⟩
 ·
  subst h1 h2
  go_enter Tryz.func170,Tryz.ntmps170
  go_wp2_with fail
  go_quiet (first | (go_at_call 48; exact quiet_drawn (HRM.out _)))
  go_wp2_with fail
  go_ret
  exact ⟨rfl,⟨_,rfl⟩⟩
theorem step_append_run {P:Program} (w:World) {ops:Array Oper} {o:Oper} {a:Act} {K:Act→World→Prop} {Q:Exit→Act→World→Prop} {E:Prop} (hgd:o.guard=none) (s x:Operand) (t tn:TypeId)
 (ho:o.op=.call { callee:=.builtin .append,args:=#[s,x],argTypes:=#[t,tn] }) (vs vx:Value) (hs:a.eval s=vs) (hx:a.eval x=vx)
 (v':Value) (w':World) (hr:(Builtin.append_ #[t,tn] o.type #[vs,vx]).run P w=.ok v' w') (h:K (a.put o.dst v') w'):if Region.wanted o (yielded ops a.tmps)=true then Oper.wp P o a w K Q else E:=by
 have hw:Region.wanted o (yielded ops a.tmps)=true:=by simp [Region.wanted,hgd]
 rw [if_pos hw]
 exact Lib.wp_append_run w s x t tn ho vs vx hs hx v' w' hr h
def SegD.more (R:SegD) (pv:Value):SegD:={ R with n:=R.n+1,pv:=pv }
theorem append_place {base:Nat} {w:World} {R:SegD} (h:SegAt base w R) (hfull:R.n=0∨(0 < R.n∧R.txt.length=R.n * R.size)) (he:R.e≤99999999) (hbase:base≤w.heap.size) :
 ∃ v' w8,(Builtin.append_ #[49,49] 49 #[R.pv,.slice (some ⟨w.heap.size,0,none⟩) 1 1]).run Tryz.prog (w.alloc (.cells #[.int .i64 (R.e:Int)] 3))=.ok v' w8 ∧
  SegAt base (w8.setCell ⟨R.blk,3,none⟩ v') (R.more v')∧Mod R.foot w (w8.setCell ⟨R.blk,3,none⟩ v') ∧
  (∃ a cp,v'=.slice a (R.n+1) cp)∧w8.cell? ⟨R.blk,3,none⟩=some R.pv∧w8.cell? ⟨R.blk,4,none⟩=some (.int .i64 (R.e:Int))∧w8.frozen? ⟨R.blk,3,none⟩=false∧∀ k,v'.ownBlock=some k→R.foot k∨w.heap.size≤k:=by
 have hb7:Below w.heap.size w (w.alloc (.cells #[.int .i64 (R.e:Int)] 3)):=(Below.refl _ _).alloc (Nat.le_refl _) _
 have hd7:=h.below hb7
 obtain ⟨i0,hi0,hz0,hz1,hz2⟩:∃ i,Tryz.prog.info? 3=some i∧i.zero=some (.int .i64 0)∧i.size=1∧i.bytes=8:=by
  have:=(show (Tryz.prog.info? 3).map (fun i=>(i.zero,i.size,i.bytes))=some (some (.int .i64 0),1,8) by kernel_rfl)
  cases hh:Tryz.prog.info? 3 with
  | none=>rw [hh] at this; cases this
  | some i=>rw [hh] at this; have h2:=Option.some.inj this; exact ⟨i,rfl,congrArg (·.1) h2,congrArg (·.2.1) h2,congrArg (·.2.2) h2⟩
 have hcap:R.n≤1073741824:=by
  rcases hfull with h0 | ⟨h0,h1⟩
  · omega
  · have:=Nat.le_mul_of_pos_right R.n (by have:=h.sz; omega:0 < R.size)
    unfold SegD.e at he
    omega
 obtain ⟨v',w8,hr,hrow,hgb,_,hob⟩:=run_append_own_at (P:=Tryz.prog) _ base 49 49 3 i0 (.int .i64 0) 1 8 Tryz.underlying49 hi0 hz0 hz1 hz2 rfl (by omega) _ _ _ hd7.row
  ⟨w.heap.size,0,none⟩ 1 1 [.int .i64 (R.e:Int)] rfl (fun j u hu=>by
   have hadd:(⟨w.heap.size,0,none⟩:Addr).add j=⟨w.heap.size,j,none⟩:=by unfold Addr.add; split <;> simp_all
   rw [hadd,World.cell?_alloc_new]
   match j,hu with
   | 0,hu=>exact hu
   | j+1,hu=>cases hu) (fun u hu=>by
   rw [List.mem_singleton] at hu; subst hu; rfl) (by unfold maxLen; omega) (by omega) (Nat.le_trans hbase hb7.size)
 have hsz7:(w.alloc (.cells #[.int .i64 (R.e:Int)] 3)).heap.size=w.heap.size+1:=World.size_alloc _ _
 have hpl:R.places++[R.e]=(R.more v').places:=by
  unfold SegD.places SegD.more
  simp only
  rw [List.range_succ,List.map_append]
  congr 1
  unfold SegD.e
  rcases hfull with h0 | ⟨h0,h1⟩
  · obtain ⟨e1,e2⟩:=h.empty h0
    rw [h0,e1,e2]; simp
  · rw [h1]; rfl
 have hhead8:w8.heap[R.blk]?=some (.cells R.cells 116 (0,0)):=(hgb.block _ (hd7.lt (.inl rfl)) (fun e=>hd7.apart _ e.symm rfl)).trans hd7.cells
 have hown:∀ k,v'.ownBlock=some k→k≠R.blk:=fun k hk=>by
  rcases hob with e | e
  · rw [e] at hk; exact h.apart k hk
  · rw [e] at hk; cases hk
    have:=hd7.lt (.inl rfl); omega
 have hm9:Mod (fun k=>k=R.blk) w8 (w8.setCell ⟨R.blk,3,none⟩ v'):=mod_set _ _ _ _
 refine ⟨v',w8,hr,?_,?_,own_slice hrow,?_,?_,?_,fun k hk=>?_⟩
 ·
  have hset:∀ k,k≠R.blk→(w8.setCell ⟨R.blk,3,none⟩ v').heap[k]?=w8.heap[k]?:=fun k hk=>Below.heap_setCell _ _ _ _ (fun e=>hk e)
  have hrow':(w8.setCell ⟨R.blk,3,none⟩ v').ownsRow base 3 1 v' (R.more v').n ((R.more v').places.map fun (p:Nat)=>Value.int .i64 (p:Int)):=by
   rw [← hpl,List.map_append]
   refine ownsRow_mod (M:=fun k=>k=R.blk) hrow hm9 (fun k hk=>hown k hk)
  refine ⟨heap_set1 hhead8 _ rfl,hrow',hown,h.above,h.sz,fun h0=>absurd (show R.n+1=0 from h0) (by omega),fun _=>?_,h.mult,h.syn,h.hd⟩
  show (R.n+1 - 1) * R.size≤R.txt.length∧R.txt.length≤(R.n+1) * R.size∧R.b+(R.n+1 - 1) * R.size≤99999999
  rw [Nat.add_sub_cancel,Nat.add_mul]
  unfold SegD.e at he
  rcases hfull with h0 | ⟨h0,h1⟩
  · obtain ⟨e1,e2⟩:=h.empty h0
    rw [h0,e1,e2]; simp
  · omega
 · have h1:Mod R.foot w w8:=(Mod.of_below hb7).trans ⟨hgb.os,hgb.tape,hgb.output,hgb.size,fun k hk hnf=>hgb.block k hk (fun e=>hnf (.inr e.symm))⟩
   exact h1.setCell (.inl (.inl rfl)) _
 · unfold World.cell?; rw [show w8.heap[(⟨R.blk,3,none⟩:Addr).block]?=_ from hhead8]; rfl
 · unfold World.cell?; rw [show w8.heap[(⟨R.blk,4,none⟩:Addr).block]?=_ from hhead8]; rfl
 · unfold World.frozen?; rw [show w8.heap[(⟨R.blk,3,none⟩:Addr).block]?=_ from hhead8]; rfl
 · rcases hob with e | e
   · exact .inl (.inr (e ▸ hk))
   · rw [e] at hk; cases hk; right; omega
theorem create_foot {D:DiskD} {n:List UInt8} {b k:Nat} (h:(D.create n b).foot k):D.foot k∨k=b:=by
 obtain ⟨L,Dn,hb⟩:=burn_eq D
 unfold DiskD.create at h
 split at h
 · exact .inl h
 ·
  split at h
  · rw [hb] at h; exact .inl h
  ·
   rw [hb] at h
   rcases h with h | h | ⟨p,hp,h⟩ | h
   · exact .inl (.inl h)
   · exact .inl (.inr (.inl h))
   · rcases List.mem_append.1 hp with hp | hp
     · exact .inl (.inr (.inr (.inl ⟨p,hp,h⟩)))
     · rw [List.mem_singleton] at hp; subst hp; exact .inr h
   · exact .inl (.inr (.inr (.inr h)))
def SegD.freshE (R:SegD) (D:DiskD):Int:=if 99999999 < R.e then 2 else D.createE (nameL R.head R.e)
theorem fresh_new {base:Nat} {D:DiskD} {R:SegD} (w:World) (ht:Tab w) (h:SegAt base w R) (hD:DiskAt base w D) (hdb:R.db=D.blk) (hap:∀ k,D.foot k→¬ R.foot k) (ho:¬ R.open_) (hbase:base≤w.heap.size) :
 Calls Tryz.prog 170 #[.pointer (some ⟨R.blk,0,none⟩)] w fun e w'=>e=.returned (.int .i64 (R.freshE D)) ∧
  (R.freshE D≠0→SegAt base w' R∧((99999999 < R.e∧DiskAt base w' D)∨(¬ 99999999 < R.e∧∃ bk,DiskAt base w' (D.create (nameL R.head R.e) bk)))∧Mod D.foot w w') ∧
  (R.freshE D=0→∃ bk pv,w.heap.size≤bk∧DiskAt base w' (D.create (nameL R.head R.e) bk)∧SegAt base w' (R.more pv)∧Mod (fun k=>D.foot k∨R.foot k) w w'∧(∀ k,pv.ownBlock=some k→R.foot k∨w.heap.size≤k)∧∀ k,(D.create (nameL R.head R.e) bk).foot k→¬ (R.more pv).foot k):=by
 obtain ⟨a,cp,hv⟩:=h.pv_nil
 have c1:w.cell? ⟨R.blk,1,none⟩=some (.string (S R.head)):=h.cell 1 _ rfl
 have c2:w.cell? ⟨R.blk,2,none⟩=some (.int .i64 (R.size:Int)):=h.cell 2 _ rfl
 have c3:w.cell? ⟨R.blk,3,none⟩=some (.slice a R.n cp):=h.cell 3 _ (by show some R.pv=_; rw [hv])
 have c4:w.cell? ⟨R.blk,4,none⟩=some (.int .i64 (R.e:Int)):=h.cell 4 _ rfl
 obtain ⟨hs1,hs2⟩:=h.sz
 have hel:=h.e_le
 have hrm:R.room=R.size:=by unfold SegD.room; exact if_neg ho
 have HRM:=Lib.hid (fun (k:Nat)=>room_any (w.drewN k) (h.below (((Drawn.refl w).drewN k).below _)))
 rw [hrm] at HRM
 have HC1:Hid (∀ w2:World,Below w.heap.size w w2→w2.cell? ⟨R.blk,1,none⟩=some (.string (S R.head))):=fun w2 hb=>by rw [hb.cell (cell_lt c1)]; exact c1
 have HC4:Hid (∀ w2:World,Below w.heap.size w w2→w2.cell? ⟨R.blk,4,none⟩=some (.int .i64 (R.e:Int))):=fun w2 hb=>by rw [hb.cell (cell_lt c4)]; exact c4
 obtain ⟨nm,HNMD⟩:∃ nm,Hid (nm=nameR R.head (R.e:Int)):=⟨_,rfl⟩
 obtain ⟨ok,HOK⟩:∃ ok,Hid (ok=decide (0≤(R.e:Int)∧(R.e:Int)≤99999999)):=⟨_,rfl⟩
 have HNM:Hid (∀ w2:World,Below w.heap.size w w2→Calls Tryz.prog 195 #[.string (S R.head),.int .i64 (R.e:Int)] w2 fun e w'=>e=.returned (.tuple #[.string (S nm),.bool ok])∧Below w2.heap.size w2 w'):=fun w2 hb=>by
  rw [HNMD.out,HOK.out]
  exact Name_any R.head (R.e:Int) w2 (ht.below hb) (by omega) (by have:=h.hd; omega)
 have HH:=Lib.hid h
 have HDD:=Lib.hid hD
 have hfull:R.n=0∨(0 < R.n∧R.txt.length=R.n * R.size):=by
  rcases Nat.eq_zero_or_pos R.n with h0 | h0
  · exact .inl h0
  ·
   right
   refine ⟨h0,?_⟩
   have:=(h.long h0).2.1
   have hno:¬ (R.txt.length < R.n * R.size):=fun hh=>ho ⟨h0,hh⟩
   omega
 have HFU:=Lib.hid hfull
 have hlast:R.n=0∨∃ g cap,R.pv=.slice (some ⟨g,0,Option.none⟩) R.n cap∧R.n≤cap∧w.cell? ⟨g,R.n - 1,Option.none⟩=some (.int .i64 ((R.b+(R.n - 1) * R.size:Nat):Int))∧0 < R.n:=by
  rcases hfull with h0 | ⟨h0,_⟩
  · exact .inl h0
  · obtain ⟨g,cap,r1,r2,r3⟩:=h.place (R.n - 1) (by omega)
    exact .inr ⟨g,cap,r1,r2,r3,h0⟩
 have hcap:R.n≤1073741824:=by
  rcases hfull with h0 | ⟨h0,h1⟩
  · omega
  · have:=Nat.le_mul_of_pos_right R.n (by omega:0 < R.size)
    have:=h.e_le
    unfold SegD.e at this
    omega
 have hne:R.n=0∨¬ (R.e:Int)=((R.b+(R.n - 1) * R.size:Nat):Int):=by
  rcases hfull with h0 | ⟨h0,h1⟩
  · exact .inl h0
  · right
    have:=mul_pred (s:=R.size) h0
    unfold SegD.e
    omega
 clear h hD c1 hrm hfull ht
 rcases hlast with h0 | ⟨g,cap,hp,hnc,hc,hnpos⟩
 ·
  rw [h0] at c3
  clear hne
  go_enter Tryz.func170,Tryz.ntmps170
  go_wp2_with fail
  go_quiet (first | (go_at_call 48; exact quiet_drawn (HRM.out _)))
  go_wp2_with fail
  refine Grow.wp_region_g 14 [none,none,none,some (.inl (.string (S R.head))),none,none,none,some (.inl (.int .i64 (R.e:Int))),some (.inl (.tuple #[.string (S nm),.bool ok])),none,none,none,none,none] Ext (by kernel_rfl) (by kernel_rfl) (by kernel_rfl) Ext.refl (fun _ _ _=>Ext.trans) ?_ ?_
  · intro K hK Y hY v w w' hR h
    simp only [List.mem_cons,List.not_mem_nil,or_false] at hK
    rcases hK with rfl | rfl | rfl | rfl | rfl | rfl | rfl | rfl | rfl | rfl | rfl | rfl | rfl | rfl <;> simp only [reduceCtorEq,Option.some.injEq,Sum.inr.injEq] at hY
  simp only [List.take_succ_cons,List.take_zero,List.drop_succ_cons,List.drop_zero]
  iterate 3
   refine Grow.g_det rfl ?_
   apply Exists.intro
   refine ⟨fun w hw hF=>?_,?_⟩
   · clear hF
     go_simp
     exact ⟨rfl,Ext.refl _⟩
   go_frame
  refine Grow.g_con rfl (fun w2' hw hF=>?_) ?_
  · clear hF
    have c1:=HC1.out w2' ((((Drawn.refl w).drewN nq).below w.heap.size).trans (((Below.refl _ _).drew.trans hw).mono (Nat.le_refl _)))
    go_simp
    all_goals exact Ext.refl _
  iterate 3
   go_frame
   refine Grow.g_det rfl ?_
   apply Exists.intro
   refine ⟨fun w hw hF=>?_,?_⟩
   · clear hF
     go_simp
     exact ⟨rfl,Ext.refl _⟩
  go_frame
  refine Grow.g_con rfl (fun w2' hw hF=>?_) ?_
  · clear hF
    have c4:=HC4.out w2' ((((Drawn.refl w).drewN nq).below w.heap.size).trans (((Below.refl _ _).drew.trans hw).mono (Nat.le_refl _)))
    go_simp
    all_goals exact Ext.refl _
  go_frame
  refine Grow.g_con rfl (fun w2' hw hF=>?_) ?_
  · clear hF
    go_simp
    exact (HNM.out w2' ((((Drawn.refl w).drewN nq).below w.heap.size).trans (((Below.refl _ _).drew.trans hw).mono (Nat.le_refl _)))).mono fun e w3 h=>⟨_,h.1,rfl,h.2⟩
  iterate 5
   go_frame
   refine Grow.g_det rfl ?_
   apply Exists.intro
   refine ⟨fun w hw hF=>?_,?_⟩
   · clear hF
     go_simp
     exact ⟨rfl,Ext.refl _⟩
  go_frame
  refine Grow.g_nil fun w3 hw3 hF=>?_
  clear hF
  refine wpList_nil ?_
  have HB:=Lib.hid ((((Drawn.refl w).drewN nq).below w.heap.size).trans (((Below.refl _ _).drew.trans hw3).mono (Nat.le_refl _)))
  clear hw3
  by_cases h99:99999999 < R.e
  ·
   have hok:ok=false:=by rw [HOK.out]; exact decide_eq_false (by omega)
   subst hok
   have HFE:Hid (R.freshE D=2):=if_pos h99
   go_wp2_with fail
   go_ret
   rw [HFE.out]
   exact ⟨rfl,fun _=>⟨HH.out.below HB.out,.inl ⟨h99,HDD.out.below HB.out⟩,Mod.of_below HB.out⟩,fun h=>absurd h (by decide)⟩
  ·
   have hok:ok=true:=by rw [HOK.out]; exact decide_eq_true (by omega)
   subst hok
   have hnm:nm=nameL R.head R.e:=by rw [HNMD.out]; unfold nameR; rw [if_pos (by omega)]; rfl
   subst hnm
   have HFE:Hid (R.freshE D=D.createE (nameL R.head R.e)):=if_neg h99
   have hd3:=HDD.out.below HB.out
   have hr3:=HH.out.below HB.out
   have c0:w3.cell? ⟨R.blk,0,none⟩=some (.pointer (some ⟨D.blk,0,none⟩)):=hr3.cell 0 _ (by rw [← hdb]; rfl)
   have HCR:=Lib.hid (create_any (nameL R.head R.e) w3 hd3 (Nat.le_trans hbase HB.out.size))
   have HD3:=Lib.hid hd3
   have HR3:=Lib.hid hr3
   clear hd3 hr3
   go_wp2_with fail
   refine HCR.out.mono ?_
   rintro e w4 ⟨bk,hbk,rfl,hd4,hm4⟩
   have HBK:=Lib.hid hbk
   have HD4:=Lib.hid hd4
   have HR4:=Lib.hid (HR3.out.mod hm4 (fun k hk hk2=>hap k hk2 hk))
   have HM4:=Lib.hid ((Mod.of_below (M:=D.foot) HB.out).trans hm4)
   clear hd4 hm4 HCR HD3 HR3 c0 hbk
   by_cases hce:D.createE (nameL R.head R.e)=0
   ·
    have HFZ:Hid (R.freshE D=0):=HFE.out.trans hce
    rw [hce]
    have hr5:SegAt base w4.drew R:=HR4.out.below (Below.refl _ _).drew
    have hs5:w4.drew.heap.size=w4.heap.size:=rfl
    obtain ⟨a5,cp5,hv5⟩:=hr5.pv_nil
    try clear h0
    obtain ⟨v',w8,hr8,hr9,hm9,⟨a9,cp9,rfl⟩,hu3,hu4,hfr8,hft⟩:=append_place hr5 HFU.out (by omega) (Nat.le_trans hbase HM4.out.size)
    have HR9:=Lib.hid hr9
    have HM9:=Lib.hid hm9
    have HFT:=Lib.hid hft
    have HAP:Hid ((Builtin.append_ #[49,49] 49 #[.slice a5 R.n cp5,.slice (some ⟨w4.heap.size,0,none⟩) 1 1]).run Tryz.prog (w4.alloc (.cells #[.int .i64 (R.e:Int)] 3)).drew=.ok (.slice a9 (R.n+1) cp9) w8):=by rw [← hv5]; exact hr8
    have c4b:w4.drew.cell? ⟨R.blk,4,none⟩=some (.int .i64 (R.e:Int)):=hr5.cell 4 _ rfl
    have c3b:w4.drew.cell? ⟨R.blk,3,none⟩=some (.slice a5 R.n cp5):=hr5.cell 3 _ (by show some R.pv=_; rw [hv5])
    have hb5:Below w4.drew.heap.size w4.drew (w4.drew.alloc (.cells #[.int .i64 (R.e:Int)] 3)):=(Below.refl _ _).alloc (Nat.le_refl _) _
    have c3c:(w4.alloc (.cells #[.int .i64 (R.e:Int)] 3)).drew.cell? ⟨R.blk,3,none⟩=some (.slice a5 R.n cp5):=(hb5.cell (cell_lt c3b)).trans c3b
    have c4c:(w4.alloc (.cells #[.int .i64 (R.e:Int)] 3)).drew.cell? ⟨R.blk,4,none⟩=some (.int .i64 (R.e:Int)):=(hb5.cell (cell_lt c4b)).trans c4b
    rw [hv5] at hu3
    clear hr8 hr9 hm9 hft hb5 hce c2 c3 c4 hr5 hv5
    go_wp2_with fail
    go_region_law (refine step_append_run _ (by rfl) _ _ _ _ (by rfl) _ _ (by rfl) (by rfl) (.slice a9 (R.n+1) cp9) w8 HAP.out ?_)
    all_goals (
     go_wp2_with fail
     go_ret
     rw [HFZ.out]
     have hm:=(Mod.of_below (Below.refl w4.heap.size w4).drew).trans HM9.out
     have hcf:∀ k,(D.create (nameL R.head R.e) bk).foot k→¬ R.foot k:=fun k hk hk2=>by
      rcases create_foot hk with h | h
      · exact hap k h hk2
      · have h1:=HH.out.lt hk2
        have h2:=HB.out.size
        have h3:=HBK.out
        omega
     refine ⟨rfl,fun h=>absurd rfl h,fun _=>⟨bk,_,Nat.le_trans HB.out.size HBK.out,HD4.out.mod hm (fun k hk hk2=>hcf k hk hk2),HR9.out,(HM4.out.mono fun _ _ h=>.inl h).trans (hm.mono fun _ _ h=>.inr h),fun k hk=>(HFT.out k hk).imp_right fun h=>Nat.le_trans HM4.out.size h,fun k hk hk2=>?_⟩⟩
     rcases hk2 with rfl | hk2
     · exact hcf _ hk (.inl rfl)
     · rcases HFT.out k hk2 with h | h
       · exact hcf k hk h
       · have h1:=HD4.out.lt hk
         have h2:w4.heap.size≤k:=h
         omega)
   ·
    have HCE:Hid (D.createE (nameL R.head R.e)≠0):=hce
    have hce2:¬ D.createE (nameL R.head R.e)=0:=hce
    clear hce
    generalize D.createE (nameL R.head R.e)=ce at *
    go_wp2_with fail
    go_ret
    rw [HFE.out]
    exact ⟨rfl,fun _=>⟨HR4.out,.inr ⟨h99,bk,HD4.out⟩,HM4.out⟩,fun h=>absurd h HCE.out⟩
 ·
  rw [hv] at hp
  injection hp with e1 e2 e3
  subst e1
  have hn0:¬ R.n=0:=by omega
  have hnei:=hne.resolve_left hn0
  have hix:((R.n - 1:Nat):Int)=(R.n:Int) - 1:=by omega
  have hn0i:(0:Int) < (R.n:Int):=by omega
  have hn0p:0 < R.n:=by omega
  clear hne e3 hv
  generalize hpl:R.b+(R.n - 1) * R.size=pl at *
  go_enter Tryz.func170,Tryz.ntmps170
  go_wp2_with fail
  go_quiet (first | (go_at_call 48; exact quiet_drawn (HRM.out _)))
  go_wp2_with fail
  refine Grow.wp_region_g 14 [none,none,none,some (.inl (.string (S R.head))),none,none,none,some (.inl (.int .i64 (R.e:Int))),some (.inl (.tuple #[.string (S nm),.bool ok])),none,none,none,none,none] Ext (by kernel_rfl) (by kernel_rfl) (by kernel_rfl) Ext.refl (fun _ _ _=>Ext.trans) ?_ ?_
  · intro K hK Y hY v w w' hR h
    simp only [List.mem_cons,List.not_mem_nil,or_false] at hK
    rcases hK with rfl | rfl | rfl | rfl | rfl | rfl | rfl | rfl | rfl | rfl | rfl | rfl | rfl | rfl <;> simp only [reduceCtorEq,Option.some.injEq,Sum.inr.injEq] at hY
  simp only [List.take_succ_cons,List.take_zero,List.drop_succ_cons,List.drop_zero]
  iterate 3
   refine Grow.g_det rfl ?_
   apply Exists.intro
   refine ⟨fun w hw hF=>?_,?_⟩
   · clear hF
     go_simp
     exact ⟨rfl,Ext.refl _⟩
   go_frame
  refine Grow.g_con rfl (fun w2' hw hF=>?_) ?_
  · clear hF
    have c1:=HC1.out w2' ((((Drawn.refl w).drewN nq).below w.heap.size).trans (((Below.refl _ _).drew.trans hw).mono (Nat.le_refl _)))
    go_simp
    all_goals exact Ext.refl _
  iterate 3
   go_frame
   refine Grow.g_det rfl ?_
   apply Exists.intro
   refine ⟨fun w hw hF=>?_,?_⟩
   · clear hF
     go_simp
     exact ⟨rfl,Ext.refl _⟩
  go_frame
  refine Grow.g_con rfl (fun w2' hw hF=>?_) ?_
  · clear hF
    have c4:=HC4.out w2' ((((Drawn.refl w).drewN nq).below w.heap.size).trans (((Below.refl _ _).drew.trans hw).mono (Nat.le_refl _)))
    go_simp
    all_goals exact Ext.refl _
  go_frame
  refine Grow.g_con rfl (fun w2' hw hF=>?_) ?_
  · clear hF
    go_simp
    exact (HNM.out w2' ((((Drawn.refl w).drewN nq).below w.heap.size).trans (((Below.refl _ _).drew.trans hw).mono (Nat.le_refl _)))).mono fun e w3 h=>⟨_,h.1,rfl,h.2⟩
  iterate 5
   go_frame
   refine Grow.g_det rfl ?_
   apply Exists.intro
   refine ⟨fun w hw hF=>?_,?_⟩
   · clear hF
     go_simp
     exact ⟨rfl,Ext.refl _⟩
  go_frame
  refine Grow.g_nil fun w3 hw3 hF=>?_
  clear hF
  refine wpList_nil ?_
  have HB:=Lib.hid ((((Drawn.refl w).drewN nq).below w.heap.size).trans (((Below.refl _ _).drew.trans hw3).mono (Nat.le_refl _)))
  clear hw3
  by_cases h99:99999999 < R.e
  ·
   have hok:ok=false:=by rw [HOK.out]; exact decide_eq_false (by omega)
   subst hok
   have HFE:Hid (R.freshE D=2):=if_pos h99
   go_wp2_with fail
   go_ret
   rw [HFE.out]
   exact ⟨rfl,fun _=>⟨HH.out.below HB.out,.inl ⟨h99,HDD.out.below HB.out⟩,Mod.of_below HB.out⟩,fun h=>absurd h (by decide)⟩
  ·
   have hok:ok=true:=by rw [HOK.out]; exact decide_eq_true (by omega)
   subst hok
   have hnm:nm=nameL R.head R.e:=by rw [HNMD.out]; unfold nameR; rw [if_pos (by omega)]; rfl
   subst hnm
   have HFE:Hid (R.freshE D=D.createE (nameL R.head R.e)):=if_neg h99
   have hd3:=HDD.out.below HB.out
   have hr3:=HH.out.below HB.out
   have c0:w3.cell? ⟨R.blk,0,none⟩=some (.pointer (some ⟨D.blk,0,none⟩)):=hr3.cell 0 _ (by rw [← hdb]; rfl)
   have HCR:=Lib.hid (create_any (nameL R.head R.e) w3 hd3 (Nat.le_trans hbase HB.out.size))
   have HD3:=Lib.hid hd3
   have HR3:=Lib.hid hr3
   clear hd3 hr3
   go_wp2_with fail
   refine HCR.out.mono ?_
   rintro e w4 ⟨bk,hbk,rfl,hd4,hm4⟩
   have HBK:=Lib.hid hbk
   have HD4:=Lib.hid hd4
   have HR4:=Lib.hid (HR3.out.mod hm4 (fun k hk hk2=>hap k hk2 hk))
   have HM4:=Lib.hid ((Mod.of_below (M:=D.foot) HB.out).trans hm4)
   clear hd4 hm4 HCR HD3 HR3 c0 hbk
   by_cases hce:D.createE (nameL R.head R.e)=0
   ·
    have HFZ:Hid (R.freshE D=0):=HFE.out.trans hce
    rw [hce]
    have hr5:SegAt base w4.drew R:=HR4.out.below (Below.refl _ _).drew
    have hs5:w4.drew.heap.size=w4.heap.size:=rfl
    obtain ⟨a5,cp5,hv5⟩:=hr5.pv_nil
    try clear h0
    obtain ⟨v',w8,hr8,hr9,hm9,⟨a9,cp9,rfl⟩,hu3,hu4,hfr8,hft⟩:=append_place hr5 HFU.out (by omega) (Nat.le_trans hbase HM4.out.size)
    have HR9:=Lib.hid hr9
    have HM9:=Lib.hid hm9
    have HFT:=Lib.hid hft
    have HAP:Hid ((Builtin.append_ #[49,49] 49 #[.slice a5 R.n cp5,.slice (some ⟨w4.heap.size,0,none⟩) 1 1]).run Tryz.prog (w4.alloc (.cells #[.int .i64 (R.e:Int)] 3)).drew=.ok (.slice a9 (R.n+1) cp9) w8):=by rw [← hv5]; exact hr8
    have c4b:w4.drew.cell? ⟨R.blk,4,none⟩=some (.int .i64 (R.e:Int)):=hr5.cell 4 _ rfl
    have c3b:w4.drew.cell? ⟨R.blk,3,none⟩=some (.slice a5 R.n cp5):=hr5.cell 3 _ (by show some R.pv=_; rw [hv5])
    have hb5:Below w4.drew.heap.size w4.drew (w4.drew.alloc (.cells #[.int .i64 (R.e:Int)] 3)):=(Below.refl _ _).alloc (Nat.le_refl _) _
    have c3c:(w4.alloc (.cells #[.int .i64 (R.e:Int)] 3)).drew.cell? ⟨R.blk,3,none⟩=some (.slice a5 R.n cp5):=(hb5.cell (cell_lt c3b)).trans c3b
    have c4c:(w4.alloc (.cells #[.int .i64 (R.e:Int)] 3)).drew.cell? ⟨R.blk,4,none⟩=some (.int .i64 (R.e:Int)):=(hb5.cell (cell_lt c4b)).trans c4b
    rw [hv5] at hu3
    clear hr8 hr9 hm9 hft hb5 hce c2 c3 c4 hr5 hv5
    go_wp2_with fail
    go_region_law (refine step_append_run _ (by rfl) _ _ _ _ (by rfl) _ _ (by rfl) (by rfl) (.slice a9 (R.n+1) cp9) w8 HAP.out ?_)
    all_goals (
     go_wp2_with fail
     go_ret
     rw [HFZ.out]
     have hm:=(Mod.of_below (Below.refl w4.heap.size w4).drew).trans HM9.out
     have hcf:∀ k,(D.create (nameL R.head R.e) bk).foot k→¬ R.foot k:=fun k hk hk2=>by
      rcases create_foot hk with h | h
      · exact hap k h hk2
      · have h1:=HH.out.lt hk2
        have h2:=HB.out.size
        have h3:=HBK.out
        omega
     refine ⟨rfl,fun h=>absurd rfl h,fun _=>⟨bk,_,Nat.le_trans HB.out.size HBK.out,HD4.out.mod hm (fun k hk hk2=>hcf k hk hk2),HR9.out,(HM4.out.mono fun _ _ h=>.inl h).trans (hm.mono fun _ _ h=>.inr h),fun k hk=>(HFT.out k hk).imp_right fun h=>Nat.le_trans HM4.out.size h,fun k hk hk2=>?_⟩⟩
     rcases hk2 with rfl | hk2
     · exact hcf _ hk (.inl rfl)
     · rcases HFT.out k hk2 with h | h
       · exact hcf k hk h
       · have h1:=HD4.out.lt hk
         have h2:w4.heap.size≤k:=h
         omega)
   ·
    have HCE:Hid (D.createE (nameL R.head R.e)≠0):=hce
    have hce2:¬ D.createE (nameL R.head R.e)=0:=hce
    clear hce
    generalize D.createE (nameL R.head R.e)=ce at *
    go_wp2_with fail
    go_ret
    rw [HFE.out]
    exact ⟨rfl,fun _=>⟨HR4.out,.inr ⟨h99,bk,HD4.out⟩,HM4.out⟩,fun h=>absurd h HCE.out⟩
def TabB (base:Nat) (w:World):Prop:=∃ W,Tab W∧W.heap.size≤base∧Below W.heap.size W w
theorem TabB.tab {base:Nat} {w:World} (h:TabB base w):Tab w:=by
 obtain ⟨W,h1,h2,h3⟩:=h
 exact h1.below h3
theorem TabB.mod {base:Nat} {w w':World} {M:Nat→Prop} (h:TabB base w) (hm:Mod M w w') (hM:∀ k,M k→base≤k):TabB base w':=by
 obtain ⟨W,h1,h2,h3⟩:=h
 exact ⟨W,h1,h2,h3.trans (hm.to_below W.heap.size h3.size (fun k hk=>Nat.le_trans h2 (hM k hk)))⟩
theorem TabB.below {base:Nat} {w w':World} (h:TabB base w) (hb:Below w.heap.size w w'):TabB base w' :=
 h.mod (M:=fun _=>False) (Mod.of_below hb) (fun _ h=>h.elim)
structure Quiet (D:DiskD):Prop where
 left:D.left = -1
 up:D.down=false
theorem Quiet.burn {D:DiskD} (h:Quiet D):D.burn=D:=by
 unfold DiskD.burn
 rw [h.left]
 simp
theorem Quiet.done {D:DiskD} (h:Quiet D):D.done=0:=by unfold DiskD.done; rw [h.left]; simp
theorem Quiet.createE {D:DiskD} (h:Quiet D) {n:List UInt8} (hf:D.find n=none):D.createE n=0:=by
 unfold DiskD.createE
 rw [h.up,hf,h.done]; simp
theorem Quiet.create {D:DiskD} (h:Quiet D) {n:List UInt8} (hf:D.find n=none) (b:Nat):D.create n b={ D with files:=D.files++[(n,⟨b,[],[]⟩)] }:=by
 unfold DiskD.create
 rw [h.up,hf,h.left,h.burn]; simp [h.left,h.up]
theorem find_create {D:DiskD} (h:Quiet D) {n:List UInt8} (hf:D.find n=none) (b:Nat) (m:List UInt8):(D.create n b).find m=if m=n then some ⟨b,[],[]⟩ else D.find m:=by
 rw [h.create hf]
 unfold DiskD.find at *
 simp only
 rw [List.find?_append]
 by_cases e:m=n
 ·
  subst e
  rw [if_pos rfl]
  cases hh:D.files.find? (fun p=>p.1 == m) with
  | none=>simp
  | some x=>rw [hh] at hf; cases hf
 · rw [if_neg e]
   have:([(n,(⟨b,[],[]⟩:FileD))].find? fun p=>p.1 == m)=none:=by simp; exact fun h=>e h.symm
   rw [this]; simp
theorem find_setNow (l:List (List UInt8×FileD)) (n t m:List UInt8):(((setNow l n t).find? fun p=>p.1 == m).map (·.2))=if m=n then ((l.find? fun p=>p.1 == m).map (·.2)).map (fun f=>{ f with now:=t }) else (l.find? fun p=>p.1 == m).map (·.2):=by
 induction l with
 | nil=>simp [setNow]
 | cons p l ih =>
   unfold setNow at *
   rw [List.map_cons,List.find?_cons,List.find?_cons]
   have e1:(if p.1=n then (p.1,{ p.2 with now:=t }) else p).1=p.1:=by split <;> rfl
   rw [e1]
   by_cases hp:p.1=m
   · rw [show (p.1 == m)=true by simp [hp]]
     simp only [Option.map_some]
     by_cases hm:m=n
     · rw [if_pos hm,if_pos (hp.trans hm)]
     · rw [if_neg hm,if_neg (by rw [hp]; exact hm)]
   · rw [show (p.1 == m)=false by simp [hp]]
     exact ih
theorem laid_end (s t:List UInt8):laidL s s.length t=s++t:=by
 unfold laidL
 by_cases h:t=[]
 · rw [if_pos h,h,List.append_nil]
 ·
  rw [if_neg h]
  unfold overB
  rw [List.take_append_of_le_length (Nat.le_refl _),List.take_length]
  have:s.length+t.length - s.length=t.length:=by omega
  rw [this,List.drop_of_length_le (by simp),List.append_nil]
theorem Quiet.write {D:DiskD} (h:Quiet D) (hn:(D.files.map (·.1)).Nodup) {n:List UInt8} {f:FileD} (hf:D.find n=some f) {o:Int} (ho:o=(f.now.length:Int)) {t:List UInt8} (ht:t≠[]) (hr:(t.length:Int)≤D.room) (wv:Value) :
 D.writeE n o t=0∧D.write n o t wv={ D with files:=setNow D.files n (f.now++t),wv:=wv,waits:=D.waits++[⟨f.blk,f.now.length,t⟩] }:=by
 have hb:D.bars [n]=0:=by rw [bars_one,h.up,hf]; rfl
 have hfit:D.fitB f o t=0:=by
  unfold DiskD.fitB
  subst ho
  rw [if_neg (by omega),if_neg (by omega)]
 subst ho
 unfold DiskD.writeE DiskD.write
 rw [if_pos hb,if_pos hb,hf]
 simp only
 rw [if_pos hfit,if_pos hfit,if_neg (by rw [h.left]; simp [ht]),h.done,h.burn,Int.toNat_natCast,laid_end]
 exact ⟨rfl,rfl⟩
theorem sizeL_append (a b:List (List UInt8×FileD)):sizeL (a++b)=sizeL a+sizeL b:=by unfold sizeL; simp
def SegD.lastP (R:SegD):Nat:=R.b+(R.n - 1) * R.size
def SegD.add (R:SegD) (s:List UInt8):SegD:={ R with txt:=R.txt++s }
def SegOnly (D:DiskD) (R:SegD):Prop:=∀ p,p≤99999999→(∀ i,i < R.n→p≠R.b+i * R.size)→D.find (nameL R.head p)=none
structure Whole (base:Nat) (w:World) (D:DiskD) (R:SegD):Prop where
 seg:SegAt base w R
 dsk:DiskAt base w D
 db:R.db=D.blk
 ap:∀ k,D.foot k→¬ R.foot k
 ok:SegOk D R
 only:SegOnly D R
theorem Whole.mod {base:Nat} {w w':World} {D:DiskD} {R:SegD} {M:Nat→Prop} (h:Whole base w D R) (hm:Mod M w w') (h1:∀ k,D.foot k→¬ M k) (h2:∀ k,R.foot k→¬ M k):Whole base w' D R :=
 { h with seg:=h.seg.mod hm h2,dsk:=h.dsk.mod hm h1 }
theorem Whole.below {base:Nat} {w w':World} {D:DiskD} {R:SegD} (h:Whole base w D R) (hb:Below w.heap.size w w'):Whole base w' D R :=
 { h with seg:=h.seg.below hb,dsk:=h.dsk.below hb }
structure AppOk (D D':DiskD) (R R':SegD) (s:List UInt8):Prop where
 quiet:Quiet D'
 blk:D'.blk=D.blk
 ok:SegOk D' R'
 only:SegOnly D' R'
 other:∀ m,(∀ p,p≤99999999→m≠nameL R.head p)→D'.find m=D.find m
 room:D'.room=D.room - (s.length:Int)
 waits:∃ f o,D'.find (nameL R.head R'.lastP)=some f∧D'.waits=D.waits++[⟨f.blk,o,s⟩]
 blks:∀ m f,D.find m=some f→∃ f',D'.find m=some f'∧f'.blk=f.blk∧f'.img=f.img
 files:D'.files.length≤D.files.length+1
 names:∀ p∈D'.files,p.1.length≤R.head.length+8∨∃ q∈D.files,q.1=p.1
 cap:D'.cap=D.cap
theorem setNow_length (l:List (List UInt8×FileD)) (n t:List UInt8):(setNow l n t).length=l.length:=by unfold setNow; simp
theorem app_open {base:Nat} {w:World} {D:DiskD} {R:SegD} {s:List UInt8} (hR:SegAt base w R) (hD:DiskAt base w D) (hok:SegOk D R) (hon:SegOnly D R) (hq:Quiet D) (hn:0 < R.n) (hs:s≠[])
 (hle:R.txt.length+s.length≤R.n * R.size) (hrm:(s.length:Int)≤D.room) (wv:Value) :
 D.writeE (nameL R.head R.lastP) ((R.e:Int) - (R.lastP:Int)) s=0∧AppOk D (D.write (nameL R.head R.lastP) ((R.e:Int) - (R.lastP:Int)) s wv) R (R.add s) s ∧
  (D.write (nameL R.head R.lastP) ((R.e:Int) - (R.lastP:Int)) s wv).files.length=D.files.length∧∀ p∈(D.write (nameL R.head R.lastP) ((R.e:Int) - (R.lastP:Int)) s wv).files,∃ q∈D.files,q.1=p.1:=by
 obtain ⟨l1,l2,l3⟩:=hR.long hn
 have hsz:=hR.sz
 obtain ⟨hb,hf⟩:=hok (R.n - 1) (by omega)
 have hmp:=mul_pred (s:=R.size) hn
 obtain ⟨f,hf⟩:=Option.isSome_iff_exists.1 hf
 have hfn:f.now=R.txt.drop ((R.n - 1) * R.size):=by
  have:D.bytes (nameL R.head (R.b+(R.n - 1) * R.size))=f.now:=by unfold DiskD.bytes; rw [hf]; rfl
  rw [← this,hb]
  exact List.take_of_length_le (by rw [List.length_drop]; omega)
 have hfl:(R.e:Int) - (R.lastP:Int)=(f.now.length:Int):=by
  rw [hfn,List.length_drop]
  unfold SegD.e SegD.lastP
  omega
 obtain ⟨h1,h2⟩:=hq.write hD.names (n:=nameL R.head R.lastP) (f:=f) hf hfl hs hrm wv
 refine ⟨h1,?_⟩
 rw [h2]
 have hnm:∀ p∈setNow D.files (nameL R.head R.lastP) (f.now++s),∃ q∈D.files,q.1=p.1:=fun p hp=>by
  obtain ⟨q,hq,_,e,_⟩:=setNow_mem hp
  exact ⟨q,hq,e.symm⟩
 have hfind:∀ m,DiskD.find { D with files:=setNow D.files (nameL R.head R.lastP) (f.now++s),wv:=wv,waits:=D.waits++[⟨f.blk,f.now.length,s⟩] } m=if m=nameL R.head R.lastP then (D.find m).map (fun f=>{ f with now:=f.now++s }) else D.find m:=by
  intro m
  unfold DiskD.find
  simp only
  rw [find_setNow]
  by_cases e:m=nameL R.head R.lastP
  · rw [if_pos e,if_pos e]
    subst e
    have:(D.files.find? fun p=>p.1 == nameL R.head R.lastP).map (·.2)=some f:=hf
    rw [this]; rfl
  · rw [if_neg e,if_neg e]
 refine ⟨⟨⟨hq.left,hq.up⟩,rfl,fun i hi=>?_,fun p hp hne=>?_,fun m hm=>?_,?_,?_,fun m g hm=>?_,by simp [setNow_length],fun p hp=>.inr (hnm p hp),rfl⟩,setNow_length _ _ _,hnm⟩
 ·
  have hi':i < R.n:=hi
  obtain ⟨k1,k2⟩:=hok i hi'
  show DiskD.bytes _ (nameL R.head (R.b+i * R.size))=((R.txt++s).drop (i * R.size)).take R.size∧_
  by_cases e:i=R.n - 1
  ·
   subst e
   refine ⟨?_,?_⟩
   · unfold DiskD.bytes
     rw [hfind,if_pos (show nameL R.head (R.b+(R.n - 1) * R.size)=nameL R.head R.lastP from rfl),show D.find (nameL R.head (R.b+(R.n - 1) * R.size))=some f from hf]
     show f.now++s=_
     rw [List.drop_append_of_le_length l1,← hfn,List.take_of_length_le]
     rw [List.length_append,hfn,List.length_drop]; omega
   · show (DiskD.find _ (nameL R.head (R.b+(R.n - 1) * R.size))).isSome=true
     rw [hfind,if_pos (show nameL R.head (R.b+(R.n - 1) * R.size)=nameL R.head R.lastP from rfl),show D.find (nameL R.head (R.b+(R.n - 1) * R.size))=some f from hf]; rfl
  ·
   have hlt:i+1≤R.n - 1:=by omega
   have hmm:(i+1) * R.size≤(R.n - 1) * R.size:=Nat.mul_le_mul_right _ hlt
   rw [Nat.add_mul,Nat.one_mul] at hmm
   have hne:nameL R.head (R.b+i * R.size)≠nameL R.head R.lastP:=fun h=>by
    have:=name_inj h
    unfold SegD.lastP at this
    omega
   refine ⟨?_,?_⟩
   · have:DiskD.bytes { D with files:=setNow D.files (nameL R.head R.lastP) (f.now++s),wv:=wv,waits:=D.waits++[⟨f.blk,f.now.length,s⟩] } (nameL R.head (R.b+i * R.size))=D.bytes (nameL R.head (R.b+i * R.size)):=by
      unfold DiskD.bytes; rw [hfind,if_neg hne]
     rw [this,k1,List.drop_append_of_le_length (by omega),List.take_append_of_le_length (by rw [List.length_drop]; omega)]
   · show (DiskD.find _ (nameL R.head (R.b+i * R.size))).isSome=true
     rw [hfind,if_neg hne]; exact k2
 ·
  rw [hfind,if_neg ?_]
  · exact hon p hp hne
  · intro h
    exact hne (R.n - 1) (by show R.n - 1 < R.n; omega) (name_inj h)
 · rw [hfind,if_neg]
   · intro h; exact hm R.lastP (by unfold SegD.lastP; omega) h
 ·
  unfold DiskD.room DiskD.size
  simp only
  have:=sizeL_set D.files (nameL R.head R.lastP) (f.now++s) f hD.names (find_some hf)
  rw [List.length_append] at this
  omega
 · refine ⟨{ f with now:=f.now++s },f.now.length,?_,rfl⟩
   show DiskD.find _ (nameL R.head R.lastP)=_
   rw [hfind,if_pos rfl,show D.find (nameL R.head R.lastP)=some f from hf]; rfl
 ·
  rw [hfind,hm]
  by_cases e:m=nameL R.head R.lastP
  · rw [if_pos e]; exact ⟨_,rfl,rfl,rfl⟩
  · rw [if_neg e]; exact ⟨_,rfl,rfl,rfl⟩
theorem frD_ok {base:Nat} {w:World} {D:DiskD} {R:SegD} (hR:SegAt base w R) (hok:SegOk D R) (hon:SegOnly D R) (hq:Quiet D) (hfull:R.n=0∨(0 < R.n∧R.txt.length=R.n * R.size)) (he:R.e≤99999999) (bk:Nat) (pv:Value) :
 D.createE (nameL R.head R.e)=0∧Quiet (D.create (nameL R.head R.e) bk)∧SegOk (D.create (nameL R.head R.e) bk) (R.more pv)∧SegOnly (D.create (nameL R.head R.e) bk) (R.more pv) ∧
  (∀ m,(∀ p,p≤99999999→m≠nameL R.head p)→(D.create (nameL R.head R.e) bk).find m=D.find m)∧(D.create (nameL R.head R.e) bk).room=D.room∧(D.create (nameL R.head R.e) bk).waits=D.waits ∧
  (D.create (nameL R.head R.e) bk).files=D.files++[(nameL R.head R.e,⟨bk,[],[]⟩)]∧(D.create (nameL R.head R.e) bk).blk=D.blk∧(D.create (nameL R.head R.e) bk).cap=D.cap:=by
 have hsz:=hR.sz
 have hee:R.e=R.b+R.n * R.size:=by
  unfold SegD.e
  rcases hfull with h0 | ⟨h0,h1⟩
  · obtain ⟨e1,e2⟩:=hR.empty h0
    rw [h0,e1,e2]; simp
  · rw [h1]
 have htl:R.txt.length=R.n * R.size:=by unfold SegD.e at hee; omega
 have hne:∀ i,i < R.n→R.e≠R.b+i * R.size:=fun i hi h=>by
  have:(i+1) * R.size≤R.n * R.size:=Nat.mul_le_mul_right _ hi
  rw [Nat.add_mul,Nat.one_mul] at this
  omega
 have hf:D.find (nameL R.head R.e)=none:=hon R.e he hne
 have hfc:=find_create hq hf bk
 have hcr:=hq.create hf bk
 refine ⟨hq.createE hf,?_,fun i hi=>?_,fun p hp hp2=>?_,fun m hm=>?_,?_,?_,?_,?_,?_⟩
 · rw [hcr]; exact ⟨hq.left,hq.up⟩
 ·
  show DiskD.bytes _ (nameL R.head (R.b+i * R.size))=(R.txt.drop (i * R.size)).take R.size∧(DiskD.find _ (nameL R.head (R.b+i * R.size))).isSome=true
  have hi':i < R.n+1:=hi
  by_cases e:i=R.n
  ·
   subst e
   have h1:(D.create (nameL R.head R.e) bk).find (nameL R.head (R.b+R.n * R.size))=some ⟨bk,[],[]⟩:=by rw [hfc,if_pos (by rw [hee])]
   refine ⟨?_,by rw [h1]; rfl⟩
   unfold DiskD.bytes
   rw [h1,List.drop_of_length_le (by omega),List.take_nil]
   rfl
  ·
   obtain ⟨k1,k2⟩:=hok i (by omega)
   have h1:(D.create (nameL R.head R.e) bk).find (nameL R.head (R.b+i * R.size))=D.find (nameL R.head (R.b+i * R.size)):=by
    rw [hfc,if_neg]
    intro h
    exact hne i (by omega) (name_inj h).symm
   refine ⟨?_,by rw [h1]; exact k2⟩
   rw [← k1]
   unfold DiskD.bytes
   rw [h1]
 ·
  show DiskD.find _ (nameL R.head p)=none
  rw [hfc,if_neg ?_]
  · exact hon p hp fun i hi=>hp2 i (by show i < R.n+1; omega)
  · intro h
    have:=name_inj h
    exact hp2 R.n (by show R.n < R.n+1; omega) (this.trans hee)
 · rw [hfc,if_neg (hm R.e he)]
 ·
  unfold DiskD.room DiskD.size
  rw [hcr]
  simp only
  rw [sizeL_append]
  show D.cap - ((sizeL D.files+0:Nat):Int)=_
  rw [Nat.add_zero]
 · rw [hcr]
 · rw [hcr]
 · rw [hcr]
 · rw [hcr]
theorem open_or {base:Nat} {w:World} {R:SegD} (h:SegAt base w R):(0 < R.n∧R.txt.length < R.n * R.size)∨(R.n=0∨(0 < R.n∧R.txt.length=R.n * R.size)):=by
 rcases Nat.eq_zero_or_pos R.n with h0 | h0
 · exact .inr (.inl h0)
 ·
  have:=(h.long h0).2.1
  by_cases h1:R.txt.length < R.n * R.size
  · exact .inl ⟨h0,h1⟩
  · exact .inr (.inr ⟨h0,by omega⟩)
structure FrOk (D D1:DiskD) (R R1:SegD):Prop where
 quiet:Quiet D1
 blk:D1.blk=D.blk
 other:∀ m,(∀ p,p≤99999999→m≠nameL R.head p)→D1.find m=D.find m
 room:D1.room=D.room
 waits:D1.waits=D.waits
 files:D1.files=D.files∨∃ n bk,n.length≤R.head.length+8∧D1.files=D.files++[(n,⟨bk,[],[]⟩)]
 same:R1={ R with n:=R1.n,pv:=R1.pv }
 pos:0 < R1.n
 fit:R.txt.length+R.room≤R1.n * R1.size
 cap:D1.cap=D.cap
theorem FrOk.refl {D:DiskD} {R:SegD} (hq:Quiet D) (ho:0 < R.n∧R.txt.length < R.n * R.size):FrOk D D R R :=
 ⟨hq,rfl,fun _ _=>rfl,rfl,rfl,.inl rfl,rfl,ho.1,by unfold SegD.room; rw [if_pos ho]; omega,rfl⟩
theorem AppOk.join {D D1 D':DiskD} {R R1 R':SegD} {s:List UInt8} (h:AppOk D1 D' R1 R' s) (hlen:D'.files.length=D1.files.length) (hnm:∀ p∈D'.files,∃ q∈D1.files,q.1=p.1) (hf:FrOk D D1 R R1):AppOk D D' R R' s:=by
 have hh:R1.head=R.head:=by rw [hf.same]
 refine ⟨h.quiet,h.blk.trans hf.blk,h.ok,h.only,fun m hm=>?_,by rw [h.room,hf.room],?_,fun m f hm=>?_,?_,fun p hp=>?_,h.cap.trans hf.cap⟩
 · rw [h.other m (by rw [hh]; exact hm),hf.other m hm]
 · obtain ⟨f,o,h1,h2⟩:=h.waits
   exact ⟨f,o,by rw [← hh]; exact h1,by rw [h2,hf.waits]⟩
 ·
  have:D1.find m=some f:=by
   rcases hf.files with e | ⟨n,bk,_,e⟩
   · unfold DiskD.find at *
     rw [e]; exact hm
   · unfold DiskD.find at *
     rw [e,List.find?_append]
     cases hx:D.files.find? (fun p=>p.1 == m) with
     | none=>rw [hx] at hm; cases hm
     | some x=>rw [hx] at hm; exact hm
  exact h.blks m f this
 · rw [hlen]
   rcases hf.files with e | ⟨n,bk,_,e⟩ <;> rw [e] <;> simp
 ·
  obtain ⟨q,hq,e⟩:=hnm p hp
  rcases hf.files with e2 | ⟨n,bk,hn,e2⟩
  · rw [e2] at hq; exact .inr ⟨q,hq,e⟩
  ·
   rw [e2,List.mem_append] at hq
   rcases hq with hq | hq
   · exact .inr ⟨q,hq,e⟩
   · rw [List.mem_singleton] at hq
     subst hq
     left
     rw [← e]; exact hn
theorem fresh_ok {base:Nat} {D:DiskD} {R:SegD} (w:World) (hT:TabB base w) (hW:Whole base w D R) (hq:Quiet D) (hbase:base≤w.heap.size) (he:(R.n=0∨(0 < R.n∧R.txt.length=R.n * R.size))→R.e≤99999999) :
 Calls Tryz.prog 170 #[.pointer (some ⟨R.blk,0,none⟩)] w fun e w'=>e=.returned (.int .i64 0)∧∃ D1 R1,Whole base w' D1 R1∧FrOk D D1 R R1∧Mod (fun k=>D.foot k∨R.foot k) w w' ∧
  (∀ k,D1.foot k→D.foot k∨w.heap.size≤k)∧∀ k,R1.foot k→R.foot k∨w.heap.size≤k:=by
 rcases open_or hW.seg with ho | hfull
 · refine (fresh_no w hW.seg ho).mono ?_
   rintro e w' ⟨rfl,hd⟩
   exact ⟨rfl,D,R,hW.below (hd.below _),FrOk.refl hq ho,Mod.of_below (hd.below _),fun k h=>.inl h,fun k h=>.inl h⟩
 ·
  have hno:¬ R.open_:=by rintro ⟨h1,h2⟩; rcases hfull with h | h <;> omega
  have he9:=he hfull
  have hP:=fun (bk:Nat) (pv:Value)=>frD_ok hW.seg hW.ok hW.only hq hfull he9 bk pv
  have hE:R.freshE D=0:=by unfold SegD.freshE; rw [if_neg (by omega)]; exact (hP 0 (.bool true)).1
  refine (fresh_new w hT.tab hW.seg hW.dsk hW.db hW.ap hno hbase).mono ?_
  rintro e w' ⟨rfl,-,h⟩
  obtain ⟨bk,pv,h1,h2,h3,h4,h5,h6⟩:=h hE
  obtain ⟨p1,p2,p3,p4,p5,p6,p7,p8,p9,p10⟩:=hP bk pv
  rw [hE]
  refine ⟨rfl,D.create (nameL R.head R.e) bk,R.more pv,⟨h3,h2,hW.db.trans p9.symm,h6,p3,p4⟩,⟨p2,p9,p5,p6,p7,.inr ⟨_,bk,?_,p8⟩,rfl,?_,?_,p10⟩,h4,fun k hk=>?_,fun k hk=>?_⟩
  · unfold nameL; rw [List.length_append,pad_len R.e he9]; exact Nat.le_refl _
  · show 0 < R.n+1; omega
  ·
   show R.txt.length+R.room≤(R.n+1) * R.size
   have:R.room=R.size:=by unfold SegD.room; exact if_neg hno
   rw [this,Nat.add_mul,Nat.one_mul]
   rcases hfull with h0 | ⟨h0,h1'⟩
   · obtain ⟨-,e2⟩:=hW.seg.empty h0
     rw [h0,e2]; simp
   · omega
  · rcases create_foot hk with h | h
    · exact .inl h
    · right; omega
  · rcases hk with h | h
    · exact .inl (.inl h)
    · exact h5 k h
theorem append_arg {base:Nat} {D:DiskD} {R:SegD} (s:List UInt8) (w:World) (hW:Whole base w D R) (hs:s=[]∨R.room < s.length) :
 Calls Tryz.prog 108 #[.pointer (some ⟨R.blk,0,none⟩),.string (S s)] w fun e w'=>e=.returned (.tuple #[.int .i64 0,.int .i64 1])∧Below w.heap.size w w':=by
 have hsz:=S_size
 have htl:=S_toList
 by_cases h0:s=[]
 ·
  subst h0
  clear hs hW
  go_enter Tryz.func108,Tryz.ntmps108
  go_wp2_with fail
  go_ret2
  exact ⟨rfl,Below.refl _ _⟩
 ·
  have hR:R.room < s.length:=by rcases hs with h | h; exact absurd h h0; exact h
  have HRM:=Lib.hid (room_any w hW.seg)
  have hRi:(R.room:Int) < (s.length:Int):=by omega
  clear hs hW hR
  generalize R.room=r at *
  go_enter Tryz.func108,Tryz.ntmps108
  go_wp2_with fail
  refine HRM.out.mono ?_
  rintro e w' ⟨rfl,hd⟩
  go_wp2_with fail
  go_ret2
  exact ⟨rfl,hd.below _⟩
theorem append_far {base:Nat} {D:DiskD} {R:SegD} (s:List UInt8) (w:World) (hT:TabB base w) (hW:Whole base w D R) (hbase:base≤w.heap.size) (hq:Quiet D) (h0:s≠[]) (hr:s.length≤R.room) (hf:(s.length:Int)≤D.room)
 (hfull:R.n=0∨(0 < R.n∧R.txt.length=R.n * R.size)) (h99:99999999 < R.e) :
 Calls Tryz.prog 108 #[.pointer (some ⟨R.blk,0,none⟩),.string (S s)] w fun e w'=>e=.returned (.tuple #[.int .i64 0,.int .i64 2])∧Whole base w' D R∧Mod D.foot w w':=by
 have hsz:=S_size
 have htl:=S_toList
 have h0b:s.isEmpty=false:=by cases s with | nil=>exact absurd rfl h0 | cons _ _=>rfl
 have HRM:=Lib.hid (room_any w hW.seg)
 have HDR:=Lib.hid (fun (w2:World) (hb:Below w.heap.size w w2)=>DskW.room_any w2 (hW.dsk.below hb))
 have hno:¬ R.open_:=by rintro ⟨h1,h2⟩; rcases hfull with h | h <;> omega
 have hE:R.freshE D=2:=if_pos h99
 have HFR:=Lib.hid (fun (w2:World) (hb:Below w.heap.size w w2)=>fresh_new w2 (hT.below hb).tab (hW.seg.below hb) (hW.dsk.below hb) hW.db hW.ap hno (Nat.le_trans hbase hb.size))
 rw [hE] at HFR
 have HC0:=Lib.hid (fun (w2:World) (hb:Below w.heap.size w w2)=>(hW.seg.below hb).cell 0 (.pointer (some ⟨D.blk,0,none⟩)) (by rw [← hW.db]; rfl))
 have HW:=Lib.hid hW
 have H99:=Lib.hid h99
 have hRi:¬ R.room < s.length:=by omega
 have hDi:¬ D.room < (s.length:Int):=by omega
 clear hW hr h0 hq hT hfull hno hE h99 hf
 generalize R.room=r at *
 generalize D.room=dr at *
 go_enter Tryz.func108,Tryz.ntmps108
 go_wp2_with fail
 refine HRM.out.mono ?_
 rintro e w1 ⟨rfl,hd⟩
 have HB1:=Lib.hid (hd.below w.heap.size)
 have c0:=HC0.out w1 HB1.out
 clear hd HRM
 go_wp2_with fail
 refine (HDR.out w1 HB1.out).mono ?_
 rintro e w2 ⟨rfl,hb⟩
 have HB2:=Lib.hid (HB1.out.trans (hb.mono HB1.out.size))
 clear hb HDR
 go_wp2_with fail
 refine (HFR.out w2 HB2.out).mono ?_
 rintro e w3 ⟨rfl,h,-⟩
 obtain ⟨h1,h2,h3⟩:=h (by decide)
 have HD3:Hid (DiskAt base w3 D):=by
  rcases h2 with h2 | ⟨h2,-⟩
  · exact h2.2
  · exact absurd H99.out h2
 have HS3:=Lib.hid h1
 have HM3:=Lib.hid ((Mod.of_below (M:=D.foot) HB2.out).trans h3)
 clear h1 h2 h3 h
 go_wp2_with fail
 go_ret2
 exact ⟨rfl,{ HW.out with seg:=HS3.out,dsk:=HD3.out },HM3.out⟩
theorem mod_over {M M':Nat→Prop} {u v w:World} (h:Mod M u v) (h':Mod M' v w) (hk:∀ k,M' k→M k∨u.heap.size≤k):Mod M u w :=
 ⟨h'.os.trans h.os,h'.tape.trans h.tape,h'.output.trans h.output,Nat.le_trans h.size h'.size,fun k hk1 hk2=>(h'.block k (Nat.lt_of_lt_of_le hk1 h.size) (fun hm=>by
  rcases hk k hm with h1 | h1
  · exact hk2 h1
  · omega)).trans (h.block k hk1 hk2)⟩
theorem seg_add {base:Nat} {w:World} {R:SegD} {s:List UInt8} (h:SegAt base w R) (hn:0 < R.n) (hl:R.txt.length+s.length≤R.n * R.size):SegAt base (w.setCell ⟨R.blk,4,none⟩ (.int .i64 ((R.e:Int)+(s.length:Int)))) (R.add s):=by
 obtain ⟨l1,l2,l3⟩:=h.long hn
 have he:((R.add s).e:Int)=(R.e:Int)+(s.length:Int):=by unfold SegD.add SegD.e; simp only; rw [List.length_append]; omega
 refine ⟨heap_set1 h.cells _ ?_,ownsRow_mod (M:=fun k=>k=R.blk) h.row (mod_set _ _ _ _) (fun k hk e=>h.apart k hk e),h.apart,h.above,h.sz,fun h0=>absurd (show R.n=0 from h0) (by omega),fun _=>?_,h.mult,?_,h.hd⟩
 · rw [← he]; rfl
 · show (R.n - 1) * R.size≤(R.txt++s).length∧(R.txt++s).length≤R.n * R.size∧R.b+(R.n - 1) * R.size≤99999999
   rw [List.length_append]; omega
 · have:=h.syn
   show R.synced≤(R.add s).e
   omega
theorem append_ok {base:Nat} {D:DiskD} {R:SegD} (s:List UInt8) (w:World) (hT:TabB base w) (hW:Whole base w D R) (hbase:base≤w.heap.size) (hq:Quiet D) (h0:s≠[]) (hr:s.length≤R.room) (hf:(s.length:Int)≤D.room) (hwl:D.waits.length≤1048576)
 (he:(R.n=0∨(0 < R.n∧R.txt.length=R.n * R.size))→R.e≤99999999) :
 Calls Tryz.prog 108 #[.pointer (some ⟨R.blk,0,none⟩),.string (S s)] w fun e w'=>e=.returned (.tuple #[.int .i64 (R.e:Int),.int .i64 0])∧Mod (fun k=>D.foot k∨R.foot k) w w' ∧
  ∃ D' R',Whole base w' D' R'∧AppOk D D' R R' s∧R'={ R with n:=R'.n,pv:=R'.pv,txt:=R.txt++s }∧(∀ k,D'.foot k→D.foot k∨w.heap.size≤k)∧∀ k,R'.foot k→R.foot k∨w.heap.size≤k:=by
 have hsz:=S_size
 have htl:=S_toList
 have h0b:s.isEmpty=false:=by cases s with | nil=>exact absurd rfl h0 | cons _ _=>rfl
 have HRM:=Lib.hid (room_any w hW.seg)
 have HDR:=Lib.hid (fun (w2:World) (hb:Below w.heap.size w w2)=>DskW.room_any w2 (hW.dsk.below hb))
 have HFR:=Lib.hid (fun (w2:World) (hb:Below w.heap.size w w2)=>fresh_ok w2 (hT.below hb) (hW.below hb) hq (Nat.le_trans hbase hb.size) he)
 have HC0:=Lib.hid (fun (w2:World) (hb:Below w.heap.size w w2)=>(hW.seg.below hb).cell 0 (.pointer (some ⟨D.blk,0,none⟩)) (by rw [← hW.db]; rfl))
 have HW:=Lib.hid hW
 have HT:=Lib.hid hT
 have HHF:=Lib.hid hf
 have HHR:=Lib.hid hr
 have HAB:Hid (∀ k,R.foot k∨D.foot k→k < w.heap.size):=fun k hk=>by
  rcases hk with h | h
  · exact hW.seg.lt h
  · exact hW.dsk.lt h
 have hRi:¬ R.room < s.length:=by omega
 have hDi:¬ D.room < (s.length:Int):=by omega
 have hsl:s.length≤4096:=by
  have h1:=hW.seg.sz.2
  have h2:R.room≤R.size:=by
   unfold SegD.room
   split
   · rename_i h
     have h3:=(hW.seg.long h.1).1
     have h4:=mul_pred (s:=R.size) h.1
     omega
   · exact Nat.le_refl _
  omega
 clear hW hr hq hT he hf
 generalize hrr:R.room=r at *
 generalize hdr:D.room=dr at *
 go_enter Tryz.func108,Tryz.ntmps108
 go_wp2_with fail
 refine HRM.out.mono ?_
 rintro e w1 ⟨rfl,hd⟩
 have HB1:=Lib.hid (hd.below w.heap.size)
 have c0:=HC0.out w1 HB1.out
 clear hd HRM
 go_wp2_with fail
 refine (HDR.out w1 HB1.out).mono ?_
 rintro e w2 ⟨rfl,hb⟩
 have HB2:=Lib.hid (HB1.out.trans (hb.mono HB1.out.size))
 clear hb HDR HC0 c0
 go_wp2_with fail
 refine (HFR.out w2 HB2.out).mono ?_
 rintro e w3 ⟨rfl,D1,R1,hW1,hF,hM,hfd,hfr⟩
 have hT3:TabB base w3:=(HT.out.below HB2.out).mod hM (fun k hk=>by
  rcases hk with h | h
  · exact HW.out.dsk.base_le h
  · rcases h with h | h
    · rw [h]; exact HW.out.seg.above
    · exact ownBlock_of_own HW.out.seg.row k h)
 have HM3:=Lib.hid ((Mod.of_below (M:=fun k=>D.foot k∨R.foot k) HB2.out).trans hM)
 have HFD:=Lib.hid (fun k (hk:D1.foot k)=>(hfd k hk).imp_right fun h=>Nat.le_trans HB2.out.size h)
 have HFS:=Lib.hid (fun k (hk:R1.foot k)=>(hfr k hk).imp_right fun h=>Nat.le_trans HB2.out.size h)
 have HW1:=Lib.hid hW1
 have HF:=Lib.hid hF
 have HT3:=Lib.hid hT3
 have he1:R1.e=R.e:=by rw [hF.same]; rfl
 have hb1:R1.blk=R.blk:=by rw [hF.same]
 have HE1:=Lib.hid he1
 have HBB1:=Lib.hid hb1
 obtain ⟨l1,l2,l3⟩:=hW1.seg.long hF.pos
 obtain ⟨g,cap,hp,hnc,hc⟩:=hW1.seg.place (R1.n - 1) (by have:=hF.pos; omega)
 have c3:w3.cell? ⟨R1.blk,3,none⟩=some (.slice (some ⟨g,0,none⟩) R1.n cap):=hW1.seg.cell 3 _ (by show some R1.pv=_; rw [hp])
 have c4:w3.cell? ⟨R1.blk,4,none⟩=some (.int .i64 (R1.e:Int)):=hW1.seg.cell 4 _ rfl
 have HC0:=Lib.hid (fun (w2:World) (hb:Below w3.heap.size w3 w2)=>(hW1.seg.below hb).cell 0 (.pointer (some ⟨D1.blk,0,none⟩)) (by rw [← hW1.db]; rfl))
 have HNM:=Lib.hid (fun (w2:World) (hb:Below w3.heap.size w3 w2)=>name_any w2 (hW1.seg.below hb) (hT3.tab.below hb) R1.lastP (by unfold SegD.lastP; omega))
 have hft:R1.txt.length+s.length≤R1.n * R1.size:=by
  have e1:R1.txt=R.txt:=by rw [hF.same]
  have h1:=hF.fit
  have h2:=HHR.out
  rw [e1]; omega
 have HFT:=Lib.hid hft
 have happ:=app_open hW1.seg hW1.dsk hW1.ok hW1.only hF.quiet hF.pos h0 hft (by rw [hF.room,hdr]; exact HHF.out)
 have hwl1:D1.waits.length≤1048576:=by rw [hF.waits]; exact hwl
 have HWR:=Lib.hid (fun (w2:World) (hb:Below w3.heap.size w3 w2)=>DskW.write_any (nameL R1.head R1.lastP) ((R1.e:Int) - (R1.lastP:Int)) (by have:=hW1.seg.e_le; unfold SegD.lastP; omega) s (by omega) hwl1 w2 (hW1.dsk.below hb) (Nat.le_trans hbase (Nat.le_trans HM3.out.size hb.size)))
 rw [(happ D1.wv).1] at HWR
 have HAPP:=Lib.hid happ
 have hix:((R1.n - 1:Nat):Int)=(R1.n:Int) - 1:=by have:=hF.pos; omega
 have hn1:(0:Int) < (R1.n:Int):=by have:=hF.pos; omega
 have hn2:R1.n≤1073741824:=by
  have:=hW1.seg.sz
  have h3:=Nat.le_mul_of_pos_right (R1.n - 1) (by omega:0 < R1.size)
  omega
 have hc':w3.cell? ⟨g,R1.n - 1,none⟩=some (.int .i64 (R1.lastP:Int)):=hc
 have hwrp:IntKind.i64.wrap ((R1.e:Int) - (R1.lastP:Int))=(R1.e:Int) - (R1.lastP:Int):=IntWalk.i64_in _ (by have:=hW1.seg.e_le; unfold SegD.lastP; omega)
 have hel:=hW1.seg.e_le
 obtain ⟨nm,HNMD⟩:∃ nm,Hid (nm=nameL R1.head R1.lastP):=⟨_,rfl⟩
 have hnn:nameL R1.head R1.lastP=nm:=HNMD.out.symm
 rw [hnn] at HNM HWR
 have hlp:R1.lastP≤99999999:=by unfold SegD.lastP; omega
 rw [hb1] at c3 c4 HC0 HNM
 rw [he1] at c4 HWR hwrp hel HAPP
 clear hW1 hF hM hfd hfr he1 hb1 happ HFR hc hp hT3 l1 l2 l3 hwl hwl1 hnn hrr hdr
 generalize hlpg:R1.lastP=lp at *
 go_wp2_with fail
 go_quiet (fail)
 go_wp2_with fail
 refine Grow.wp_region_g 11 [none,none,none,some (.inl (.pointer (some ⟨D1.blk,0,none⟩))),none,none,some (.inl (.string (S nm))),none,none,none,none] Ext (by kernel_rfl) (by kernel_rfl) (by kernel_rfl) Ext.refl (fun _ _ _=>Ext.trans) ?_ ?_
 · intro K hK Y hY v w w' hR h
   simp only [List.mem_cons,List.not_mem_nil,or_false] at hK
   rcases hK with rfl | rfl | rfl | rfl | rfl | rfl | rfl | rfl | rfl | rfl | rfl <;> simp only [reduceCtorEq,Option.some.injEq,Sum.inr.injEq] at hY
 simp only [List.take_succ_cons,List.take_zero,List.drop_succ_cons,List.drop_zero]
 iterate 3
  refine Grow.g_det rfl ?_
  apply Exists.intro
  refine ⟨fun w hw hF=>?_,?_⟩
  · clear hF
    go_simp
    exact ⟨rfl,Ext.refl _⟩
  go_frame
 refine Grow.g_con rfl (fun w2' hw hF=>?_) ?_
 ·
  clear hF
  have c0:=HC0.out w2' ((((Drawn.refl w3).drewN nq).below w3.heap.size).trans (((Below.refl _ _).drew.trans hw).mono (Nat.le_refl _)))
  go_simp
  all_goals exact Ext.refl _
 iterate 2
  go_frame
  refine Grow.g_det rfl ?_
  apply Exists.intro
  refine ⟨fun w hw hF=>?_,?_⟩
  · clear hF
    go_simp
    exact ⟨rfl,Ext.refl _⟩
 go_frame
 refine Grow.g_con rfl (fun w2' hw hF=>?_) ?_
 · clear hF
   go_simp
   exact (HNM.out w2' ((((Drawn.refl w3).drewN nq).below w3.heap.size).trans (((Below.refl _ _).drew.trans hw).mono (Nat.le_refl _)))).mono fun e w3 h=>⟨_,h.1,rfl,h.2⟩
 iterate 4
  go_frame
  refine Grow.g_det rfl ?_
  apply Exists.intro
  refine ⟨fun w hw hF=>?_,?_⟩
  · clear hF
    go_simp
    exact ⟨rfl,Ext.refl _⟩
 go_frame
 refine Grow.g_nil fun w4 hw4 hF=>?_
 clear hF
 have HB4:=Lib.hid ((((Drawn.refl w3).drewN nq).below w3.heap.size).trans (((Below.refl _ _).drew.trans hw4).mono (Nat.le_refl _)))
 clear hw4 HC0 HNM c3 c4 hc'
 go_wp2_with fail
 refine (HWR.out w4 HB4.out).mono ?_
 rintro e w5 ⟨wv,rfl,hd5,hm5,hf5⟩
 rw [HNMD.out] at hd5 hf5
 have hs5:SegAt base w5 R1:=(HW1.out.seg.below HB4.out).mod hm5 (fun k hk hk2=>HW1.out.ap k hk2 hk)
 have HM5:=Lib.hid ((Mod.of_below (M:=D1.foot) HB4.out).trans hm5)
 have hfz5:w5.frozen? ⟨R.blk,4,none⟩=false:=by
  unfold World.frozen?
  rw [← HBB1.out,show w5.heap[(⟨R1.blk,4,none⟩:Addr).block]?=_ from hs5.cells]; rfl
 have c45:w5.cell? ⟨R.blk,4,none⟩=some (.int .i64 (R.e:Int)):=by rw [← HBB1.out,← HE1.out]; exact hs5.cell 4 _ rfl
 have HD5:=Lib.hid hd5
 have HS5:=Lib.hid hs5
 have HF5:=Lib.hid hf5
 have hwr2:IntKind.i64.wrap ((R.e:Int)+(s.length:Int))=(R.e:Int)+(s.length:Int):=IntWalk.i64_in _ (by omega)
 clear hd5 hm5 hf5 hs5 HWR
 go_wp2_with fail
 go_ret2
 have hA:=HAPP.out wv
 have hP1:=HF.out.pos
 have hR1:=HS5.out
 have hadd:=seg_add hR1 hP1 HFT.out
 rw [HBB1.out,HE1.out] at hadd
 have hnr:∀ k,(D1.write (nameL R1.head lp) ((R.e:Int) - (lp:Int)) s wv).foot k→¬ R1.foot k:=fun k hk hk2=>by
  rcases HF5.out k hk with h | h
  · exact HW1.out.ap k h hk2
  · have h1:=HW1.out.seg.lt hk2
    have h2:=HB4.out.size
    omega
 have hm5:Mod (fun k=>D.foot k∨R.foot k) w w5:=mod_over HM3.out HM5.out (fun k hk=>(HFD.out k hk).imp_left .inl)
 have hs1:=HM3.out.size
 have hs2:=HB4.out.size
 refine ⟨rfl,hm5.setCell (.inl (.inr (.inl rfl))) _,_,R1.add s,⟨hadd,HD5.out.mod (mod_set _ _ _ _) (fun k hk e=>hnr k hk (.inl (e.trans HBB1.out.symm))),HW1.out.db.trans hA.2.1.blk.symm,hnr,hA.2.1.ok,hA.2.1.only⟩,?_,?_,fun k hk=>?_,fun k hk=>HFS.out k hk⟩
 · exact AppOk.join hA.2.1 hA.2.2.1 hA.2.2.2 HF.out
 ·
  unfold SegD.add
  have:=HF.out.same
  generalize hn:R1.n=n1 at *
  generalize hp:R1.pv=p1 at *
  rw [this]
 · rcases HF5.out k hk with h | h
   · exact HFD.out k h
   · right; omega
def SegD.syncK (R:SegD) (k:Nat):List (List UInt8):=if R.synced < R.e then ((List.range k).filter fun i=>decide (R.synced < R.b+i * R.size+R.size)).map fun i=>nameL R.head (R.b+i * R.size) else []
def SegD.syncL (R:SegD):List (List UInt8):=R.syncK R.n
theorem syncK_yes {R:SegD} {k:Nat} (h1:R.synced < R.b+k * R.size+R.size) (h2:R.synced < R.e):R.syncK (k+1)=R.syncK k++[nameL R.head (R.b+k * R.size)]:=by
 unfold SegD.syncK
 rw [if_pos h2,if_pos h2,List.range_succ,List.filter_append,List.map_append]
 simp [h1]
theorem syncK_no {R:SegD} {k:Nat} (h:¬ (R.synced < R.b+k * R.size+R.size∧R.synced < R.e)):R.syncK (k+1)=R.syncK k:=by
 unfold SegD.syncK
 by_cases h2:R.synced < R.e
 · rw [if_pos h2,if_pos h2,List.range_succ,List.filter_append]
   have:¬ R.synced < R.b+k * R.size+R.size:=fun h1=>h ⟨h1,h2⟩
   simp [this]
 · rw [if_neg h2,if_neg h2]
theorem syncK_len (R:SegD) (k:Nat):(R.syncK k).length≤k:=by
 unfold SegD.syncK
 split
 · rw [List.length_map]
   exact Nat.le_trans (List.length_filter_le _ _) (by simp)
 · exact Nat.zero_le _
theorem syncL_nil {base:Nat} {w:World} {R:SegD} (h:SegAt base w R):(R.syncL=[]→R.synced=R.e)∧(R.synced=R.e→R.syncL=[]):=by
 refine ⟨fun hh=>?_,fun hh=>by unfold SegD.syncL SegD.syncK; rw [if_neg (by omega)]⟩
 have h1:=h.syn
 rcases Nat.lt_or_ge R.synced R.e with h2 | h2
 ·
  exfalso
  rcases Nat.eq_zero_or_pos R.n with h0 | h0
  · obtain ⟨e1,e2⟩:=h.empty h0
    have:R.e=0:=by unfold SegD.e; rw [e1,e2]; rfl
    omega
  ·
   obtain ⟨m,hm⟩:∃ m,R.n=m+1:=⟨R.n - 1,by omega⟩
   have hl:=(h.long h0).2.1
   have hlt:R.synced < R.b+m * R.size+R.size:=by
    rw [hm,Nat.add_mul] at hl
    unfold SegD.e at h2
    omega
   unfold SegD.syncL at hh
   rw [hm,syncK_yes hlt h2] at hh
   simp at hh
 · omega
theorem lasts_find (D:DiskD) (l:List (List UInt8)) (wv:Value) (m:List UInt8):(D.lasts l wv).find m=(D.find m).map fun f=>if m∈l then { f with img:=f.now } else f:=by
 unfold DiskD.lasts DiskD.find
 simp only
 induction D.files with
 | nil=>rfl
 | cons p t ih =>
   rw [List.map_cons,List.find?_cons,List.find?_cons]
   have e1:(if p.1∈l then (p.1,({ p.2 with img:=p.2.now }:FileD)) else p).1=p.1:=by split <;> rfl
   rw [e1]
   by_cases hp:p.1=m
   · rw [show (p.1 == m)=true by simp [hp]]
     simp only [Option.map_some]
     subst hp
     split <;> rfl
   · rw [show (p.1 == m)=false by simp [hp]]
     exact ih
def SegD.syncD (R:SegD) (D:DiskD) (wv:Value):DiskD:=if R.syncL=[] then D else D.lasts R.syncL wv
theorem syncD_find (R:SegD) (D:DiskD) (wv:Value) (m:List UInt8):∃ g:FileD→FileD,(R.syncD D wv).find m=(D.find m).map g∧∀ f,(g f).blk=f.blk∧(g f).now=f.now:=by
 unfold SegD.syncD
 split
 · exact ⟨id,by simp,fun f=>⟨rfl,rfl⟩⟩
 · exact ⟨_,lasts_find _ _ _ _,fun f=>by split <;> exact ⟨rfl,rfl⟩⟩
theorem bytes_of_find {D D':DiskD} {m:List UInt8} {g:FileD→FileD} (h:D'.find m=(D.find m).map g) (hg:∀ f,(g f).blk=f.blk∧(g f).now=f.now):D'.bytes m=D.bytes m∧(D'.find m).isSome=(D.find m).isSome:=by
 unfold DiskD.bytes
 rw [h]
 cases hf:D.find m with
 | none=>exact ⟨rfl,rfl⟩
 | some f=>exact ⟨(hg f).2,rfl⟩
theorem bars_all {D:DiskD} {l:List (List UInt8)} (hq:Quiet D) (h:∀ m∈l,(D.find m).isSome=true):D.bars l=0:=by
 unfold DiskD.bars
 rw [hq.up,show (l.all fun n=>(D.find n).isSome)=true from List.all_eq_true.2 h]; rfl
theorem seg_sync {base:Nat} {w:World} {R:SegD} (h:SegAt base w R):SegAt base (w.setCell ⟨R.blk,5,none⟩ (.int .i64 (R.e:Int))) { R with synced:=R.e } :=
 ⟨heap_set1 h.cells _ rfl,ownsRow_mod (M:=fun k=>k=R.blk) h.row (mod_set _ _ _ _) (fun k hk e=>h.apart k hk e),h.apart,h.above,h.sz,h.empty,h.long,h.mult,Nat.le_refl _,h.hd⟩
theorem sync_any {base:Nat} {D:DiskD} {R:SegD} (w:World) (hT:TabB base w) (hW:Whole base w D R) (hq:Quiet D) (hbase:base≤w.heap.size) (hwl:D.waits.length≤1048576) (hn:R.n≤1048576) :
 Calls Tryz.prog 111 #[.pointer (some ⟨R.blk,0,none⟩)] w fun e w'=>e=.returned (.int .i64 0)∧∃ wv,wv.ownBlock=D.wv.ownBlock∧Whole base w' (R.syncD D wv) { R with synced:=R.e }∧Mod (fun k=>D.foot k∨R.foot k) w w':=by
 obtain ⟨i0,hi0,hz0,hz1,hz2⟩:=info_parts (show (Tryz.prog.info? 9).map (fun i=>(i.zero,i.size,i.bytes))=some (some (.string ⟨#[]⟩),1,16) by kernel_rfl)
 obtain ⟨a,cp,hv⟩:=hW.seg.pv_nil
 have c0:w.cell? ⟨R.blk,0,none⟩=some (.pointer (some ⟨D.blk,0,none⟩)):=hW.seg.cell 0 _ (by rw [← hW.db]; rfl)
 have c3:w.cell? ⟨R.blk,3,none⟩=some (.slice a R.n cp):=hW.seg.cell 3 _ (by show some R.pv=_; rw [hv])
 have CD:=Lib.hid (down_any w hW.dsk)
 rw [hq.up] at CD
 have HW:=Lib.hid hW
 have HT:=Lib.hid hT
 have HQ:=Lib.hid hq
 have HV:=Lib.hid hv
 have hel:=hW.seg.e_le
 have hsy:=hW.seg.syn
 obtain ⟨hs1,hs2⟩:=hW.seg.sz
 have HNN:Hid (R.n≤1048576):=hn
 clear hW hT hq hv hn
 go_enter Tryz.func111,Tryz.ntmps111
 go_wp2_with fail
 refine CD.out.mono ?_
 rintro e w1 ⟨rfl,rfl⟩
 clear CD
 go_wp2_with fail
 clear c0 c3
 go_loopw [3,21] (fun v i wr=>∃ k:Nat,k≤R.n∧i=.int .i64 k∧Hid (wr.ownsRow w1.heap.size 9 1 v (R.syncK k).length ((R.syncK k).map fun l=>.string (S l)))∧Hid (Below w1.heap.size w1 wr)) (fun _ i _=>R.n - (intOf i).toNat)
 case atStart=>exact ⟨0,Nat.zero_le _,rfl,(by
  have:R.syncK 0=[]:=by unfold SegD.syncK; split <;> rfl
  rw [this]; exact ⟨rfl,.inl ⟨rfl,rfl⟩⟩),Below.refl _ _⟩
 case round =>
  obtain ⟨k,hk,rfl,HTX,HB⟩:=hrel
  have hWr:Whole base wr D R:=HW.out.below HB.out
  have c2:wr.cell? ⟨R.blk,2,none⟩=some (.int .i64 (R.size:Int)):=hWr.seg.cell 2 _ rfl
  have c4:wr.cell? ⟨R.blk,4,none⟩=some (.int .i64 (R.e:Int)):=hWr.seg.cell 4 _ rfl
  have c5:wr.cell? ⟨R.blk,5,none⟩=some (.int .i64 (R.synced:Int)):=hWr.seg.cell 5 _ rfl
  have hkl:=syncK_len R k
  by_cases hlt:k < R.n
  ·
   obtain ⟨g,cap,hp,hnc,hc⟩:=hWr.seg.place k hlt
   have hp2:=HV.out.symm.trans hp
   injection hp2 with e1 e2 e3
   subst e1
   have hpb:R.b+k * R.size≤99999999:=by
    have h1:=(hWr.seg.long (by omega)).2.2
    have h2:k * R.size≤(R.n - 1) * R.size:=Nat.mul_le_mul_right _ (by omega)
    omega
   have hn2:=HNN.out
   have hwa:IntKind.i64.wrap (((R.b+k * R.size:Nat):Int)+(R.size:Int))=((R.b+k * R.size:Nat):Int)+(R.size:Int):=IntWalk.i64_in _ (by omega)
   have hsb:R.b+k * R.size+R.size≤100004095:=by omega
   have HNM:=Lib.hid (fun (w2:World) (hb:Below wr.heap.size wr w2)=>name_any w2 (hWr.seg.below hb) (HT.out.below (HB.out.trans (hb.mono HB.out.size))).tab (R.b+k * R.size) hpb)
   by_cases hc1:R.synced < R.b+k * R.size+R.size∧R.synced < R.e
   ·
    obtain ⟨hc1,hc2⟩:=hc1
    have HS:=Lib.hid (syncK_yes hc1 hc2)
    clear hWr hp e2 e3 hnc HV
    generalize hpl:R.b+k * R.size=pl at *
    generalize nameL R.head pl=nm at *
    generalize R.size=sz at *
    generalize R.e=ee at *
    generalize R.synced=sy at *
    have hc1i:(sy:Int) < (pl:Int)+(sz:Int):=by omega
    have hc1d:decide ((sy:Int) < (pl:Int)+(sz:Int))=true:=decide_eq_true hc1i
    go_wp2_with fail
    go_quiet (fail)
    go_wp2_with fail
    refine (HNM.out (wr.drewN nq) (((Drawn.refl wr).drewN nq).below _)).mono ?_
    rintro e w3 ⟨rfl,hb3⟩
    have HB3:=Lib.hid (HB.out.trans ((((Drawn.refl wr).drewN nq).below wr.heap.size).trans hb3 |>.mono HB.out.size))
    have HTX3:Hid (w3.ownsRow w1.heap.size 9 1 u3 (R.syncK k).length ((R.syncK k).map fun l=>.string (S l))):=ownsRow_mod (M:=fun _=>False) HTX.out (Mod.of_below ((((Drawn.refl wr).drewN nq).below wr.heap.size).trans hb3)) (fun _ _ h=>h)
    clear hb3 HTX HNM
    go_wp2_with (at_builtin; refine wpList_append_own _ rfl (.tmp 47) (.tmp 51) 31 rfl w1.heap.size 9 i0 (.string ⟨#[]⟩) 1 16 Tryz.underlying31 hi0 hz0 hz1 hz2 rfl (by decide) _ (R.syncK k).length ((R.syncK k).map fun l=>.string (S l)) rfl (HTX3.out.alloc _) ⟨w3.heap.size,0,none⟩ 1 1 [.string (S nm)] rfl rfl ?c1 ?c2 ?c3 ?c4 ?c5 ?_)
    case c1=>exact cell_one_new _ _ _
    case c2=>intro u hu; simp at hu; subst hu; rfl
    case c3=>unfold maxLen; omega
    case c4=>omega
    case c5=>have:=HB3.out.size; simp; omega
    intro v' w4 hown' hgrow _
    have HO4:Hid (w4.ownsRow w1.heap.size 9 1 v' (R.syncK (k+1)).length ((R.syncK (k+1)).map fun l=>.string (S l))):=by
     show w4.ownsRow _ _ _ _ (R.syncK (k+1)).length _
     rw [HS.out,List.map_append,List.length_append]; exact hown'
    have hrow:∀ g,u3.ownBlock=some g→w1.heap.size≤g:=ownBlock_of_own HTX3.out
    have HB4:Hid (Below w1.heap.size w1 w4):=(HB3.out.alloc HB3.out.size _).grown hgrow (by have:=HB3.out.size; simp; omega) hrow
    clear hown' hgrow HTX3 hrow
    go_wp2_with fail
    go_roundw
    case rel=>exact ⟨k+1,by omega,by go_num,HO4.out,HB4.out⟩
    case measure=>simp [intOf]; omega
   ·
    have HS:=Lib.hid (syncK_no hc1)
    clear hWr hp e2 e3 hnc HV
    generalize hpl:R.b+k * R.size=pl at *
    generalize R.size=sz at *
    generalize R.e=ee at *
    generalize R.synced=sy at *
    by_cases hc2:sy < pl+sz
    ·
     have hc1i:(sy:Int) < (pl:Int)+(sz:Int):=by omega
     have hc1d:decide ((sy:Int) < (pl:Int)+(sz:Int))=true:=decide_eq_true hc1i
     have hc3:¬ sy < ee:=fun h=>hc1 ⟨hc2,h⟩
     clear hc1
     go_wp2_with fail
     go_quiet (fail)
     go_wp2_with fail
     go_roundw
     case rel=>exact ⟨k+1,by omega,by go_num,by rw [HS.out]; exact HTX.out,HB.out.trans ((((Drawn.refl wr).drewN nq).below _))⟩
     case measure=>simp [intOf]; omega
    ·
     have hc1i:¬ (sy:Int) < (pl:Int)+(sz:Int):=by omega
     have hc1d:decide ((sy:Int) < (pl:Int)+(sz:Int))=false:=decide_eq_false hc1i
     clear hc1
     go_wp2_with fail
     go_quiet (fail)
     go_wp2_with fail
     go_roundw
     case rel=>exact ⟨k+1,by omega,by go_num,by rw [HS.out]; exact HTX.out,HB.out.trans ((((Drawn.refl wr).drewN nq).below _))⟩
     case measure=>simp [intOf]; omega
  ·
   obtain rfl:k=R.n:=by omega
   have hsl:R.syncK R.n=R.syncL:=rfl
   rw [hsl] at HTX hkl
   obtain ⟨av,cv,hvv,hrow,hlen⟩:=Row1.of_own HTX.out
   subst hvv
   have c0:wr.cell? ⟨R.blk,0,none⟩=some (.pointer (some ⟨D.blk,0,none⟩)):=hWr.seg.cell 0 _ (by rw [← hWr.db]; rfl)
   by_cases hnil:R.syncL=[]
   ·
    have hse:=(syncL_nil hWr.seg).1 hnil
    have HFIN:Hid (Whole base wr (R.syncD D D.wv) { R with synced:=R.e }):=by
     have h1:R.syncD D D.wv=D:=by unfold SegD.syncD; rw [if_pos hnil]
     show Whole base wr (R.syncD D D.wv) _
     rw [h1,← hse]; exact hWr
    rw [hnil] at hkl ⊢
    clear hWr
    go_wp2_with fail
    go_ret
    exact ⟨rfl,D.wv,rfl,HFIN.out,Mod.of_below HB.out⟩
   ·
    have hln:¬ (R.syncL).length=0:=by simpa using hnil
    have hDW:=hWr.dsk
    have hfd:∀ m∈R.syncL,(D.find m).isSome=true:=fun m hm=>by
     unfold SegD.syncL SegD.syncK at hm
     split at hm
     · obtain ⟨i,hi,rfl⟩:=List.mem_map.1 hm
       rw [List.mem_filter,List.mem_range] at hi
       exact (hWr.ok i hi.1).2
     · cases hm
    have hbars:=bars_all HQ.out hfd
    have hE:D.syncE R.syncL=0:=by unfold DiskD.syncE; rw [if_pos hbars,HQ.out.done]
    have hD:∀ wv,D.sync R.syncL wv=R.syncD D wv:=fun wv=>by
     unfold DiskD.sync SegD.syncD
     rw [if_pos hbars,if_neg (by rw [HQ.out.left]; decide),if_neg hnil,HQ.out.burn]
    have HSY:=Lib.hid (DskW.sync_any av cv R.syncL (by have:=HNN.out; omega) wr hWr.dsk hrow (fun ad had hf=>by
     have h1:=ownBlock_of_own HTX.out ad.block (by
      rcases HTX.out.2 with ⟨e,_⟩ | ⟨g,cap,cur,e,_⟩
      · rw [had] at e; cases e
      · rw [had] at e ⊢; injection e with e; injection e with e; rw [e]; rfl)
     have h2:=HW.out.dsk.lt hf
     omega) hwl)
    rw [hE] at HSY
    have HDD:=Lib.hid hD
    have HWr:=Lib.hid hWr
    clear hWr hDW hfd hbars hE hD HTX hrow hlen c2 c4 c5
    go_wp2_with fail
    refine HSY.out.mono ?_
    rintro e w2 ⟨wv,rfl,hwv,hd2,hm2⟩
    rw [HDD.out] at hd2
    have hs2:SegAt base w2 R:=HWr.out.seg.mod hm2 (fun k hk hk2=>HWr.out.ap k hk2 hk)
    have c42:w2.cell? ⟨R.blk,4,none⟩=some (.int .i64 (R.e:Int)):=hs2.cell 4 _ rfl
    have c52:w2.cell? ⟨R.blk,5,none⟩=some (.int .i64 (R.synced:Int)):=hs2.cell 5 _ rfl
    have hf2:w2.frozen? ⟨R.blk,5,none⟩=false:=by
     unfold World.frozen?; rw [show w2.heap[(⟨R.blk,5,none⟩:Addr).block]?=_ from hs2.cells]; rfl
    have HD2:=Lib.hid hd2
    have HS2:=Lib.hid hs2
    have HM2:=Lib.hid hm2
    clear hd2 hs2 hm2 HSY
    go_wp2_with fail
    go_ret
    have hft:∀ k,(R.syncD D wv).foot k↔D.foot k:=fun k=>by
     unfold SegD.syncD
     rw [if_neg hnil]
     exact lasts_foot hwv k
    have hblk:(R.syncD D wv).blk=D.blk:=by unfold SegD.syncD; split <;> rfl
    refine ⟨rfl,wv,hwv,⟨seg_sync HS2.out,HD2.out.mod (mod_set _ _ _ _) (fun k hk e=>HW.out.ap k ((hft k).1 hk) (.inl e)),HW.out.db.trans hblk.symm,fun k hk hk2=>HW.out.ap k ((hft k).1 hk) hk2,fun i hi=>?_,fun p hp hne=>?_⟩,?_⟩
    · obtain ⟨g,h1,h2⟩:=syncD_find R D wv (nameL R.head (R.b+i * R.size))
      obtain ⟨h3,h4⟩:=bytes_of_find h1 h2
      obtain ⟨h5,h6⟩:=HW.out.ok i hi
      exact ⟨h3.trans h5,h4.trans h6⟩
    · obtain ⟨g,h1,h2⟩:=syncD_find R D wv (nameL R.head p)
      have:=HW.out.only p hp hne
      show (R.syncD D wv).find (nameL R.head p)=none
      rw [h1,this]; rfl
    · exact (((Mod.of_below HB.out).trans (mod_over (Mod.refl _ wr) HM2.out (fun k hk=>.inl (.inl hk)))).setCell (.inl (.inr (.inl rfl))) _)
end Go.Proofs.YtnoehodmmkioaaaGreatDoor.SegW
namespace Go.Proofs.YtnoehodmmkioaaaGreatDoor.DskW
open Go.RowKit Go.MapKept Go.Shelf OctMath
def anyR (v:Value):Option (DataW Unit×List MemPlace):=some (.lit (.bool true),[])
theorem rd_file {k:TypeId} (hk:Tryz.prog.underlying k=some .string) {x:MapEntry} {n:List UInt8} (h:x.key=.string (S n)) (hn:n.length≤maxLen):Go.WideElems.rd Tryz.prog k anyR x=some (.string n,.lit (.bool true)):=by
 have hs:(S n).size≤maxLen:=by rw [S_size]; exact hn
 have hkey:=WideMaps.keyOf_string_mk (P:=Tryz.prog) hk hs
 have hd:(S n).data.toList=n:=by simp [S]
 unfold Go.WideElems.rd anyR
 rw [h,hkey,hd]; rfl
theorem DiskAt.owns {base:Nat} {w:World} {D:DiskD} (h:DiskAt base w D) (hfl:D.files.length≤maxLen) (hnl:∀ p∈D.files,p.1.length≤maxLen) :
 ∃ D0:DataW Unit,w.ownsMap Tryz.prog 9 anyR D.mB D.files.length D0∧(∀ ss:List (List UInt8),ss.Perm (strKeys D0)→ss.Perm (D.files.map (·.1)))∧Maps.size D0=D.files.length:=by
 obtain ⟨es,c,hb,hst,hmap⟩:=h.map
 have hlen:es.size=D.files.length:=by have:=congrArg List.length hmap; simpa using this
 have hk:=Tryz.underlying9
 have hrg:es.toList.map (Go.WideElems.rg Tryz.prog 9 anyR)=D.files.map (fun p=>((Lit.string p.1,DataW.lit (.bool true)):Lit×DataW Unit)):=by
  have h1:es.toList.map (Go.WideElems.rg Tryz.prog 9 anyR)=(es.toList.map (fun e:MapEntry=>(e.key,e.val))).map (fun q=>Go.WideElems.rg Tryz.prog 9 anyR ⟨q.1,q.2,0⟩):=by
   rw [List.map_map]; rfl
  rw [h1,hmap,List.map_map]
  apply List.map_congr_left
  intro p hp
  exact Go.WideElems.rg_of (rd_file hk rfl (hnl p hp))
 refine ⟨_,⟨es,c,hb,⟨by omega,hst,fun x hx=>?_⟩,by omega,rfl⟩,fun ss hss=>?_,?_⟩
 · obtain ⟨p,hp,hkey,_⟩:=entry_file hmap hx
   exact ⟨_,rd_file hk hkey (hnl p hp)⟩
 ·
  refine hss.trans ?_
  show (((es.toList.map (Go.WideElems.rg Tryz.prog 9 anyR)).foldr DataW.insert []).map fun p=>strOf p.1).Perm _
  rw [hrg]
  refine ((Go.WideShapes.sorted_perm _).map _).trans ?_
  rw [List.map_map]
  exact List.Perm.refl _
 · show ((es.toList.map (Go.WideElems.rg Tryz.prog 9 anyR)).foldr DataW.insert []).length=_
   rw [(Go.WideShapes.sorted_perm _).length_eq,List.length_map,Array.length_toList]; exact hlen
theorem sortsK (m:Nat):AnyZ.SortsIn Tryz.prog Tryz.sortedZ_ren Fence.wide m :=
 ⟨fun blk off cap ss W hH hblk hsz=>callsIn_wide.2 (Tryz.slices_Sort_string blk off cap ss W hH hblk hsz),
  fun p cap W=>callsIn_wide.2 (Tryz.slices_Sort_string_none p cap W)⟩
def DiskD.names (D:DiskD):List (List UInt8):=(D.files.map (·.1)).mergeSort (fun x y=>decide (x≤y))
theorem keys_any (m:Option Nat) (w:World) :
 Calls Tryz.prog 146 #[.map m] w fun e w'=>e=.returned (.func (.func 197) #[] #[.pointer (some ⟨w.heap.size,0,none⟩)])∧w'=w.alloc (.cells #[.map m] 75) :=
 (callsIn_wide (n:=6)).1 (AnyZ.keys_in Tryz.keysZ Fence.wide 6 trivial rfl m w)
theorem sorted_keys {base:Nat} {D:DiskD} (Bm:Nat) (w:World) (h:DiskAt base w D) (hfl:D.files.length≤1048576) (hnl:∀ p∈D.files,p.1.length≤maxLen) (hBl:Bm < w.heap.size) (hBm:w.cell? ⟨Bm,0,none⟩=some (.map (some D.mB))) :
 Calls Tryz.prog 104 #[.func (.func 197) #[] #[.pointer (some ⟨Bm,0,none⟩)]] w fun e w'=>∃ v:Value,e=.returned v ∧
  w'.ownsRow w.heap.size 9 1 v D.names.length (D.names.map fun x=>.string (S x))∧Below w.heap.size w w':=by
 obtain ⟨D0,hown,hperm,hsize⟩:=h.owns (by unfold maxLen; omega) hnl
 refine (callsIn_wide (n:=6)).1 ?_
 have:=AnyZ.sorted_in Tryz.sortedZ Fence.wide 6 trivial trivial trivial trivial rfl (by omega) (sortsK _) (enters_of Tryz.func168 (by kernel_rfl) rfl) 197 #[.pointer (some ⟨Bm,0,none⟩)] trivial (enters_of Tryz.func197 (by kernel_rfl) rfl) (fun ss=>ss.Perm (strKeys D0)) (Maps.size D0) (by rw [hsize]; unfold maxLen; omega) (by rw [hsize]; omega) w
  (AnyZ.keys_gives Tryz.keysZ1 Fence.wide 3 trivial rfl (by omega) Bm D.mB D.files.length D0 w hBl hBm hown)
 refine this.mono ?_
 rintro e w' ⟨v,ss,rfl,hS,hrow,_,hb⟩
 refine ⟨v,rfl,?_,hb⟩
 have hms:ss.mergeSort (fun x y=>decide (x≤y))=D.names:=mergeSort_of_perm (hperm ss hS)
 have hlen:ss.length=D.names.length:=by rw [← hms,List.length_mergeSort]
 rw [hms,hlen] at hrow
 exact hrow
open Go.Sort
def lacks (hd x:List UInt8):Bool:=!(Lib.hasPrefix x hd)
theorem lacks_any (bx:Nat) (hd x:List UInt8) (w:World) (hb:w.cell? ⟨bx,0,none⟩=some (.string (S hd))) :
 FnGives Tryz.prog 148 #[.pointer (some ⟨bx,0,none⟩)] #[encStr x] (.bool (lacks hd x)) w:=by
 show Calls Tryz.prog 148 #[.string (S x),.pointer (some ⟨bx,0,none⟩)] w _
 have c:=Tryz.strings_HasPrefix (S x) (S hd) w
 rw [show Lib.hasPrefix (S x).data.toList (S hd).data.toList=Lib.hasPrefix x hd by simp [S]] at c
 have e:Hid (lacks hd x=!(Lib.hasPrefix x hd)):=rfl
 generalize Lib.hasPrefix x hd=q at *
 generalize lacks hd x=r at *
 go_enter Tryz.func148,Tryz.ntmps148
 go_wp2_with (go_at_call 149; refine c.mono ?_; rintro e w' ⟨rfl,rfl⟩)
 go_ret
 exact ⟨by rw [e.out]; rfl,0,rfl⟩
theorem ownsRow_deleted {W:World} {base g cp q:Nat} {e:TypeId} {cur:Array Value} (ts zs:List (List UInt8)) (n:Nat) (hbase:base≤g) (hb:W.heap[g]?=some (.cells cur e (0,0))) (hn:ts.length+zs.length=n) (h1:n≤cp) (h2:cp≤maxLen) (h3:cur.size=cp * 1) :
 (putRow encStr (Sort.ahead W q) g 0 (ts++zs).toArray).ownsRow base e 1 (.slice (some ⟨g,0,none⟩) ts.length cp) ts.length (ts.map encStr):=by
 have h:=heap_sorted (n:=q) (os:=#[]) (ts++zs).toArray hb
 rw [grow_empty] at h
 refine ⟨by simp,.inr ⟨g,cp,_,rfl,hbase,h,by omega,h2,by simp [putCells,h3],?_⟩⟩
 have h4:=take_putCells cur (ts++zs) (by rw [List.length_append]; omega)
 have h5:=congrArg (List.take ts.length) h4
 rw [List.take_take,Nat.min_eq_left (by rw [List.length_append]; omega)] at h5
 rw [Nat.mul_one,h5,List.map_append,List.take_append_of_le_length (by simp),List.take_of_length_le (by simp)]
def DiskD.list (D:DiskD) (hd:List UInt8):List (List UInt8):=D.names.filter fun x=>Lib.hasPrefix x hd
theorem filter_lacks (l:List (List UInt8)) (hd:List UInt8):(l.filter fun x=>!lacks hd x)=l.filter fun x=>Lib.hasPrefix x hd:=by
 congr 1; funext x; unfold lacks; rw [Bool.not_not]
theorem index_none (bx:Nat) (w:World) :
 Calls Tryz.prog 198 #[.slice none 0 0,.func (.func 148) #[] #[.pointer (some ⟨bx,0,none⟩)]] w fun e w'=>e=.returned (.int .i64 (-1))∧Below w.heap.size w w':=by
 go_enter Tryz.func198,Tryz.ntmps198
 go_wp2_with fail
 go_loopw [8] (fun i wr=>i=.int .i64 0∧Hid (Below w.heap.size w wr)) (fun i _=>0)
 case atStart=>exact ⟨rfl,Below.refl _ _⟩
 case round =>
  obtain ⟨rfl,HB⟩:=hrel
  go_wp2_with fail
  go_ret
  exact ⟨rfl,HB.out⟩
theorem deleted_names (bx base:Nat) (hd:List UInt8) (l:List (List UInt8)) (v:Value) (w:World) (hown:w.ownsRow base 9 1 v l.length (l.map encStr)) (hbx:bx < base) (hbl:base≤w.heap.size) (hb:w.cell? ⟨bx,0,none⟩=some (.string (S hd))) :
 Calls Tryz.prog 147 #[v,.func (.func 148) #[] #[.pointer (some ⟨bx,0,none⟩)]] w fun e w'=>∃ v':Value,e=.returned v' ∧
  w'.ownsRow base 9 1 v' (l.filter fun x=>Lib.hasPrefix x hd).length ((l.filter fun x=>Lib.hasPrefix x hd).map encStr)∧Below base w w':=by
 have eg:∀ args w,(callFunc 148 args).run Tryz.prog w=.ok (.enter 148 args) w:=enters_of Tryz.func148 (by kernel_rfl) rfl
 have hbxl:bx < w.heap.size:=by omega
 rcases hown.2 with ⟨rfl,h0⟩ | ⟨g,cp,cur,rfl,hg,hgb,hnc,hcm,hcs,hct⟩
 ·
  obtain rfl:l=[]:=List.length_eq_zero_iff.1 h0
  have c:=Lib.hid (index_none bx w)
  clear hown hb h0 eg
  go_enter Tryz.func147,Tryz.ntmps147
  go_wp2_with fail
  refine c.out.mono ?_
  rintro e w2 ⟨rfl,hb2⟩
  have HB:=Lib.hid hb2
  clear hb2 c
  go_wp2_with fail
  go_ret
  exact ⟨_,rfl,⟨rfl,.inl ⟨rfl,rfl⟩⟩,HB.out.mono hbl⟩
 ·
  have hgl:g < w.heap.size:=(Array.getElem?_eq_some_iff.1 hgb).1
  have hne:bx≠g:=by omega
  rw [Nat.mul_one] at hct
  have hH:=holds_of_block hgb hct
  have hcon:=AnyE.slices_DeleteFunc Tryz.delZ encStr (fun _=>rfl) (lacks hd) 148 #[.pointer (some ⟨bx,0,none⟩)] eg [] Tryz.zeroValue9 g 0 cp l.toArray w
   (fun W x hbe=>lacks_any bx hd x W (by rw [hbe.cell hbxl]; exact hb))
   (fun n os dk x _=>lacks_any bx hd x _ (by
    unfold sortWorld
    rw [cell?_grow _ _ _ (by show bx < (putRow _ _ _ _ _).heap.size; rw [size_putRow]; exact hbxl),cell?_putRow_other _ _ g 0 _ _ (Or.inl hne)]
    exact hb)) hH (by simp; unfold maxLen at hcm; omega) (by simpa using hnc)
  change Calls Tryz.prog 147 _ _ _ at hcon
  refine Calls.mono (by simpa using hcon) ?_
  rintro e w' ⟨rfl,q,rfl⟩
  rw [filter_lacks]
  have hfl:(l.filter fun x=>Lib.hasPrefix x hd).length≤l.length:=List.length_filter_le _ _
  have hz:l.toArray.size=l.length:=by simp
  refine ⟨_,rfl,?_,?_⟩
  · exact ownsRow_deleted _ _ l.length hg hgb (by rw [List.length_replicate]; omega) hnc hcm hcs
  · have hgr:=grownBy_sorted (w:=w) (g:=g) (n:=q) (os:=#[]) ((l.filter fun x=>Lib.hasPrefix x hd)++List.replicate (l.length - (l.filter fun x=>Lib.hasPrefix x hd).length) []).toArray
    rw [grow_empty] at hgr
    exact ⟨hgr.os,hgr.tape,hgr.output,hgr.size,fun k hk=>hgr.block k (by omega) (by intro e; cases e; omega)⟩
theorem list_any {base:Nat} {D:DiskD} (hd:List UInt8) (w:World) (h:DiskAt base w D) (hfl:D.files.length≤1048576) (hnl:∀ p∈D.files,p.1.length≤maxLen) :
 Calls Tryz.prog 88 #[.pointer (some ⟨D.blk,0,none⟩),.string (S hd)] w fun e w'=>∃ v:Value,e=.returned v ∧
  w'.ownsRow w.heap.size 9 1 v (D.list hd).length ((D.list hd).map encStr)∧Below w.heap.size w w':=by
 obtain ⟨w1,hw1⟩:∃ w1:World,w1=w.alloc (.cells #[.string (S hd)] 9):=⟨_,rfl⟩
 have b1:Below w.heap.size w w1:=by rw [hw1]; exact (Below.refl _ _).alloc (Nat.le_refl _) _
 have s1:w1.heap.size=w.heap.size+1:=by rw [hw1]; simp
 have hbox1:w1.cell? ⟨w.heap.size,0,none⟩=some (.string (S hd)):=by rw [hw1,World.cell?_alloc_new]; rfl
 have h1:DiskAt base w1 D:=h.below b1
 have c2:w1.cell? ⟨D.blk,2,none⟩=some (.map (some D.mB)):=h1.cell 2 _ rfl
 have k1:=Lib.hid (keys_any (some D.mB) w1)
 obtain ⟨w2,hw2⟩:∃ w2:World,w2=w1.alloc (.cells #[.map (some D.mB)] 75):=⟨_,rfl⟩
 have b2:Below w1.heap.size w1 w2:=by rw [hw2]; exact (Below.refl _ _).alloc (Nat.le_refl _) _
 have s2:w2.heap.size=w1.heap.size+1:=by rw [hw2]; simp
 have hbox2:w2.cell? ⟨w1.heap.size,0,none⟩=some (.map (some D.mB)):=by rw [hw2,World.cell?_alloc_new]; rfl
 have h2:DiskAt base w2 D:=h1.below b2
 have hbox3:w2.cell? ⟨w.heap.size,0,none⟩=some (.string (S hd)):=by rw [b2.cell (by show w.heap.size < _; omega)]; exact hbox1
 have k2:=Lib.hid (sorted_keys w1.heap.size w2 h2 hfl hnl (by omega) hbox2)
 rw [← hw2] at k1
 have B2:Hid (Below w.heap.size w w2):=b1.trans (b2.mono (by omega))
 have BX:=Lib.hid hbox3
 have B1:=Lib.hid hw1
 have HS1:=Lib.hid s1
 have HS2:=Lib.hid s2
 clear h h1 h2 hbox2 b2 hw2 hbox3 s1 s2 b1 hbox1 hw1
 go_enter Tryz.func88,Tryz.ntmps88
 go_upto_region 1 with fail
 rw [← B1.out]
 go_wp2_with fail
 refine k1.out.mono ?_
 rintro e wz ⟨rfl,rfl⟩
 go_wp2_with fail
 refine k2.out.mono ?_
 rintro e w3 ⟨v,rfl,hrow,hb3⟩
 have HR:=Lib.hid hrow
 have HB:=Lib.hid hb3
 have k3:=Lib.hid (deleted_names w.heap.size wz.heap.size hd D.names v w3 hrow (by have:=HS1.out; have:=HS2.out; omega) hb3.size (by rw [hb3.cell (by have:=HS1.out; have:=HS2.out; show w.heap.size < _; omega)]; exact BX.out))
 clear hrow hb3
 go_wp2_with fail
 refine k3.out.mono ?_
 rintro e w4 ⟨v',rfl,hrow,hb4⟩
 have HR4:=Lib.hid hrow
 have HB4:=Lib.hid hb4
 clear hrow hb4
 go_wp2_with fail
 go_ret
 have q1:=HS1.out
 have q2:=HS2.out
 exact ⟨_,rfl,by obtain ⟨h1,h2⟩:=HR4.out; exact ⟨h1,h2.imp_right fun ⟨g,cp,cur,a,b,c⟩=>⟨g,cp,cur,a,Nat.le_trans (by omega) b,c⟩⟩,B2.out.trans ((HB.out.trans HB4.out).mono (by omega))⟩
end Go.Proofs.YtnoehodmmkioaaaGreatDoor.DskW
namespace Go.Proofs.YtnoehodmmkioaaaGreatDoor.SegW
open Go.RowKit OctMath DskW
theorem num_mono:∀ (a b:List UInt8) (x y:Nat),a.length=b.length→(∀ c∈a,dig c=true)→(∀ c∈b,dig c=true)→x < y→numFrom x a < numFrom y b:=by
 intro a
 induction a with
 | nil =>
   intro b x y hl _ _ h
   cases b with
   | nil=>exact h
   | cons _ _=>cases hl
 | cons c a ih =>
   intro b x y hl ha hb h
   cases b with
   | nil=>cases hl
   | cons d b =>
     have h1:=ha c (.head _)
     have h2:=hb d (.head _)
     unfold dig at h1 h2
     simp only [Bool.and_eq_true,decide_eq_true_eq] at h1 h2
     show numFrom (x * 10+(c.toNat - 48)) a < numFrom (y * 10+(d.toNat - 48)) b
     refine ih b _ _ (by simpa using hl) (fun c hc=>ha c (.tail _ hc)) (fun c hc=>hb c (.tail _ hc)) ?_
     omega
theorem num_lex:∀ (a b:List UInt8) (z:Nat),a.length=b.length→(∀ c∈a,dig c=true)→(∀ c∈b,dig c=true)→a < b→numFrom z a < numFrom z b:=by
 intro a
 induction a with
 | nil =>
   intro b z hl _ _ h
   cases b with
   | nil=>exact absurd h (List.not_lt_nil _)
   | cons _ _=>cases hl
 | cons c a ih =>
   intro b z hl ha hb h
   cases b with
   | nil=>cases hl
   | cons d b =>
     have h1:=ha c (.head _)
     have h2:=hb d (.head _)
     unfold dig at h1 h2
     simp only [Bool.and_eq_true,decide_eq_true_eq] at h1 h2
     show numFrom (z * 10+(c.toNat - 48)) a < numFrom (z * 10+(d.toNat - 48)) b
     rcases List.cons_lt_cons_iff.1 h with h9 | ⟨rfl,h9⟩
     · have:=UInt8.lt_iff_toNat_lt.1 h9
       exact num_mono a b _ _ (by simpa using hl) (fun c hc=>ha c (.tail _ hc)) (fun c hc=>hb c (.tail _ hc)) (by omega)
     · exact ih b _ (by simpa using hl) (fun c hc=>ha c (.tail _ hc)) (fun c hc=>hb c (.tail _ hc)) h9
theorem app_lt (h a b:List UInt8):h++a < h++b↔a < b:=by
 induction h with
 | nil=>exact Iff.rfl
 | cons c h ih =>
   rw [List.cons_append,List.cons_append,List.cons_lt_cons_iff,ih]
   constructor
   · rintro (h | ⟨_,h⟩)
     · exact absurd h (UInt8.lt_irrefl _)
     · exact h
   · exact fun h=>.inr ⟨rfl,h⟩
theorem place_parts {head x:List UInt8} {p:Nat} (h:placeL head x=some p):∃ ds,x=head++ds∧ds.length=8∧(∀ c∈ds,dig c=true)∧numL ds=p:=by
 unfold placeL at h
 split at h
 ·
  rename_i h1
  obtain ⟨h2,h3,h4⟩:=h1
  unfold Lib.hasPrefix at h2
  rw [List.isPrefixOf_iff_prefix] at h2
  obtain ⟨t,rfl⟩:=h2
  rw [List.drop_left] at h3 h4 h
  exact ⟨t,rfl,h3,h4,Option.some.inj h⟩
 · cases h
theorem place_lex {head x y:List UInt8} {p q:Nat} (hx:placeL head x=some p) (hy:placeL head y=some q) (h:x < y):p < q:=by
 obtain ⟨a,rfl,a1,a2,rfl⟩:=place_parts hx
 obtain ⟨b,rfl,b1,b2,rfl⟩:=place_parts hy
 exact num_lex a b 0 (a1.trans b1.symm) a2 b2 ((app_lt head a b).1 h)
theorem place_eq {head x:List UInt8} {p:Nat} (hx:placeL head x=some p):x=nameL head p:=by
 have hp:=place_lt hx
 have hy:=place_name head p hp
 rcases Std.lt_trichotomy x (nameL head p) with h | h | h
 · exact absurd (place_lex hx hy h) (Nat.lt_irrefl _)
 · exact h
 · exact absurd (place_lex hy hx h) (Nat.lt_irrefl _)
theorem sorted_ext:∀ (l m:List Nat),l.Pairwise (· < ·)→m.Pairwise (· < ·)→(∀ x,x∈l↔x∈m)→l=m:=by
 intro l
 induction l with
 | nil =>
   intro m _ _ h
   cases m with
   | nil=>rfl
   | cons y m=>exact absurd ((h y).2 (.head _)) (by simp)
 | cons x l ih =>
   intro m hl hm h
   cases m with
   | nil=>exact absurd ((h x).1 (.head _)) (by simp)
   | cons y m =>
     rw [List.pairwise_cons] at hl hm
     have e:x=y:=by
      rcases List.mem_cons.1 ((h x).1 (.head _)) with h1 | h1
      · exact h1
      · rcases List.mem_cons.1 ((h y).2 (.head _)) with h2 | h2
        · exact h2.symm
        · have:=hm.1 x h1
          have:=hl.1 y h2
          omega
     subst e
     rw [ih m hl.2 hm.2 fun z=>⟨fun hz=>by
      rcases List.mem_cons.1 ((h z).1 (.tail _ hz)) with h1 | h1
      · have:=hl.1 z hz; omega
      · exact h1,fun hz=>by
      rcases List.mem_cons.1 ((h z).2 (.tail _ hz)) with h1 | h1
      · have:=hm.1 z hz; omega
      · exact h1⟩]
structure LaidOn (D:DiskD) (R:SegD):Prop where
 sz:16≤R.size∧R.size≤4096
 empty:R.n=0→R.b=0∧R.txt=[]
 long:0 < R.n→(R.n - 1) * R.size≤R.txt.length∧R.txt.length≤R.n * R.size∧R.b+(R.n - 1) * R.size≤99999999
 mult:R.b % R.size=0
 hd:R.head.length≤1048576
 ok:SegOk D R
 only:SegOnly D R
 db:R.db=D.blk
theorem Whole.laid {base:Nat} {w:World} {D:DiskD} {R:SegD} (h:Whole base w D R):LaidOn D R :=
 ⟨h.seg.sz,h.seg.empty,h.seg.long,h.seg.mult,h.seg.hd,h.ok,h.only,h.db⟩
theorem LaidOn.place_le {D:DiskD} {R:SegD} (h:LaidOn D R) {i:Nat} (hi:i < R.n):R.b+i * R.size≤99999999:=by
 have h1:=(h.long (by omega)).2.2
 have h2:i * R.size≤(R.n - 1) * R.size:=Nat.mul_le_mul_right _ (by omega)
 omega
theorem LaidOn.places_sorted {D:DiskD} {R:SegD} (h:LaidOn D R):R.places.Pairwise (· < ·):=by
 unfold SegD.places
 rw [List.pairwise_map]
 refine List.Pairwise.imp ?_ (List.pairwise_lt_range)
 intro a b hab
 have:(a+1) * R.size≤b * R.size:=Nat.mul_le_mul_right _ hab
 rw [Nat.add_mul,Nat.one_mul] at this
 have:=h.sz
 omega
theorem list_sorted (D:DiskD) (hn:(D.files.map (·.1)).Nodup) (hd:List UInt8):(D.list hd).Pairwise (fun x y=>x < y):=by
 have h1:D.names.Pairwise (fun x y=>x≤y):=by
  have:=List.pairwise_mergeSort (le:=fun x y:List UInt8=>decide (x≤y)) (fun a b c h1 h2=>decide_eq_true (List.le_trans (of_decide_eq_true h1) (of_decide_eq_true h2))) (fun a b=>by
   rcases List.le_total a b with h | h
   · simp [h]
   · simp [h]) (D.files.map (·.1))
  exact this.imp fun h=>of_decide_eq_true h
 have h2:D.names.Nodup:=(List.mergeSort_perm _ _).nodup_iff.2 hn
 have h3:D.names.Pairwise (fun x y=>x < y):=(h1.and h2).imp fun {x y} ⟨h,h'⟩=>by
  rcases Std.lt_trichotomy x y with h3 | h3 | h3
  · exact h3
  · exact absurd h3 h'
  · exact absurd h3 (List.not_lt.2 h)
 unfold DiskD.list
 exact h3.filter _
theorem mem_list {D:DiskD} {hd x:List UInt8}:x∈D.list hd↔Lib.hasPrefix x hd=true∧x∈D.files.map (·.1):=by
 unfold DiskD.list
 rw [List.mem_filter]
 unfold DiskD.names
 rw [List.mem_mergeSort]
 exact And.comm
theorem find_isSome {D:DiskD} {x:List UInt8}:(D.find x).isSome=true↔x∈D.files.map (·.1):=by
 unfold DiskD.find
 rw [Option.isSome_map,List.find?_isSome]
 simp
theorem LaidOn.found {D:DiskD} {R:SegD} (h:LaidOn D R) (hn:(D.files.map (·.1)).Nodup):(D.list R.head).filterMap (placeL R.head)=R.places:=by
 refine sorted_ext _ _ ?_ h.places_sorted fun x=>?_
 ·
  rw [List.pairwise_filterMap]
  refine (list_sorted D hn R.head).imp ?_
  intro a b hab p hp q hq
  exact place_lex hp hq hab
 ·
  rw [List.mem_filterMap]
  constructor
  ·
   rintro ⟨y,hy,hp⟩
   obtain rfl:=place_eq hp
   have hle:=place_lt hp
   have hs:=find_isSome.2 (mem_list.1 hy).2
   unfold SegD.places
   rw [List.mem_map]
   apply Classical.byContradiction
   intro hno
   have:=h.only x hle fun i hi e=>hno ⟨i,List.mem_range.2 hi,e.symm⟩
   rw [this] at hs; cases hs
  ·
   intro hx
   unfold SegD.places at hx
   obtain ⟨i,hi,rfl⟩:=List.mem_map.1 hx
   have hi:=List.mem_range.1 hi
   exact ⟨nameL R.head (R.b+i * R.size),mem_list.2 ⟨prefix_append _ _,find_isSome.1 (h.ok i hi).2⟩,place_name _ _ (h.place_le hi)⟩
def SegD.upto (R:SegD) (m:Nat) (pv:Value):SegD:={ R with n:=m,b:=if m=0 then 0 else R.b,txt:=R.txt.take (m * R.size),synced:=0,pv:=pv }
theorem LaidOn.upto_all {D:DiskD} {R:SegD} (h:LaidOn D R) (pv:Value):R.upto R.n pv={ R with synced:=0,pv:=pv }:=by
 unfold SegD.upto
 rcases Nat.eq_zero_or_pos R.n with h0 | h0
 · obtain ⟨e1,e2⟩:=h.empty h0
   rw [if_pos h0,e1,e2]; simp
 · rw [if_neg (by omega),List.take_of_length_le (h.long h0).2.1]
theorem LaidOn.upto_e {D:DiskD} {R:SegD} (h:LaidOn D R) {m:Nat} (hm:m < R.n) (pv:Value):(R.upto m pv).e=if m=0 then 0 else R.b+m * R.size:=by
 have hl:=(h.long (by omega)).1
 have h2:m * R.size≤(R.n - 1) * R.size:=Nat.mul_le_mul_right _ (by omega)
 unfold SegD.upto SegD.e
 simp only
 by_cases h0:m=0
 · rw [if_pos h0,if_pos h0,h0]; simp
 · rw [if_neg h0,if_neg h0,List.length_take]; omega
theorem LaidOn.upto_succ_e {D:DiskD} {R:SegD} (h:LaidOn D R) {m:Nat} (hm:m < R.n) (pv:Value):(R.upto (m+1) pv).e=R.b+m * R.size+(D.bytes (nameL R.head (R.b+m * R.size))).length∧(D.bytes (nameL R.head (R.b+m * R.size))).length≤R.size∧(m+1 < R.n→(D.bytes (nameL R.head (R.b+m * R.size))).length=R.size):=by
 have hl:=(h.long (by omega)).1
 have h2:m * R.size≤(R.n - 1) * R.size:=Nat.mul_le_mul_right _ (by omega)
 have h3:(D.bytes (nameL R.head (R.b+m * R.size))).length=min R.size (R.txt.length - m * R.size):=by
  rw [(h.ok m hm).1,List.length_take,List.length_drop]
 refine ⟨?_,by omega,fun h4=>?_⟩
 ·
  unfold SegD.upto SegD.e
  simp only
  rw [if_neg (by omega),List.length_take,h3,Nat.add_mul,Nat.one_mul]
  omega
 · have h5:(m+1) * R.size≤(R.n - 1) * R.size:=Nat.mul_le_mul_right _ (by omega)
   rw [Nat.add_mul,Nat.one_mul] at h5
   omega
theorem own_cell {w:World} {base n:Nat} {e:TypeId} {v:Value} {xs:List Value} (h:w.ownsRow base e 1 v n xs) (i:Nat) (hi:i < n) (x:Value) (hx:xs[i]?=some x):∃ g cap,v=.slice (some ⟨g,0,Option.none⟩) n cap∧n≤cap∧w.cell? ⟨g,i,Option.none⟩=some x:=by
 rcases h.2 with ⟨_,e⟩ | ⟨g,cap,cur,e,_,hg,hn,_,hsz,ht⟩
 · omega
 ·
  refine ⟨g,cap,e,hn,?_⟩
  unfold World.cell?
  rw [hg]
  have h1:(cur.toList.take (n * 1))[i]?=some x:=by rw [ht]; exact hx
  rw [List.getElem?_take_of_lt (by omega)] at h1
  simpa using h1
theorem own_base {w:World} {base B n sz:Nat} {e:TypeId} {v:Value} {xs:List Value} (h:w.ownsRow base e sz v n xs) (hB:∀ k,v.ownBlock=some k→B≤k):w.ownsRow B e sz v n xs:=by
 refine ⟨h.1,?_⟩
 rcases h.2 with h0 | ⟨g,cap,cur,e,hb,r⟩
 · exact .inl h0
 · exact .inr ⟨g,cap,cur,e,hB g (by rw [e]; rfl),r⟩
theorem own_shape {w:World} {base n sz:Nat} {e:TypeId} {v:Value} {xs:List Value} (h:w.ownsRow base e sz v n xs):∃ a cap,v=.slice a n cap:=by
 rcases h.2 with ⟨e,e0⟩ | ⟨g,cap,cur,e,_⟩
 · exact ⟨_,_,by rw [e,e0]⟩
 · exact ⟨_,_,e⟩
theorem upto_places (R:SegD) (m:Nat) (pv:Value):(R.upto m pv).places=(List.range m).map fun i=>R.b+i * R.size:=by
 unfold SegD.places SegD.upto
 simp only
 by_cases h0:m=0
 · subst h0; rfl
 · rw [if_neg h0]
theorem filterMap_split {L:List (List UInt8)} {f:List UInt8→Option Nat} {P:List Nat} (h:L.filterMap f=P) {k:Nat} {x:List UInt8} (hx:L[k]?=some x) :
 (L.take (k+1)).filterMap f=(L.take k).filterMap f++(f x).toList∧((L.take k).filterMap f).length≤P.length∧(∀ p,f x=some p→P[((L.take k).filterMap f).length]?=some p):=by
 have h1:L.take (k+1)=L.take k++[x]:=by
  rw [List.take_add_one,hx]; rfl
 have h2:P=(L.take (k+1)).filterMap f++(L.drop (k+1)).filterMap f:=by rw [← List.filterMap_append,List.take_append_drop,h]
 have h3:(L.take (k+1)).filterMap f=(L.take k).filterMap f++(f x).toList:=by
  rw [h1,List.filterMap_append]
  cases hf:f x <;> simp [hf]
 refine ⟨h3,by rw [h2,h3]; simp <;> omega,fun p hp=>?_⟩
 rw [h2,h3,hp]
 simp
theorem upto_cells {base:Nat} {w3 w4:World} {D:DiskD} {R:SegD} {m B:Nat} {pv:Value} {o:Obj} (hS:SegAt base w3 (R.upto m pv)) (hg:(w3.alloc o).grownBy w4 pv.ownBlock) (hpv:∀ k,pv.ownBlock=some k→B≤k) (hB:R.blk < B) :
 w4.heap[R.blk]?=some (.cells (R.upto m pv).cells 116 (0,0)):=by
 have hlt:R.blk < w3.heap.size:=hS.lt (.inl rfl)
 have h1:(w3.alloc o).heap[R.blk]?=some (.cells (R.upto m pv).cells 116 (0,0)):=((Below.refl w3.heap.size w3).alloc (Nat.le_refl _) o).block _ hlt |>.trans hS.cells
 exact (hg.block R.blk (by rw [World.size_alloc]; omega) (fun e=>by have:=hpv _ e.symm; omega)).trans h1
theorem upto_next {base:Nat} {w3 w4:World} {D:DiskD} {R:SegD} {m B p:Nat} {pv v':Value} {o:Obj} (hL:LaidOn D R) (hm:m < R.n) (hS:SegAt base w3 (R.upto m pv)) (hg:(w3.alloc o).grownBy w4 pv.ownBlock) (hpv:∀ k,pv.ownBlock=some k→B≤k) (hB:R.blk < B) (hbB:base≤B) (hp:p=R.b+m * R.size)
 (hown:w4.ownsRow B 3 1 v' (m+1) ((R.upto m pv).places.map (fun (q:Nat)=>Value.int .i64 (q:Int))++[.int .i64 (p:Int)])) :
 SegAt base ((w4.setCell ⟨R.blk,3,none⟩ v').setCell ⟨R.blk,4,none⟩ (.int .i64 ((p:Int)+((D.bytes (nameL R.head p)).length:Int)))) (R.upto (m+1) v'):=by
 have hc:=upto_cells (D:=D) hS hg hpv hB
 have hve:∀ k,v'.ownBlock=some k→k≠R.blk:=fun k hk e=>by have:=ownBlock_of_own hown k hk; omega
 obtain ⟨e1,e2,e3⟩:=hL.upto_succ_e hm v'
 have hml:=hL.long (by omega)
 have hms:m * R.size≤(R.n - 1) * R.size:=Nat.mul_le_mul_right _ (by omega)
 have hle:=hL.place_le hm
 refine ⟨heap_set1 (heap_set1 hc v' rfl) _ ?_,?_,hve,hS.above,hL.sz,fun h=>absurd (show m+1=0 from h) (by omega),fun _=>?_,?_,Nat.zero_le _,hL.hd⟩
 · rw [hp]
   have e4:((R.upto (m+1) v').e:Int)=((R.b+m * R.size:Nat):Int)+((D.bytes (nameL R.head (R.b+m * R.size))).length:Int):=by rw [e1]; omega
   rw [← e4]; rfl
 ·
  have h1:(R.upto (m+1) v').places.map (fun (q:Nat)=>Value.int .i64 (q:Int))=(R.upto m pv).places.map (fun (q:Nat)=>Value.int .i64 (q:Int))++[.int .i64 (p:Int)]:=by
   rw [upto_places,upto_places,List.range_succ,List.map_append,List.map_append,hp]; rfl
  rw [h1]
  have h2:w4.ownsRow base 3 1 v' (m+1) _:=own_base hown (fun k hk=>Nat.le_trans hbB (ownBlock_of_own hown k hk))
  exact ownsRow_mod (M:=fun k=>k=R.blk) (ownsRow_mod (M:=fun k=>k=R.blk) h2 (mod_set _ _ _ _) (fun k hk e=>hve k hk e)) (mod_set _ _ _ _) (fun k hk e=>hve k hk e)
 · show (m+1 - 1) * R.size≤(R.txt.take ((m+1) * R.size)).length∧(R.txt.take ((m+1) * R.size)).length≤(m+1) * R.size∧(if m+1=0 then 0 else R.b)+(m+1 - 1) * R.size≤99999999
   rw [if_neg (by omega),List.length_take,Nat.add_sub_cancel,Nat.add_mul,Nat.one_mul]
   omega
 · show (if m+1=0 then 0 else R.b) % R.size=0
   rw [if_neg (by omega)]; exact hL.mult
theorem found_any {base:Nat} {D:DiskD} {R:SegD} (w:World) (hL:LaidOn D R) (hR:SegAt base w (R.upto 0 (.slice none 0 0))) (hD:DiskAt base w D) (hap:¬ D.foot R.blk) (hfl:D.files.length≤1048576) (hnl:∀ p∈D.files,p.1.length≤1073741824) (hbase:base≤w.heap.size) :
 Calls Tryz.prog 172 #[.pointer (some ⟨R.blk,0,none⟩)] w fun e w'=>e=.returned (.slice none 0 0)∧∃ pv,SegAt base w' (R.upto R.n pv)∧Mod (fun k=>k=R.blk) w w'∧∀ k,pv.ownBlock=some k→w.heap.size≤k:=by
 obtain ⟨i0,hi0,hz0,hz1,hz2⟩:=info_parts (show (Tryz.prog.info? 3).map (fun i=>(i.zero,i.size,i.bytes))=some (some (.int .i64 0),1,8) by kernel_rfl)
 obtain ⟨L,HLL⟩:∃ L,Hid (L=D.list R.head):=⟨_,rfl⟩
 have HFD:Hid (L.filterMap (placeL R.head)=R.places):=by rw [HLL.out]; exact hL.found hD.names
 have HLN:Hid (∀ x∈L,x.length≤1073741824):=fun x hx=>by
  rw [HLL.out] at hx
  obtain ⟨p,hp,rfl⟩:=List.mem_map.1 (mem_list.1 hx).2
  exact hnl p hp
 have hLl:L.length≤1048576:=by
  rw [HLL.out]
  refine Nat.le_trans (List.length_filter_le _ _) ?_
  unfold DiskD.names
  rw [List.length_mergeSort,List.length_map]; exact hfl
 have HLI:=Lib.hid (fun (w2:World) (hb:Below w.heap.size w w2)=>list_any R.head w2 (hD.below hb) hfl (fun p hp=>by have:=hnl p hp; unfold maxLen; omega))
 rw [← HLL.out] at HLI
 have HC0:Hid (∀ w2:World,Below w.heap.size w w2→w2.cell? ⟨R.blk,0,none⟩=some (.pointer (some ⟨D.blk,0,none⟩))):=fun w2 hb=>(hR.below hb).cell 0 _ (by rw [← hL.db]; rfl)
 have HC1:Hid (∀ w2:World,Below w.heap.size w w2→w2.cell? ⟨R.blk,1,none⟩=some (.string (S R.head))):=fun w2 hb=>(hR.below hb).cell 1 _ rfl
 have HL:=Lib.hid hL
 have HR:=Lib.hid hR
 have HD:=Lib.hid hD
 have HAP:=Lib.hid hap
 have HPN:Hid (R.places.length=R.n):=by show R.places.length=R.n; unfold SegD.places; simp
 have hRB:R.blk < w.heap.size:=hR.lt (.inl rfl)
 clear hL hR hD hap hfl hnl
 go_enter Tryz.func172,Tryz.ntmps172
 go_wp2_with fail
 refine Grow.wp_region_g 11 [none,none,none,some (.inl (.pointer (some ⟨D.blk,0,none⟩))),none,none,none,some (.inl (.string (S R.head))),some (.inr fun v w2=>∃ a cap,v=.slice a L.length cap∧w2.ownsRow w.heap.size 9 1 v L.length (L.map encStr)),some (.inl (.int .i64 (L.length:Int))),none] Ext (by kernel_rfl) (by kernel_rfl) (by kernel_rfl) Ext.refl (fun _ _ _=>Ext.trans) ?_ ?_
 ·
  intro K hK Y hY v w w' hR h
  simp only [List.mem_cons,List.not_mem_nil,or_false] at hK
  rcases hK with rfl | rfl | rfl | rfl | rfl | rfl | rfl | rfl | rfl | rfl | rfl <;> simp only [reduceCtorEq,Option.some.injEq,Sum.inr.injEq] at hY
  subst hY
  obtain ⟨a,cap,e,ho⟩:=h
  exact ⟨a,cap,e,ownsRow_mod (M:=fun _=>False) ho (Mod.of_below hR) (fun _ _ h=>h)⟩
 simp only [List.take_succ_cons,List.take_zero,List.drop_succ_cons,List.drop_zero]
 iterate 3
  refine Grow.g_det rfl ?_
  apply Exists.intro
  refine ⟨fun w hw hF=>?_,?_⟩
  · clear hF
    go_simp
    exact ⟨rfl,Ext.refl _⟩
  go_frame
 refine Grow.g_con rfl (fun w2' hw hF=>?_) ?_
 ·
  clear hF
  have c0:=HC0.out w2' ((Below.refl w.heap.size w).drew.trans hw)
  go_simp
  all_goals exact Ext.refl _
 iterate 3
  go_frame
  refine Grow.g_det rfl ?_
  apply Exists.intro
  refine ⟨fun w hw hF=>?_,?_⟩
  · clear hF
    go_simp
    exact ⟨rfl,Ext.refl _⟩
 go_frame
 refine Grow.g_con rfl (fun w2' hw hF=>?_) ?_
 ·
  clear hF
  have c1:=HC1.out w2' ((Below.refl w.heap.size w).drew.trans hw)
  go_simp
  all_goals exact Ext.refl _
 go_frame
 refine Grow.g_new rfl (fun w2' hw hF=>?_) (fun vL=>?_)
 ·
  clear hF
  have hwz:w.heap.size≤w2'.heap.size:=((Below.refl w.heap.size w).drew.trans hw).size
  go_simp
  refine (HLI.out w2' ((Below.refl w.heap.size w).drew.trans hw)).mono ?_
  rintro e w3 ⟨v,rfl,ho,hb⟩
  obtain ⟨a,cap,rfl⟩:=own_shape ho
  exact ⟨_,rfl,⟨⟨a,cap,rfl⟩,own_base ho (fun k hk=>Nat.le_trans hwz (ownBlock_of_own ho k hk))⟩,hb⟩
 simp only [Act.put,List.setIfInBounds_toArray,List.set_cons_zero,List.set_cons_succ,Grow.addF]
 refine Grow.g_con rfl (fun w2' hw hF=>?_) ?_
 ·
  obtain ⟨a,cap,rfl,ho⟩:=hF _ (List.Mem.head _) (by simp [Oper.looksAt,Op.operands,Call.operands])
  clear hF
  go_simp
  all_goals exact Ext.refl _
 go_frame
 refine Grow.g_det rfl ?_
 apply Exists.intro
 refine ⟨fun w hw hF=>?_,?_⟩
 · clear hF
   go_simp
   exact ⟨rfl,Ext.refl _⟩
 go_frame
 refine Grow.g_nil fun w1 hw1 hF=>?_
 obtain ⟨a,cap,rfl,hown⟩:=hF _ (List.Mem.head _)
 clear hF
 refine wpList_nil ?_
 have HB:=Lib.hid ((Below.refl w.heap.size w).drew.trans (show Below w.heap.size w.drew w1 from hw1))
 have HROW:=Lib.hid hown
 clear hw1 HLI HC0 HC1
 have HXC:Hid (∀ (k:Nat) (x:List UInt8),L[k]?=some x→∃ g cp,(Value.slice a L.length cap)=.slice (some ⟨g,0,none⟩) L.length cp∧L.length≤cp∧w1.cell? ⟨g,k,none⟩=some (.string (S x))∧g < w1.heap.size∧w.heap.size≤g):=fun k x hx=>by
  have hk:k < L.length:=(List.getElem?_eq_some_iff.1 hx).1
  obtain ⟨g,cp,e,h1,h2⟩:=own_cell hown k hk (encStr x) (by rw [List.getElem?_map,hx]; rfl)
  exact ⟨g,cp,e,h1,h2,cell_lt h2,ownBlock_of_own hown g (by rw [e]; rfl)⟩
 clear hown
 go_wp2_with fail
 go_loopw [3,4,21] (fun v3 v4 i wr=>∃ (k m:Nat) (pv:Value) (b:Bool),k≤L.length∧i=.int .i64 k∧v3=.slice none 0 0∧v4=.bool b∧Hid (m=((L.take k).filterMap (placeL R.head)).length)∧Hid (m < R.n→b=true) ∧
  Hid (SegAt base wr (R.upto m pv))∧Hid (Mod (fun k=>k=R.blk) w1 wr)∧Hid (∀ k,pv.ownBlock=some k→w1.heap.size≤k)) (fun _ _ i _=>L.length - (intOf i).toNat)
 case atStart=>exact ⟨0,0,.slice none 0 0,true,Nat.zero_le _,rfl,rfl,rfl,rfl,fun _=>rfl,HR.out.below HB.out,Mod.refl _ _,fun k h=>by cases h⟩
 case round =>
  obtain ⟨k,m,pv,b,hk,rfl,rfl,rfl,HM,HBT,HS,HMD,HPV⟩:=hrel
  have hbs:=HB.out.size
  by_cases hlt:k < L.length
  ·
   obtain ⟨x,hx⟩:∃ x,L[k]?=some x:=⟨L[k],List.getElem?_eq_getElem hlt⟩
   obtain ⟨s1,s2,s3⟩:=filterMap_split HFD.out hx
   rw [← HM.out,HPN.out] at s2
   rw [← HM.out] at s3
   have hmn:m < R.n∨placeL R.head x=none:=by
    cases hp:placeL R.head x with
    | none=>exact .inr rfl
    | some p=>exact .inl (by have:=(List.getElem?_eq_some_iff.1 (s3 p hp)).1; rw [HPN.out] at this; exact this)
   obtain ⟨g,cp,hsl,hlc,hcx,hg1,hg2⟩:=HXC.out k x hx
   injection hsl with e1 e2 e3
   subst e1
   have hcx2:wr.cell? ⟨g,k,none⟩=some (.string (S x)):=by rw [HMD.out.cell (p:=⟨g,k,none⟩) hg1 (by show ¬ g=R.blk; omega)]; exact hcx
   have c1:wr.cell? ⟨R.blk,1,none⟩=some (.string (S R.head)):=HS.out.cell 1 _ rfl
   have hxl:x.length≤1073741824:=HLN.out x (List.mem_of_getElem? hx)
   have HPL:=Lib.hid (Place_any R.head x wr hxl)
   have HX:=Lib.hid hx
   cases hp:placeL R.head x with
   | none =>
     rw [hp] at HPL s1
     have HM2:Hid (m=((L.take (k+1)).filterMap (placeL R.head)).length):=by
      show m=_
      rw [s1,Option.toList_none,List.append_nil]; exact HM.out
     clear s1 s2 s3 hmn e2 e3 hlc hcx hg1 hg2 hx hp HM
     go_wp2_with fail
     refine HPL.out.mono ?_
     rintro e w3 ⟨rfl,hb3⟩
     have HS3:=Lib.hid (HS.out.below hb3)
     have HMD3:=Lib.hid (HMD.out.trans (Mod.of_below hb3))
     clear hb3 HPL HS HMD hcx2 c1
     go_wp2_with fail
     go_roundw
     case rel=>exact ⟨k+1,m,pv,b,by omega,by go_num,rfl,rfl,HM2.out,HBT.out,HS3.out,HMD3.out,HPV.out⟩
     case measure=>simp [intOf]; omega
   | some p =>
     have hmlt:m < R.n:=by
      rcases hmn with h | h
      · exact h
      · rw [h] at hp; cases hp
     have hpe:p=R.b+m * R.size:=by
      have h1:=s3 p hp
      unfold SegD.places at h1
      rw [List.getElem?_map,List.getElem?_range hmlt] at h1
      exact (Option.some.inj h1).symm
     have hxe:=place_eq hp
     rw [hp] at HPL s1
     have HM2:Hid (m+1=((L.take (k+1)).filterMap (placeL R.head)).length):=by
      show m+1=_
      rw [s1,List.length_append,← HM.out]; rfl
     have hbt:=HBT.out hmlt
     subst hbt
     have HPE0:=Lib.hid hpe
     have HXE0:=Lib.hid hxe
     clear s1 s2 s3 hmn e2 e3 hlc hcx hx hp HM HBT hpe hxe
     change Hid (Calls _ _ _ _ fun e w'=>e=.returned (.tuple #[.int .i64 (p:Int),.bool true])∧_) at HPL
     go_wp2_with fail
     refine HPL.out.mono ?_
     rintro e w3 ⟨rfl,hb3⟩
     have hpe:=HPE0.out
     have hxe:=HXE0.out
     have hs3:=HS.out.below hb3
     have hmd3:=HMD.out.trans (Mod.of_below (M:=fun k=>k=R.blk) hb3)
     have hd3:DiskAt base w3 D:=(HD.out.below HB.out).mod hmd3 (fun k hk e=>HAP.out (e ▸ hk))
     have c0:w3.cell? ⟨R.blk,0,none⟩=some (.pointer (some ⟨D.blk,0,none⟩)):=hs3.cell 0 _ (by rw [← HL.out.db]; rfl)
     have c2:w3.cell? ⟨R.blk,2,none⟩=some (.int .i64 (R.size:Int)):=hs3.cell 2 _ rfl
     obtain ⟨a3,cp3,hv3⟩:=own_shape hs3.row
     change pv=.slice a3 m cp3 at hv3
     have c3:w3.cell? ⟨R.blk,3,none⟩=some (.slice a3 m cp3):=hs3.cell 3 _ (by show some pv=_; rw [hv3])
     have c4:w3.cell? ⟨R.blk,4,none⟩=some (.int .i64 ((if m=0 then 0 else p:Nat):Int)):=hs3.cell 4 _ (by rw [hpe,← HL.out.upto_e hmlt pv]; rfl)
     have HLEN:=Lib.hid (len_any x w3 hd3)
     obtain ⟨u1,u2,u3⟩:=HL.out.upto_succ_e hmlt pv
     rw [← hpe,← hxe] at u1 u2 u3
     have hlg:Hid ((D.bytes x).length=(D.bytes (nameL R.head p)).length):=by show _=_; rw [hxe]
     generalize (D.bytes x).length=lg at *
     have hsz:=HL.out.sz
     have hpl:p≤99999999:=by have:=HL.out.place_le hmlt; omega
     have hrem:Int.tmod (p:Int) (R.size:Int)=0:=by
      have h1:p % R.size=0:=by rw [hpe,Nat.add_mul_mod_self_right]; exact HL.out.mult
      show ((p % R.size:Nat):Int)=0
      rw [h1]; rfl
     have hsz0:¬ (R.size:Int)=0:=by omega
     have hlgs:¬ R.size < lg:=by omega
     have hmc:m≤1073741824:=by
      have h1:=(HL.out.long (by omega)).2.2
      have h2:=Nat.mul_le_mul_left (R.n - 1) hsz.1
      omega
     have HS3:=Lib.hid hs3
     have HMD3:=Lib.hid hmd3
     have HU3:=Lib.hid u3
     have HPE:=Lib.hid hpe
     have hwr:IntKind.i64.wrap ((p:Int)+(lg:Int))=(p:Int)+(lg:Int):=IntWalk.i64_in _ (by omega)
     have HROWP:Hid (w3.ownsRow w1.heap.size 3 1 (.slice a3 m cp3) m ((R.upto m pv).places.map (fun (q:Nat)=>Value.int .i64 (q:Int)))):=by rw [← hv3]; exact own_base hs3.row HPV.out
     have HV3:=Lib.hid hv3
     clear hb3 hs3 hmd3 hd3 HPL HS HMD hcx2 c1 u1 u2 u3 hxe hpe hv3
     by_cases h0:m=0
     ·
      subst h0
      simp only [if_pos] at c4
      go_wp2_with fail
      refine HLEN.out.mono ?_
      rintro e w3' ⟨rfl,rfl⟩
      go_wp2_with (at_builtin; refine wpList_append_own _ rfl (.tmp 60) (.tmp 62) 49 rfl w1.heap.size 3 i0 (.int .i64 0) 1 8 Tryz.underlying49 hi0 hz0 hz1 hz2 rfl (by decide) _ 0 ((R.upto 0 pv).places.map (fun (q:Nat)=>Value.int .i64 (q:Int))) rfl (HROWP.out.alloc _) ⟨w3'.heap.size,0,none⟩ 1 1 [.int .i64 (p:Int)] rfl rfl ?c1 ?c2 ?c3 ?c4 ?c5 ?_)
      case c1=>exact cell_one_new _ _ _
      case c2=>intro u hu; simp at hu; subst hu; rfl
      case c3=>unfold maxLen; omega
      case c4=>omega
      case c5=>have:=HMD3.out.size; simp; omega
      intro v' w4 hown' hgrow _
      have hgr:(w3'.alloc (.cells #[.int .i64 (p:Int)] 3)).grownBy w4 pv.ownBlock:=by rw [HV3.out]; exact hgrow
      obtain ⟨a4,cp4,rfl⟩:=own_shape hown'
      have hcl:=upto_cells (D:=D) HS3.out hgr HPV.out (by omega)
      have hnx:=upto_next HL.out hmlt HS3.out hgr HPV.out (by omega) (by omega) HPE.out hown'
      rw [← hlg.out] at hnx
      have c24:w4.cell? ⟨R.blk,2,none⟩=some (.int .i64 (R.size:Int)):=by unfold World.cell?; rw [show w4.heap[(⟨R.blk,2,none⟩:Addr).block]?=_ from hcl]; rfl
      have c34:w4.cell? ⟨R.blk,3,none⟩=some pv:=by unfold World.cell?; rw [show w4.heap[(⟨R.blk,3,none⟩:Addr).block]?=_ from hcl]; rfl
      have c44:w4.cell? ⟨R.blk,4,none⟩=some (.int .i64 ((R.upto 0 pv).e:Int)):=by unfold World.cell?; rw [show w4.heap[(⟨R.blk,4,none⟩:Addr).block]?=_ from hcl]; rfl
      have hf3:w4.frozen? ⟨R.blk,3,none⟩=false:=by unfold World.frozen?; rw [show w4.heap[(⟨R.blk,3,none⟩:Addr).block]?=_ from hcl]; rfl
      have hf4:w4.frozen? ⟨R.blk,4,none⟩=false:=by unfold World.frozen?; rw [show w4.heap[(⟨R.blk,4,none⟩:Addr).block]?=_ from hcl]; rfl
      have HMD4:Hid (Mod (fun k=>k=R.blk) w1 w4):=by
       have h1:Mod (fun k=>pv.ownBlock=some k) (w3'.alloc (.cells #[.int .i64 (p:Int)] 3)) w4:=⟨hgr.os,hgr.tape,hgr.output,hgr.size,fun k hk hne=>hgr.block k hk (fun e=>hne e.symm)⟩
       exact mod_over (HMD3.out.trans (Mod.of_below ((Below.refl _ _).alloc (Nat.le_refl _) _))) h1 (fun k hk=>.inr (HPV.out k hk))
      have HPV4:=Lib.hid (fun k hk=>ownBlock_of_own hown' k hk)
      have HNX:=Lib.hid hnx
      have hlz:lg≤4096:=by omega
      clear hown' hgrow hgr hcl hnx c0 c2 c3 c4 HROWP HS3 HMD3
      generalize (R.upto 0 pv).e=ue at *
      go_wp2_with fail
      go_roundw
      case rel=>exact ⟨k+1,0+1,_,_,by omega,by go_num,rfl,rfl,HM2.out,(fun h=>by have hq:lg=R.size:=HU3.out h; subst hq; simp),HNX.out,(HMD4.out.setCell (.inl rfl) _).setCell (.inl rfl) _,HPV4.out⟩
      case measure=>simp [intOf]; omega
     ·
      rw [if_neg h0] at c4
      have h0i:¬ (m:Int)=0:=by omega
      go_wp2_with fail
      refine HLEN.out.mono ?_
      rintro e w3' ⟨rfl,rfl⟩
      go_wp2_with (at_builtin; refine wpList_append_own _ rfl (.tmp 60) (.tmp 62) 49 rfl w1.heap.size 3 i0 (.int .i64 0) 1 8 Tryz.underlying49 hi0 hz0 hz1 hz2 rfl (by decide) _ m ((R.upto m pv).places.map (fun (q:Nat)=>Value.int .i64 (q:Int))) rfl (HROWP.out.alloc _) ⟨w3'.heap.size,0,none⟩ 1 1 [.int .i64 (p:Int)] rfl rfl ?c1 ?c2 ?c3 ?c4 ?c5 ?_)
      case c1=>exact cell_one_new _ _ _
      case c2=>intro u hu; simp at hu; subst hu; rfl
      case c3=>unfold maxLen; omega
      case c4=>omega
      case c5=>have:=HMD3.out.size; simp; omega
      intro v' w4 hown' hgrow _
      have hgr:(w3'.alloc (.cells #[.int .i64 (p:Int)] 3)).grownBy w4 pv.ownBlock:=by rw [HV3.out]; exact hgrow
      obtain ⟨a4,cp4,rfl⟩:=own_shape hown'
      have hcl:=upto_cells (D:=D) HS3.out hgr HPV.out (by omega)
      have hnx:=upto_next HL.out hmlt HS3.out hgr HPV.out (by omega) (by omega) HPE.out hown'
      rw [← hlg.out] at hnx
      have c24:w4.cell? ⟨R.blk,2,none⟩=some (.int .i64 (R.size:Int)):=by unfold World.cell?; rw [show w4.heap[(⟨R.blk,2,none⟩:Addr).block]?=_ from hcl]; rfl
      have c34:w4.cell? ⟨R.blk,3,none⟩=some pv:=by unfold World.cell?; rw [show w4.heap[(⟨R.blk,3,none⟩:Addr).block]?=_ from hcl]; rfl
      have c44:w4.cell? ⟨R.blk,4,none⟩=some (.int .i64 ((R.upto m pv).e:Int)):=by unfold World.cell?; rw [show w4.heap[(⟨R.blk,4,none⟩:Addr).block]?=_ from hcl]; rfl
      have hf3:w4.frozen? ⟨R.blk,3,none⟩=false:=by unfold World.frozen?; rw [show w4.heap[(⟨R.blk,3,none⟩:Addr).block]?=_ from hcl]; rfl
      have hf4:w4.frozen? ⟨R.blk,4,none⟩=false:=by unfold World.frozen?; rw [show w4.heap[(⟨R.blk,4,none⟩:Addr).block]?=_ from hcl]; rfl
      have HMD4:Hid (Mod (fun k=>k=R.blk) w1 w4):=by
       have h1:Mod (fun k=>pv.ownBlock=some k) (w3'.alloc (.cells #[.int .i64 (p:Int)] 3)) w4:=⟨hgr.os,hgr.tape,hgr.output,hgr.size,fun k hk hne=>hgr.block k hk (fun e=>hne e.symm)⟩
       exact mod_over (HMD3.out.trans (Mod.of_below ((Below.refl _ _).alloc (Nat.le_refl _) _))) h1 (fun k hk=>.inr (HPV.out k hk))
      have HPV4:=Lib.hid (fun k hk=>ownBlock_of_own hown' k hk)
      have HNX:=Lib.hid hnx
      have hlz:lg≤4096:=by omega
      clear hown' hgrow hgr hcl hnx c0 c2 c3 c4 HROWP HS3 HMD3
      generalize (R.upto m pv).e=ue at *
      go_wp2_with fail
      go_roundw
      case rel=>exact ⟨k+1,m+1,_,_,by omega,by go_num,rfl,rfl,HM2.out,(fun h=>by have hq:lg=R.size:=HU3.out h; subst hq; simp),HNX.out,(HMD4.out.setCell (.inl rfl) _).setCell (.inl rfl) _,HPV4.out⟩
      case measure=>simp [intOf]; omega
  ·
   obtain rfl:k=L.length:=by omega
   have hmn:m=R.n:=by rw [HM.out,List.take_length,HFD.out,HPN.out]
   subst hmn
   clear HM HBT
   go_wp2_with fail
   go_ret
   refine ⟨rfl,pv,HS.out,(Mod.of_below HB.out).trans (mod_over (Mod.refl _ w1) HMD.out (fun k h=>.inl h)),fun k h=>Nat.le_trans HB.out.size (HPV.out k h)⟩
def SegD.openR (R:SegD) (blk:Nat) (pv:Value):SegD:={ R with blk:=blk,pv:=pv,synced:=R.b }
theorem LaidOn.reblk {D:DiskD} {R:SegD} (h:LaidOn D R) (b s:Nat) (pv:Value):LaidOn D { R with blk:=b,pv:=pv,synced:=s } :=
 ⟨h.sz,h.empty,h.long,h.mult,h.hd,h.ok,h.only,h.db⟩
theorem seg_syncb {base:Nat} {w:World} {R:SegD} (h:SegAt base w R):SegAt base (w.setCell ⟨R.blk,5,none⟩ (.int .i64 (R.b:Int))) { R with synced:=R.b } :=
 ⟨heap_set1 h.cells _ rfl,ownsRow_mod (M:=fun k=>k=R.blk) h.row (mod_set _ _ _ _) (fun k hk e=>h.apart k hk e),h.apart,h.above,h.sz,h.empty,h.long,h.mult,(by show R.b≤R.b+R.txt.length; omega),h.hd⟩
theorem open_core {base:Nat} {D:DiskD} {R:SegD} (w:World) (hbk:R.blk=w.heap.size) (hL:LaidOn D R) (hD:DiskAt base w D) (hq:Quiet D) (hfl:D.files.length≤1048576) (hnl:∀ p∈D.files,p.1.length≤1073741824) (hbase:base≤w.heap.size) :
 Calls Tryz.prog 112 #[.pointer (some ⟨D.blk,0,none⟩),.string (S R.head),.int .i64 (R.size:Int)] w fun e w'=>∃ pv,e=.returned (.tuple #[.pointer (some ⟨R.blk,0,none⟩),.int .i64 0])∧Whole base w' D { R with pv:=pv,synced:=R.b }∧Below w.heap.size w w'∧∀ k,pv.ownBlock=some k→w.heap.size≤k:=by
 have CD:=Lib.hid (down_any w hD)
 rw [hq.up] at CD
 obtain ⟨hs1,hs2⟩:=hL.sz
 obtain ⟨cs,hcs⟩:∃ cs:Array Value,cs=#[.pointer (some ⟨D.blk,0,none⟩),.string (S R.head),.int .i64 (R.size:Int),.slice none 0 0,.int .i64 0,.int .i64 0]:=⟨_,rfl⟩
 obtain ⟨w1,hw1e⟩:∃ w1:World,w1=w.alloc (.cells cs 116):=⟨_,rfl⟩
 have hw1:Below w.heap.size w w1:=by rw [hw1e]; exact (Below.refl _ _).alloc (Nat.le_refl _) _
 have hsz1:w1.heap.size=w.heap.size+1:=by rw [hw1e]; exact World.size_alloc _ _
 have hblk:w1.heap[R.blk]?=some (.cells cs 116 (0,0)):=by
  rw [hw1e,hbk]
  show (w.heap.push _)[w.heap.size]?=_
  exact Array.getElem?_push_size
 have hS0:SegAt base w1 (R.upto 0 (.slice none 0 0)):=by
  refine ⟨?_,⟨rfl,.inl ⟨rfl,rfl⟩⟩,(fun k h=>by cases h),(by show base≤R.blk; omega),hL.sz,fun _=>⟨rfl,?_⟩,fun h=>absurd h (Nat.lt_irrefl 0),?_,Nat.zero_le _,hL.hd⟩
  ·
   have e:(R.upto 0 (.slice none 0 0)).cells=cs:=by
    rw [hcs,← hL.db]
    unfold SegD.cells SegD.upto SegD.e
    simp
   rw [e]; exact hblk
  · show R.txt.take (0 * R.size)=[]
    simp
  · show 0 % R.size=0
    simp
 have HF:=Lib.hid (found_any w1 hL hS0 (hD.below hw1) (fun h=>by have:=hD.lt h; omega) hfl hnl (by omega))
 have HU:=Lib.hid (fun pv=>hL.upto_all pv)
 have HL:=Lib.hid hL
 have HD:=Lib.hid hD
 have HB1:=Lib.hid hw1
 have HBK:=Lib.hid hbk
 have HW1:=Lib.hid hw1e
 have HS1:=Lib.hid hsz1
 have HCS:=Lib.hid hcs
 clear hL hS0 hD hq hw1 hblk hfl hnl hsz1 hw1e hcs
 go_enter Tryz.func112,Tryz.ntmps112
 go_wp2_with fail
 refine CD.out.mono ?_
 rintro e wz ⟨rfl,rfl⟩
 go_upto_region 6 with fail
 rw [← HCS.out,← HW1.out,← hbk]
 clear hbk CD
 go_wp2_with fail
 refine HF.out.mono ?_
 rintro e w2 ⟨rfl,pv,hs2,hm2,hpv⟩
 rw [HU.out] at hs2
 have HB:=Lib.hid (begin_any w2 hs2)
 have hf5:w2.frozen? ⟨R.blk,5,none⟩=false:=by
  unfold World.frozen?; rw [show w2.heap[(⟨R.blk,5,none⟩:Addr).block]?=_ from hs2.cells]; rfl
 have c5:w2.cell? ⟨R.blk,5,none⟩=some (.int .i64 ((0:Nat):Int)):=hs2.cell 5 _ rfl
 have HS2:=Lib.hid hs2
 have HM2:=Lib.hid hm2
 have HPV:=Lib.hid hpv
 clear hs2 hm2 hpv HF
 go_wp2_with fail
 refine HB.out.mono ?_
 rintro e w3 ⟨rfl,rfl⟩
 go_wp2_with fail
 go_ret2
 have hb1:=HB1.out
 have hz:=hb1.size
 have hz1:=HS1.out
 have hbk:=HBK.out
 have hl:=HL.out
 have hfin:=seg_syncb HS2.out
 have hm:Mod (fun k=>k=R.blk) wz w3:=(Mod.of_below hb1).trans (mod_over (Mod.refl _ w1) HM2.out (fun k h=>.inl h))
 have hb:Below wz.heap.size wz (w3.setCell ⟨R.blk,5,none⟩ (.int .i64 (R.b:Int))):=(hm.setCell (.inl rfl) _).to_below _ (Nat.le_refl _) (fun k e=>by rw [e,hbk]; exact Nat.le_refl _)
 refine ⟨pv,rfl,⟨hfin,HD.out.below hb,hl.db,fun k hk hk2=>?_,hl.ok,hl.only⟩,hb,fun k hk=>?_⟩
 ·
  have h1:=HD.out.lt hk
  rcases hk2 with e | e
  · rw [show k=R.blk from e] at h1; omega
  · have:=HPV.out k e; omega
 · have:=HPV.out k hk; omega
theorem open_any {base:Nat} {D:DiskD} {R:SegD} (w:World) (hL:LaidOn D R) (hD:DiskAt base w D) (hq:Quiet D) (hfl:D.files.length≤1048576) (hnl:∀ p∈D.files,p.1.length≤1073741824) (hbase:base≤w.heap.size) :
 Calls Tryz.prog 112 #[.pointer (some ⟨D.blk,0,none⟩),.string (S R.head),.int .i64 (R.size:Int)] w fun e w'=>∃ blk pv,e=.returned (.tuple #[.pointer (some ⟨blk,0,none⟩),.int .i64 0])∧Whole base w' D (R.openR blk pv)∧Below w.heap.size w w'∧∀ k,(R.openR blk pv).foot k→w.heap.size≤k:=by
 refine (open_core (R:={ R with blk:=w.heap.size }) w rfl (hL.reblk w.heap.size R.synced R.pv) hD hq hfl hnl hbase).mono ?_
 rintro e w' ⟨pv,rfl,h1,h2,h3⟩
 exact ⟨w.heap.size,pv,rfl,h1,h2,fun k hk=>by
  rcases hk with hk | hk
  · rw [hk]; exact Nat.le_refl _
  · exact h3 k hk⟩
end Go.Proofs.YtnoehodmmkioaaaGreatDoor.SegW
