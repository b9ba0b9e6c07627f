/- rec: Put. And what follows. -/
import Derived.Test.YtnoehodmmkioaaaGreatDoorF04
import Derived.Test.YtnoehodmmkioaaaGreatDoorF00
import Derived.MapKept
import Derived.Test.YtnoehodmmkioaaaGreatDoorF03
import Derived.Test.YtnoehodmmkioaaaGreatDoorF01
set_option maxHeartbeats 25600000
set_option maxRecDepth 100000
set_option linter.unusedVariables false
set_option linter.unusedSimpArgs false
namespace Go.Proofs.YtnoehodmmkioaaaGreatDoor.RecW
open Go.RowKit OctMath RecMath NameMath
theorem tabs_below {w w':World} {B:Nat} (h:CrcW.Tabs w B) (hB:B < w.heap.size) (hb:Below w.heap.size w w'):CrcW.Tabs w' B :=
 fun k j hk hj=>by rw [hb.cell (by simpa using hB)]; exact h k j hk hj
theorem put_any (B:Nat) (m:Msg) (hm:MsgOk m) (a:Option Addr) (c:Nat) (W:World) (hB:B < W.heap.size) (hT:CrcW.Tabs W B) (hS:Strs W a (m.keys.map S)) :
 Calls Tryz.prog 47 #[.pointer (some ⟨B,0,none⟩),.agg (cellsM m a c)] W fun e w'=>e=.returned (.tuple #[.string (S (putL m).1),.int .i64 (putL m).2])∧Below W.heap.size W w':=by
 have HB0:Hid (Below W.heap.size W (W.alloc (.cells (cellsM m a c) 53))):=(Below.refl _ W).alloc (Nat.le_refl _) _
 have HX:Hid (Boxed (W.alloc (.cells (cellsM m a c) 53)) W.heap.size (cellsM m a c)):=Boxed.new W _ _
 have HS0:=Lib.hid (Strs.below hS HB0.out)
 have HT:=Lib.hid hT
 have HBL:=Lib.hid hB
 have HM:=Lib.hid hm
 have HP:Hid (putL m=if rightL m=false then ([],1) else if m.kind=0 then (if m.body.length < 3 then ([],1) else (fillL m.body.length,0)) else (recL m,0)):=rfl
 have hsz:=S_size
 have hbn:m.body.length≤1073741824:=hm.body
 have hcu:(cellsM m a c).size=10:=rfl
 clear hm hS hT hB
 go_enter Tryz.func47,Tryz.ntmps47
 go_upto_region 1 with fail
 generalize W.alloc (.cells (cellsM m a c) 53)=w1 at *
 clear hcu
 obtain ⟨A,hA⟩:∃ A,W.heap.size=A:=⟨_,rfl⟩
 rw [hA] at HX HB0 ⊢ HBL
 obtain ⟨k0,k1,k2,k3,k4,k5,k6,k7,k8,k9⟩:=RecW.ten_cells HX.out
 have HR:=Lib.hid (right_any m HM.out a c w1 HS0.out)
 generalize hrl:rightL m=rl at *
 go_wp2_with fail
 refine HR.out.mono ?_
 rintro e w2 ⟨rfl,hb⟩
 have HB2:=Lib.hid (HB0.out.trans (hb.mono (by have:=HB0.out.size; omega)))
 have HX2:=Lib.hid (HX.out.below hb)
 have HS2:=Lib.hid (Strs.below HS0.out hb)
 clear hb HR k0 k1 k2 k3 k4 k5 k6 k7 k8 k9
 cases rl with
 | false =>
   have HF:Hid (putL m=([],1)):=by show _=_; rw [HP.out,if_pos rfl]
   clear HP
   go_wp2_with fail
   go_ret2
   exact ⟨by rw [HF.out]; rfl,hA ▸ HB2.out⟩
 | true =>
   replace HP:Hid (putL m=if m.kind=0 then (if m.body.length < 3 then ([],1) else (fillL m.body.length,0)) else (recL m,0)):=by show _=_; rw [HP.out,if_neg (by simp)]
   have k0:w2.cell? ⟨A,0,none⟩=some (.int .i64 m.kind):=HX2.out 0 _ rfl
   have k8:w2.cell? ⟨A,8,none⟩=some (.string (S m.body)):=HX2.out 8 _ rfl
   by_cases h0:m.kind=0
   case pos =>
    replace HP:Hid (putL m=if m.body.length < 3 then ([],1) else (fillL m.body.length,0)):=by show _=_; rw [HP.out,if_pos h0]
    have hb1024:m.body.length≤1024:=by
     have h:=hrl
     unfold rightL at h
     split at h
     · cases h
     · simp [h0] at h
       exact h.1.1
    have HFI:=Lib.hid (fill_any (m.body.length:Int) (by omega) (by omega) w2)
    clear hrl
    by_cases h3:m.body.length < 3
    ·
     rw [decide_eq_false (by omega)] at HFI
     have HF:Hid (putL m=([],1)):=by show _=_; rw [HP.out,if_pos h3]
     clear HP
     go_wp2_with fail
     refine HFI.out.mono ?_
     rintro e w3 ⟨rfl,hb⟩
     have HB3:=Lib.hid (HB2.out.trans (hb.mono (by have:=HB2.out.size; omega)))
     clear hb HFI
     go_wp2_with fail
     go_ret2
     exact ⟨by rw [HF.out]; rfl,hA ▸ HB3.out⟩
    ·
     rw [decide_eq_true (by omega)] at HFI
     have HF:Hid (putL m=(fillL m.body.length,0)):=by show _=_; rw [HP.out,if_neg h3]
     clear HP
     go_wp2_with fail
     refine HFI.out.mono ?_
     rintro e w3 ⟨rfl,hb⟩
     have HB3:=Lib.hid (HB2.out.trans (hb.mono (by have:=HB2.out.size; omega)))
     clear hb HFI
     go_wp2_with fail
     go_ret2
     exact ⟨by rw [HF.out]; rfl,hA ▸ HB3.out⟩
   case neg =>
    have HF:Hid (putL m=(recL m,0)):=by show _=_; rw [HP.out,if_neg h0]
    have k1:w2.cell? ⟨A,1,none⟩=some (.int .i64 m.queue):=HX2.out 1 _ rfl
    have k2:w2.cell? ⟨A,2,none⟩=some (.int .i64 m.due):=HX2.out 2 _ rfl
    have k3:w2.cell? ⟨A,3,none⟩=some (.int .i64 m.retry):=HX2.out 3 _ rfl
    have k4:w2.cell? ⟨A,4,none⟩=some (.int .i64 m.ref):=HX2.out 4 _ rfl
    have k5:w2.cell? ⟨A,5,none⟩=some (.int .i64 m.born):=HX2.out 5 _ rfl
    have k6:w2.cell? ⟨A,6,none⟩=some (.string (S m.topic)):=HX2.out 6 _ rfl
    have k7:w2.cell? ⟨A,7,none⟩=some (.string (S m.tag)):=HX2.out 7 _ rfl
    have k9:w2.cell? ⟨A,9,none⟩=some (.slice a m.keys.length c):=HX2.out 9 _ rfl
    have hil:=inside_len hrl h0
    have HI:=Lib.hid (inside_any m hrl h0 a c w2 HS2.out)
    have HSE:=Lib.hid (fun (w':World) (hb:Below A W w')=>CrcW.seal_any B (S (insideL m)) (by rw [S_size]; omega) w' (by have:=hb.size; have:=HBL.out; omega) (tabs_below HT.out (by rw [hA]; exact HBL.out) (by rw [hA]; exact hb)))
    have hse:(⟨(CrcMath.sealed (S (insideL m)).data.toList).toArray⟩:ByteArray)=S (CrcMath.sealed (insideL m)):=by rw [S_list]; rfl
    rw [hse] at HSE
    have hsl:(S (CrcMath.sealed (insideL m))).size=4+(insideL m).length:=by rw [S_size,CrcMath.sealed_length]
    have n2:OctW.numsW 2 [(3:Int)+((S (CrcMath.sealed (insideL m))).size:Int)]=(be 2 (3+(CrcMath.sealed (insideL m)).length),0):=by
     have e:(3:Int)+((S (CrcMath.sealed (insideL m))).size:Int)=((3+(CrcMath.sealed (insideL m)).length:Nat):Int):=by rw [S_size]; omega
     have hl:=CrcMath.sealed_length (insideL m)
     rw [e,show (2:Int)=((2:Nat):Int) from rfl,nums_fit 2 _ (by omega) (by omega) (fun x hx=>by rw [List.mem_singleton] at hx; subst hx; exact ⟨by omega,by show _ < ((256 ^ 2:Nat):Int); omega⟩)]
     show ([((3+(CrcMath.sealed (insideL m)).length:Nat):Int)].flatMap fun x=>be 2 x.toNat,0)=_
     rw [List.flatMap_cons,List.flatMap_nil,List.append_nil,Int.toNat_natCast]
    have HN:=Lib.hid (fun (w:World)=>OctW.nums_any 2 (by omega) (by omega) (some ⟨w.heap.size,0,none⟩) 1 [(3:Int)+((S (CrcMath.sealed (insideL m))).size:Int)] (by simp) (fun x hx=>by simp at hx; omega) _ (ints_new w _ 3))
    rw [n2] at HN
    change Hid (∀ w:World,Calls _ _ #[.int .i64 2,.slice (some ⟨w.heap.size,0,none⟩) 1 1] (w.alloc (.cells #[.int .i64 ((3:Int)+((S (CrcMath.sealed (insideL m))).size:Int))] _)) _) at HN
    have HRL:Hid (S [165]++S (be 2 (3+(CrcMath.sealed (insideL m)).length))++S (CrcMath.sealed (insideL m))=S (recL m)):=by
     show _=_
     rw [S_append,S_append]; rfl
    have z2:(S (be 2 (3+(CrcMath.sealed (insideL m)).length))).size=2:=by rw [S_size,be_length]
    generalize S (be 2 (3+(CrcMath.sealed (insideL m)).length))=s2 at *
    generalize S (CrcMath.sealed (insideL m))=se at *
    generalize S (insideL m)=si at *
    generalize (insideL m).length=il at *
    clear hse n2 hrl HP
    rw [hsl] at HN
    go_wp2_with fail
    refine HI.out.mono ?_
    rintro e w3 ⟨rfl,hb⟩
    have HB3:=Lib.hid (HB2.out.trans (hb.mono (by have:=HB2.out.size; omega)))
    clear hb HI k0 k1 k2 k3 k4 k5 k6 k7 k8 k9
    go_wp2_with fail
    refine (HSE.out w3 HB3.out).mono ?_
    rintro e w4 ⟨rfl,hb⟩
    have HB4:=Lib.hid (HB3.out.trans (hb.mono (by have:=HB3.out.size; omega)))
    clear hb HSE
    go_wp2_with fail
    refine (HN.out w4).mono ?_
    rintro e w5 ⟨rfl,hb⟩
    have HB5:=Lib.hid (HB4.out.trans ((((Below.refl w4.heap.size w4).alloc (Nat.le_refl _) _).trans (hb.mono (by rw [World.size_alloc]; omega))).mono (by have:=HB4.out.size; omega)))
    clear hb HN
    go_wp2_with fail
    go_ret2
    exact ⟨by rw [HF.out,← HRL.out]; rfl,hA ▸ HB5.out⟩
end Go.Proofs.YtnoehodmmkioaaaGreatDoor.RecW
namespace Go.Proofs.YtnoehodmmkioaaaGreatDoor.MapG
open Go.RowKit Go.MapKept
variable {P:Program}
structure Keyed (P:Program) (kt:TypeId) (K:Value→Prop):Prop where
 check:∀ k,K k→∀ e w,(Instr.checkKey e 10000 kt k).run P w=.ok () w
 find:∀ k,K k→∀ l:List MapEntry,(∀ x∈l,K x.key)→∀ w,((∀ x∈l,x.key≠k)∧(Instr.findKey kt k l).run P w=.ok none w)∨∃ j e,(Instr.findKey kt k l).run P w=.ok (some (j,e.val)) w∧l[j]?=some e∧e.key=k
 stays:∀ k,K k→∀ w,(Instr.keyThatStays k k).run P w=.ok k w
theorem Keyed.of_isKey {kt:TypeId} {d:TypeDesc} (hd:P.underlying kt=some d):Keyed P kt (IsKey d):=by
 refine ⟨fun k hk e w=>Go.MapKept.run_checkKey hd hk e 9999,fun k hk l hl w=>?_,fun k hk w=>Go.MapKept.run_keyThatStays hk⟩
 rcases findNow_spec hk l 0 hl with ⟨h1,h2⟩ | ⟨j,e,h1,h2,h3⟩
 · exact .inl ⟨h2,Go.MapKept.run_findKey hd h1⟩
 · exact .inr ⟨j,e,by rw [Go.MapKept.run_findKey hd h1,Nat.zero_add],h2,h3⟩
theorem run_asking {kt:TypeId} {K:Value→Prop} (heq:∀ a b,K a→K b→∀ w,∃ r,(Op.equal kt a b).run P w=.ok r w∧(r=true↔a=b)) {k:Value} (hk:K k) (w:World):∀ (l:List MapEntry) (i:Nat),(∀ x∈l,K x.key) →
 ((∀ x∈l,x.key≠k)∧(Instr.findAsking kt k l i).run P w=.ok none w)∨∃ j e,(Instr.findAsking kt k l i).run P w=.ok (some (i+j,e.val)) w∧l[j]?=some e∧e.key=k
 | [],i,_=>.inl ⟨by simp,by simp [Instr.findAsking]⟩
 | e :: es,i,h=>by
   obtain ⟨r,hr,hiff⟩:=heq k e.key hk (h e (.head _)) w
   cases r with
   | true=>exact .inr ⟨0,e,by simp [Instr.findAsking,Sem.run_bind,hr,Result.andThen],rfl,(hiff.1 rfl).symm⟩
   | false =>
     have hne:e.key≠k:=fun q=>by have:=hiff.2 q.symm; cases this
     rcases run_asking heq hk w es (i+1) (fun x hx=>h x (.tail _ hx)) with ⟨h1,h2⟩ | ⟨j,e',h1,h2,h3⟩
     · exact .inl ⟨fun x hx=>by
        cases hx with
        | head=>exact hne
        | tail _ hx=>exact h1 x hx,by simp [Instr.findAsking,Sem.run_bind,hr,Result.andThen,h2]⟩
     · exact .inr ⟨j+1,e',by simp [Instr.findAsking,Sem.run_bind,hr,Result.andThen,h1]; omega,by simpa using h2,h3⟩
theorem Keyed.of_equal {kt:TypeId} {d:TypeDesc} {K:Value→Prop} (hd:P.underlying kt=some d) (hnow:∀ a b,K a→K b→Instr.sameNow d a b=none) (heq:∀ a b,K a→K b→∀ w,∃ r,(Op.equal kt a b).run P w=.ok r w∧(r=true↔a=b))
 (hc:∀ k,K k→∀ e w,(Instr.checkKey e 10000 kt k).run P w=.ok () w) (hs:∀ k,K k→Instr.sameBits 10000 k k=true):Keyed P kt K:=by
 refine ⟨hc,fun k hk l hl w=>?_,fun k hk w=>by simp [Instr.keyThatStays,hs k hk]⟩
 cases l with
 | nil=>exact .inl ⟨by simp,by simp [Instr.findKey,run_underlying hd,Result.andThen,Instr.findNow]⟩
 | cons e es =>
   have hn:Instr.findNow d k (e :: es) 0=none:=by simp [Instr.findNow,hnow k e.key hk (hl e (.head _))]
   have hr:(Instr.findKey kt k (e :: es)).run P w=(Instr.findAsking kt k (e :: es) 0).run P w:=by simp [Instr.findKey,run_underlying hd,Result.andThen,hn]
   rw [hr]
   rcases run_asking heq hk w (e :: es) 0 hl with ⟨h1,h2⟩ | ⟨j,e',h1,h2,h3⟩
   · exact .inl ⟨h1,h2⟩
   · exact .inr ⟨j,e',by rw [h1,Nat.zero_add],h2,h3⟩
def PairsAt (w:World) (b:Nat) (l:List (Value×Value)):Prop:=∃ es c,w.heap[b]?=some (.map es c)∧Stamped es c∧es.toList.map (fun e=>(e.key,e.val))=l
theorem PairsAt.lt {w:World} {b:Nat} {l:List (Value×Value)} (h:PairsAt w b l):b < w.heap.size:=by
 obtain ⟨es,c,h1,_⟩:=h; exact (Array.getElem?_eq_some_iff.1 h1).1
theorem PairsAt.mod {w w':World} {b:Nat} {l:List (Value×Value)} {M:Nat→Prop} (h:PairsAt w b l) (hm:Mod M w w') (hM:¬ M b):PairsAt w' b l:=by
 obtain ⟨es,c,h1,h2,h3⟩:=h
 exact ⟨es,c,(hm.block b (Array.getElem?_eq_some_iff.1 h1).1 hM).trans h1,h2,h3⟩
theorem PairsAt.below {w w':World} {b:Nat} {l:List (Value×Value)} (h:PairsAt w b l) (hb:Below w.heap.size w w'):PairsAt w' b l:=h.mod (M:=fun _=>False) (Mod.of_below hb) (fun h=>h)
theorem PairsAt.new (w:World):PairsAt (w.alloc (.map #[] 0)) w.heap.size []:=⟨#[],0,heap_alloc_new w _,stamped_empty 0,rfl⟩
theorem PairsAt.nodup {w:World} {b:Nat} {l:List (Value×Value)} (h:PairsAt w b l):(l.map (·.1)).Nodup:=by
 obtain ⟨es,c,h1,h2,h3⟩:=h
 rw [← h3,List.map_map]
 exact h2.2.2
theorem keys_of {K:Value→Prop} {es:List MapEntry} {l:List (Value×Value)} (h:es.map (fun e=>(e.key,e.val))=l) (hl:∀ p∈l,K p.1):∀ x∈es,K x.key:=fun x hx=>hl (x.key,x.val) (h ▸ List.mem_map.2 ⟨x,hx,rfl⟩)
theorem pair_inj {l:List (Value×Value)} (h:(l.map (·.1)).Nodup) {k a b:Value} (ha:(k,a)∈l) (hb:(k,b)∈l):a=b:=by
 induction l with
 | nil=>cases ha
 | cons p l ih =>
   simp only [List.map_cons,List.nodup_cons] at h
   rcases List.mem_cons.1 ha with e1 | h1 <;> rcases List.mem_cons.1 hb with e2 | h2
   · rw [← e1] at e2; exact (Prod.mk.inj e2).2.symm
   · exact absurd (List.mem_map.2 ⟨_,h2,rfl⟩) (by rw [← e1] at h; exact h.1)
   · exact absurd (List.mem_map.2 ⟨_,h1,rfl⟩) (by rw [← e2] at h; exact h.1)
   · exact ih h.2 h1 h2
theorem lookup_has {mt kt et:TypeId} {K:Value→Prop} (hm:P.underlying mt=some (.map kt et)) (hK:Keyed P kt K) {w:World} {b:Nat} {l:List (Value×Value)} (h:PairsAt w b l) (hl:∀ p∈l,K p.1) {k v:Value} (hk:K k) (hv:(k,v)∈l) (ok:Bool) :
 (Instr.lookup mt (.map (some b)) k ok).run P w=.ok (if ok then .tuple #[v,.bool true] else v) w:=by
 have hnd:=h.nodup
 obtain ⟨es,c,hb,hst,hmap⟩:=h
 rcases hK.find k hk es.toList (keys_of hmap hl) w with ⟨h1,h2⟩ | ⟨j,e,h1,h2,h3⟩
 ·
  exfalso
  rw [← hmap] at hv
  obtain ⟨x,hx,he⟩:=List.mem_map.1 hv
  exact h1 x hx (Prod.mk.inj he).1
 ·
  have hev:e.val=v:=by
   have hm1:(k,e.val)∈l:=by rw [← hmap,← h3]; exact List.mem_map.2 ⟨e,List.mem_of_getElem? h2,rfl⟩
   exact pair_inj hnd hm1 hv
  cases ok <;> simp [Instr.lookup,run_underlying hm,Go.MapKept.run_getObj_map hb,hK.check k hk,h1,Result.andThen,hev]
theorem lookup_not {mt kt et:TypeId} {K:Value→Prop} (hm:P.underlying mt=some (.map kt et)) (hK:Keyed P kt K) {w:World} {b:Nat} {l:List (Value×Value)} (h:PairsAt w b l) (hl:∀ p∈l,K p.1) {k:Value} (hk:K k) (hn:∀ p∈l,p.1≠k)
 {z:Value} (hz:∀ w,(zeroValue et).run P w=.ok z w) (ok:Bool) :
 (Instr.lookup mt (.map (some b)) k ok).run P w=.ok (if ok then .tuple #[z,.bool false] else z) w:=by
 obtain ⟨es,c,hb,hst,hmap⟩:=h
 rcases hK.find k hk es.toList (keys_of hmap hl) w with ⟨h1,h2⟩ | ⟨j,e,h1,h2,h3⟩
 · cases ok <;> simp [Instr.lookup,run_underlying hm,Go.MapKept.run_getObj_map hb,hK.check k hk,h2,Result.andThen,hz]
 · exfalso
   exact hn (e.key,e.val) (hmap ▸ List.mem_map.2 ⟨e,List.mem_of_getElem? h2,rfl⟩) h3
theorem update_new {mt kt et:TypeId} {K:Value→Prop} (hm:P.underlying mt=some (.map kt et)) (hK:Keyed P kt K) {w:World} {b:Nat} {l:List (Value×Value)} (h:PairsAt w b l) (hl:∀ p∈l,K p.1) {k:Value} (hk:K k) (hn:∀ p∈l,p.1≠k) (v:Value) :
 ∃ w',(Instr.mapUpdate mt (.map (some b)) k v).run P w=.ok () w'∧PairsAt w' b (l++[(k,v)])∧Mod (fun x=>x=b) w w':=by
 obtain ⟨es,c,hb,hst,hmap⟩:=h
 rcases hK.find k hk es.toList (keys_of hmap hl) w with ⟨h1,h2⟩ | ⟨j,e,h1,h2,h3⟩
 ·
  have hrun:(Instr.mapUpdate mt (.map (some b)) k v).run P w=.ok () { w with heap:=w.heap.setIfInBounds b (.map (es.push ⟨k,v,c⟩) (c+1)) }:=by
   simp [Instr.mapUpdate,run_underlying hm,Go.MapKept.run_getObj_map hb,hK.check k hk,h2,Go.MapKept.run_setObj_map _ hb,Result.andThen]
  refine ⟨_,hrun,⟨es.push ⟨k,v,c⟩,c+1,(heap_set hb).1,stamped_push hst h1,?_⟩,⟨rfl,rfl,rfl,by simp,fun r _ hr=>(heap_set hb).2 r hr⟩⟩
  rw [Array.toList_push,List.map_append,hmap]; rfl
 · exfalso
   exact hn (e.key,e.val) (hmap ▸ List.mem_map.2 ⟨e,List.mem_of_getElem? h2,rfl⟩) h3
theorem update_old {mt kt et:TypeId} {K:Value→Prop} (hm:P.underlying mt=some (.map kt et)) (hK:Keyed P kt K) {w:World} {b:Nat} {l l1 l2:List (Value×Value)} (h:PairsAt w b l) (hl:∀ p∈l,K p.1) {k v0:Value} (hk:K k) (he:l=l1++(k,v0) :: l2) (v:Value) :
 ∃ w',(Instr.mapUpdate mt (.map (some b)) k v).run P w=.ok () w'∧PairsAt w' b (l1++(k,v) :: l2)∧Mod (fun x=>x=b) w w':=by
 have hnd:=h.nodup
 obtain ⟨es,c,hb,hst,hmap⟩:=h
 rcases hK.find k hk es.toList (keys_of hmap hl) w with ⟨h1,h2⟩ | ⟨j,e,h1,h2,h3⟩
 ·
  exfalso
  have:(k,v0)∈es.toList.map (fun e=>(e.key,e.val)):=by rw [hmap,he]; simp
  obtain ⟨x,hx,hxe⟩:=List.mem_map.1 this
  exact h1 x hx (Prod.mk.inj hxe).1
 ·
  have hj:es[j]?=some e:=by simpa using h2
  have hrun:(Instr.mapUpdate mt (.map (some b)) k v).run P w=.ok () { w with heap:=w.heap.setIfInBounds b (.map (es.modify j fun e=>{ e with key:=k,val:=v }) c) }:=by
   simp [Instr.mapUpdate,run_underlying hm,Go.MapKept.run_getObj_map hb,hK.check k hk,h1,hj,h3,hK.stays k hk,Go.MapKept.run_setObj_map _ hb,Result.andThen]
  have hkey:∀ e',es[j]?=some e'→({ e' with key:=k,val:=v }:MapEntry).key=e'.key:=fun e' he'=>by rw [hj] at he'; cases he'; exact h3.symm
  refine ⟨_,hrun,⟨_,c,(heap_set hb).1,stamped_modify hst _ _ (fun _ _=>rfl) (fun e' _ he'=>hkey e' he'),?_⟩,⟨rfl,rfl,rfl,by simp,fun r _ hr=>(heap_set hb).2 r hr⟩⟩
  have hjl:l[j]?=some (k,e.val):=by rw [← hmap,List.getElem?_map,h2,Option.map_some,h3]
  have hl1:l1.length=j:=by
   have hx:l[l1.length]?=some (k,v0):=by rw [he]; simp
   have hn1:(l.map (·.1))[l1.length]?=some k:=by rw [List.getElem?_map,hx]; rfl
   have hn2:(l.map (·.1))[j]?=some k:=by rw [List.getElem?_map,hjl]; rfl
   obtain ⟨p1,q1⟩:=List.getElem?_eq_some_iff.1 hn1
   obtain ⟨p2,q2⟩:=List.getElem?_eq_some_iff.1 hn2
   rcases Nat.lt_trichotomy l1.length j with h | h | h
   · exact absurd (q1.trans q2.symm) (List.pairwise_iff_getElem.1 hnd _ _ p1 p2 h)
   · exact h
   · exact absurd (q2.trans q1.symm) (List.pairwise_iff_getElem.1 hnd _ _ p2 p1 h)
  apply List.ext_getElem?
  intro i
  rw [List.getElem?_map,Array.getElem?_toList,Array.getElem?_modify]
  by_cases hi:j=i
  · subst hi
    rw [if_pos rfl,hj,← hl1]
    simp
  ·
   rw [if_neg hi]
   have h1:(es[i]?.map fun e=>(e.key,e.val))=l[i]?:=by rw [← hmap,List.getElem?_map,Array.getElem?_toList]
   rw [h1,he]
   have hne:i≠l1.length:=fun e=>hi (e ▸ hl1.symm)
   rcases Nat.lt_or_ge i l1.length with hlt | hge
   · rw [List.getElem?_append_left hlt,List.getElem?_append_left hlt]
   · rw [List.getElem?_append_right hge,List.getElem?_append_right hge]
     obtain ⟨m,hm'⟩:∃ m,i - l1.length=m+1:=⟨i - l1.length - 1,by omega⟩
     rw [hm',List.getElem?_cons_succ,List.getElem?_cons_succ]
end Go.Proofs.YtnoehodmmkioaaaGreatDoor.MapG
namespace Go.Proofs.YtnoehodmmkioaaaGreatDoor.TapeW
open Go.RowKit Go.MapKept OctMath RecMath TapeMath DskW SegW MapG
def tapeH:List UInt8:=[116,97,112,101,45]
def Waiting (D:DiskD) (R:SegD):Prop:=∀ x∈D.waits,R.synced < R.e∧∃ i,i < R.n∧R.synced < R.b+i * R.size+R.size∧∃ f,D.find (nameL R.head (R.b+i * R.size))=some f∧f.blk=x.blk
def idsL (l:List (Nat×Msg)):List Value:=l.map fun p=>.int .i64 (p.1:Int)
def sizesL (l:List (Nat×Msg)):List (Value×Value):=l.map fun p=>(.int .i64 (p.1:Int),.int .i64 ((recL p.2).length:Int))
structure OwnD where
 blk:Nat
 rb:Nat
 sums:Nat
 idv:Value
 mB:Nat
 last:Int
 recs:List (Nat×Msg)
def OwnD.cells (T:OwnD):Array Value:=#[.pointer (some ⟨T.rb,0,none⟩),.pointer (some ⟨T.sums,0,none⟩),T.idv,.map (some T.mB),.int .i64 T.last]
def OwnD.foot (T:OwnD) (k:Nat):Prop:=k=T.blk∨k=T.sums∨k=T.mB∨T.idv.ownBlock=some k
structure OwnAt (base:Nat) (w:World) (T:OwnD):Prop where
 cells:w.heap[T.blk]?=some (.cells T.cells 84 (0,0))
 ids:w.ownsRow base 3 1 T.idv T.recs.length (idsL T.recs)
 sizes:PairsAt w T.mB (sizesL T.recs)
 tabs:CrcW.Tabs w T.sums
 low:T.sums < w.heap.size∧base≤T.sums∧base≤T.blk∧base≤T.mB
 apart:T.blk≠T.sums∧T.blk≠T.mB∧T.sums≠T.mB∧∀ k,T.idv.ownBlock=some k→k≠T.blk∧k≠T.sums∧k≠T.mB
theorem OwnAt.lt {base:Nat} {w:World} {T:OwnD} (h:OwnAt base w T) {k:Nat} (hk:T.foot k):k < w.heap.size:=by
 rcases hk with hk | hk | hk | hk
 · rw [hk]; exact (Array.getElem?_eq_some_iff.1 h.cells).1
 · rw [hk]; exact h.low.1
 · rw [hk]; exact h.sizes.lt
 · rcases h.ids.2 with ⟨e,_⟩ | ⟨g,cap,cur,e,_,hg,_⟩
   · rw [e] at hk; cases hk
   · rw [e] at hk; cases hk; exact (Array.getElem?_eq_some_iff.1 hg).1
theorem OwnAt.base_le {base:Nat} {w:World} {T:OwnD} (h:OwnAt base w T) {k:Nat} (hk:T.foot k):base≤k:=by
 rcases hk with hk | hk | hk | hk
 · rw [hk]; exact h.low.2.2.1
 · rw [hk]; exact h.low.2.1
 · rw [hk]; exact h.low.2.2.2
 · exact ownBlock_of_own h.ids k hk
theorem tabs_mod {M:Nat→Prop} {w w':World} {B:Nat} (h:CrcW.Tabs w B) (hB:B < w.heap.size) (hm:Mod M w w') (hM:¬ M B):CrcW.Tabs w' B :=
 fun k j hk hj=>by rw [hm.cell (by simpa using hB) (by simpa using hM)]; exact h k j hk hj
theorem OwnAt.mod {base:Nat} {w w':World} {T:OwnD} {M:Nat→Prop} (h:OwnAt base w T) (hm:Mod M w w') (hM:∀ k,T.foot k→¬ M k):OwnAt base w' T :=
 { h with
  cells:=(hm.block _ (h.lt (.inl rfl)) (hM _ (.inl rfl))).trans h.cells
  ids:=SegW.ownsRow_mod h.ids hm (fun k hk=>hM k (.inr (.inr (.inr hk))))
  sizes:=h.sizes.mod hm (hM _ (.inr (.inr (.inl rfl))))
  tabs:=tabs_mod h.tabs h.low.1 hm (hM _ (.inr (.inl rfl)))
  low:=⟨Nat.lt_of_lt_of_le h.low.1 hm.size,h.low.2⟩ }
theorem OwnAt.below {base:Nat} {w w':World} {T:OwnD} (h:OwnAt base w T) (hb:Below w.heap.size w w'):OwnAt base w' T :=
 h.mod (M:=fun _=>False) (Mod.of_below hb) (fun _ _ h=>h)
theorem OwnAt.cell {base:Nat} {w:World} {T:OwnD} (h:OwnAt base w T) (k:Nat) (v:Value) (hv:T.cells[k]?=some v):w.cell? ⟨T.blk,k,Option.none⟩=some v:=by
 unfold World.cell?; rw [show w.heap[(⟨T.blk,k,Option.none⟩:Addr).block]?=_ from h.cells]; simpa using hv
structure TapeD where
 O:OwnD
 D:DiskD
 R:SegD
 its:List TapeMath.Item
def TapeD.foot (T:TapeD) (k:Nat):Prop:=T.O.foot k∨T.D.foot k∨T.R.foot k
structure TapeAt (base:Nat) (w:World) (T:TapeD):Prop where
 own:OwnAt base w T.O
 rb:T.O.rb=T.R.blk
 recs:T.O.recs=recsOf T.R.b T.its
 away:∀ k,T.O.foot k→¬ T.D.foot k∧¬ T.R.foot k
 whole:Whole base w T.D T.R
 head:T.R.head=tapeH
 size:T.R.size=1024
 txt:T.R.txt=bytesL T.its
 fits:Fits T.R.b T.its
 last:∀ p,T.O.recs.getLast?=some p→T.O.last=p.2.born
 wait:Waiting T.D T.R
theorem TapeAt.lt {base:Nat} {w:World} {T:TapeD} (h:TapeAt base w T) {k:Nat} (hk:T.foot k):k < w.heap.size:=by
 rcases hk with hk | hk | hk
 · exact h.own.lt hk
 · exact h.whole.dsk.lt hk
 · exact h.whole.seg.lt hk
theorem TapeAt.base_le {base:Nat} {w:World} {T:TapeD} (h:TapeAt base w T) {k:Nat} (hk:T.foot k):base≤k:=by
 rcases hk with hk | hk | hk
 · exact h.own.base_le hk
 · exact h.whole.dsk.base_le hk
 · rcases hk with hk | hk
   · rw [hk]; exact h.whole.seg.above
   · exact ownBlock_of_own h.whole.seg.row k hk
theorem TapeAt.mod {base:Nat} {w w':World} {T:TapeD} {M:Nat→Prop} (h:TapeAt base w T) (hm:Mod M w w') (hM:∀ k,T.foot k→¬ M k):TapeAt base w' T :=
 { h with
  own:=h.own.mod hm (fun k hk=>hM k (.inl hk))
  whole:=h.whole.mod hm (fun k hk=>hM k (.inr (.inl hk))) (fun k hk=>hM k (.inr (.inr hk))) }
theorem TapeAt.below {base:Nat} {w w':World} {T:TapeD} (h:TapeAt base w T) (hb:Below w.heap.size w w'):TapeAt base w' T :=
 h.mod (M:=fun _=>False) (Mod.of_below hb) (fun _ _ h=>h)
theorem room_eq {base:Nat} {w:World} {R:SegD} (h:SegAt base w R) (hs:R.size=1024):R.room=roomL R.e:=by
 have hm:=h.mult
 rw [hs] at hm
 unfold SegD.room roomL SegD.e
 rw [hs]
 rcases Nat.eq_zero_or_pos R.n with h0 | hp
 · rw [if_neg (by omega),(h.empty h0).2,(h.empty h0).1]; rfl
 · obtain ⟨l1,l2,l3⟩:=h.long hp
   rw [hs] at l1 l2
   split <;> omega
theorem room_le (e:Nat):1≤roomL e∧roomL e≤1024:=by unfold roomL; omega
theorem Waiting.app {base:Nat} {w w':World} {D D':DiskD} {R R':SegD} {s:List UInt8} (h:Waiting D R) (hR:SegAt base w R) (hR':SegAt base w' R') (ha:AppOk D D' R R' s) (h0:s≠[]) (he:R'={ R with n:=R'.n,pv:=R'.pv,txt:=R.txt++s }) (hp:0 < R'.n):Waiting D' R':=by
 have e1:R'.synced=R.synced:=by rw [he]
 have e2:R'.b=R.b:=by rw [he]
 have e3:R'.size=R.size:=by rw [he]
 have e4:R'.head=R.head:=by rw [he]
 have e5:R'.txt=R.txt++s:=by rw [he]
 have hsl:0 < s.length:=List.length_pos_iff.2 h0
 have e6:R'.e=R.e+s.length:=by unfold SegD.e; rw [e2,e5,List.length_append]; omega
 have hsy:=hR.syn
 obtain ⟨l1,l2,l3⟩:=hR'.long hp
 have hnn:R.n≤R'.n:=by
  rcases Nat.lt_or_ge R'.n R.n with hlt | hge
  ·
   exfalso
   obtain ⟨k1,k2,k3⟩:=hR.long (by omega)
   have:R'.n * R.size≤(R.n - 1) * R.size:=Nat.mul_le_mul_right _ (by omega)
   rw [e5,List.length_append,e3] at l2
   omega
  · exact hge
 obtain ⟨f,o,hf,hw⟩:=ha.waits
 intro x hx
 rw [hw] at hx
 rw [e1,e2,e3,e4,e6]
 refine ⟨by omega,?_⟩
 rcases List.mem_append.1 hx with hx | hx
 · obtain ⟨g1,i,g2,g3,f0,g4,g5⟩:=h x hx
   obtain ⟨f1,g6,g7,_⟩:=ha.blks _ _ g4
   exact ⟨i,by omega,g3,f1,g6,g7.trans g5⟩
 ·
  rw [List.mem_singleton] at hx
  subst hx
  refine ⟨R'.n - 1,by omega,?_,f,?_,rfl⟩
  ·
   have h1:=mul_pred (s:=R.size) hp
   have:R'.e=R'.b+R'.txt.length:=rfl
   rw [e3] at l2
   rw [e2] at this
   omega
  · unfold SegD.lastP at hf
    rw [e2,e3] at hf
    exact hf
theorem Waiting.none {D:DiskD} {R:SegD} (h:D.waits=[]):Waiting D R:=fun x hx=>by rw [h] at hx; cases hx
theorem Waiting.sync {base:Nat} {w:World} {D:DiskD} {R:SegD} (h:Waiting D R) (hR:SegAt base w R) (hD:DiskAt base w D) (wv:Value):(R.syncD D wv).waits=[]:=by
 unfold SegD.syncD
 by_cases hn:R.syncL=[]
 ·
  rw [if_pos hn]
  have he:=(syncL_nil hR).1 hn
  cases hw:D.waits with
  | nil=>rfl
  | cons x l =>
    have:=(h x (by rw [hw]; exact .head _)).1
    omega
 ·
  rw [if_neg hn]
  unfold DiskD.lasts
  simp only
  rw [List.filter_eq_nil_iff]
  intro x hx
  obtain ⟨g1,i,g2,g3,f,g4,g5⟩:=h x hx
  simp only [Bool.not_eq_true,Bool.not_eq_false',Bool.not_eq_eq_eq_not,Bool.not_true,Bool.not_false]
  have hmem:=find_some g4
  have hin:nameL R.head (R.b+i * R.size)∈R.syncL:=by
   unfold SegD.syncL SegD.syncK
   rw [if_pos g1]
   exact List.mem_map.2 ⟨i,List.mem_filter.2 ⟨List.mem_range.2 g2,decide_eq_true g3⟩,rfl⟩
  have:D.files.any (fun p=>decide (p.1∈R.syncL) && decide (x.blk=p.2.blk))=true:=List.any_eq_true.2 ⟨_,hmem,by rw [decide_eq_true hin,decide_eq_true g5.symm]; rfl⟩
  simp [this]
open RecW
theorem TapeAt.c0 {base:Nat} {w:World} {T:TapeD} (h:TapeAt base w T):w.cell? ⟨T.O.blk,0,none⟩=some (.pointer (some ⟨T.R.blk,0,none⟩)):=h.own.cell 0 _ (by rw [← h.rb]; rfl)
theorem begin_any {base:Nat} {T:TapeD} (w:World) (h:TapeAt base w T) :
 Calls Tryz.prog 65 #[.pointer (some ⟨T.O.blk,0,none⟩)] w fun e w'=>e=.returned (.int .i64 (T.R.b:Int))∧w'=w:=by
 have HB:=Lib.hid (SegW.begin_any w h.whole.seg)
 have c0:=h.c0
 clear h
 go_enter Tryz.func65,Tryz.ntmps65
 go_wp2_with fail
 refine HB.out.mono ?_
 rintro e w' ⟨rfl,rfl⟩
 go_wp2_with fail
 go_ret
 exact ⟨rfl,rfl⟩
theorem end_any {base:Nat} {T:TapeD} (w:World) (h:TapeAt base w T) :
 Calls Tryz.prog 9 #[.pointer (some ⟨T.O.blk,0,none⟩)] w fun e w'=>e=.returned (.int .i64 (T.R.e:Int))∧w'=w:=by
 have HB:=Lib.hid (SegW.end_any w h.whole.seg)
 have c0:=h.c0
 clear h
 go_enter Tryz.func9,Tryz.ntmps9
 go_wp2_with fail
 refine HB.out.mono ?_
 rintro e w' ⟨rfl,rfl⟩
 go_wp2_with fail
 go_ret
 exact ⟨rfl,rfl⟩
theorem synced_any {base:Nat} {T:TapeD} (w:World) (h:TapeAt base w T) :
 Calls Tryz.prog 79 #[.pointer (some ⟨T.O.blk,0,none⟩)] w fun e w'=>e=.returned (.int .i64 (T.R.synced:Int))∧w'=w:=by
 have HB:=Lib.hid (SegW.synced_any w h.whole.seg)
 have c0:=h.c0
 clear h
 go_enter Tryz.func79,Tryz.ntmps79
 go_wp2_with fail
 refine HB.out.mono ?_
 rintro e w' ⟨rfl,rfl⟩
 go_wp2_with fail
 go_ret
 exact ⟨rfl,rfl⟩
theorem loose_no (v:Value) (p:Nat) (hp:p≤1099511627776) (h:3≤1024 - p % 1024) (w:World) :
 Calls Tryz.prog 173 #[v,.int .i64 (p:Int)] w fun e w'=>e=.returned (.bool false)∧w'=w:=by
 have h1:(p:Int).tmod 1024=((p % 1024:Nat):Int):=by rw [Int.tmod_eq_emod_of_nonneg (by omega)]; omega
 have h2:¬ ((1024:Int) - ((p % 1024:Nat):Int) < 3):=by omega
 have hlt:p % 1024 < 1024:=Nat.mod_lt _ (by omega)
 generalize p % 1024=z at *
 go_enter Tryz.func173,Tryz.ntmps173
 go_wp2_with fail
 go_ret
 exact ⟨rfl,rfl⟩
def sizeR (l:List (Nat×Msg)) (id:Int):Int:=((l.find? fun p=>decide ((p.1:Int)=id)).map fun p=>((recL p.2).length:Int)).getD 0
theorem keyedI:Keyed Tryz.prog 3 (IsKey (.int .i64)):=Keyed.of_isKey Tryz.underlying3
theorem keysS (l:List (Nat×Msg)):∀ p∈sizesL l,IsKey (.int .i64) p.1:=fun p hp=>by
 obtain ⟨q,_,rfl⟩:=List.mem_map.1 hp; rfl
theorem lookupS {base:Nat} {w:World} {T:OwnD} (h:OwnAt base w T) (id:Int) :
 (Instr.lookup 82 (.map (some T.mB)) (.int .i64 id) false).run Tryz.prog w=.ok (.int .i64 (sizeR T.recs id)) w:=by
 have hm:=Tryz.underlying82
 unfold sizeR
 cases hf:T.recs.find? (fun p=>decide ((p.1:Int)=id)) with
 | none =>
   have hn:=List.find?_eq_none.1 hf
   exact lookup_not hm keyedI h.sizes (keysS _) (k:=.int .i64 id) rfl (fun p hp=>by
    obtain ⟨q,hq,rfl⟩:=List.mem_map.1 hp
    intro e
    exact hn q hq (by simpa using e)) (z:=.int .i64 0) (fun w=>by kernel_rfl) false
 | some q =>
   obtain ⟨h1,a,b,h2,h3⟩:=List.find?_eq_some_iff_append.1 hf
   exact lookup_has hm keyedI h.sizes (keysS _) (k:=.int .i64 id) (v:=.int .i64 ((recL q.2).length:Int)) rfl (List.mem_map.2 ⟨q,by rw [h2]; simp,by rw [show ((q.1:Int))=id by simpa using h1]⟩) false
theorem size_any {base:Nat} {T:OwnD} (id:Int) (w:World) (h:OwnAt base w T) :
 Calls Tryz.prog 81 #[.pointer (some ⟨T.blk,0,none⟩),.int .i64 id] w fun e w'=>e=.returned (.int .i64 (sizeR T.recs id))∧w'=w:=by
 have hl:=lookupS h id
 have c3:w.cell? ⟨T.blk,3,none⟩=some (.map (some T.mB)):=h.cell 3 _ rfl
 clear h
 generalize sizeR T.recs id=z at *
 go_enter Tryz.func81,Tryz.ntmps81
 go_wp2_with fail
 go_ret
 exact ⟨rfl,rfl⟩
theorem updateS {w:World} {l:List (Nat×Msg)} {mB:Nat} (h:PairsAt w mB (sizesL l)) (id:Nat) (m:Msg) (hn:∀ p∈l,p.1≠id) :
 ∃ w',(Instr.mapUpdate 82 (.map (some mB)) (.int .i64 (id:Int)) (.int .i64 ((recL m).length:Int))).run Tryz.prog w=.ok () w'∧PairsAt w' mB (sizesL (l++[(id,m)]))∧Mod (fun k=>k=mB) w w':=by
 obtain ⟨w',h1,h2,h3⟩:=update_new Tryz.underlying82 keyedI h (keysS _) (k:=.int .i64 (id:Int)) rfl (fun p hp=>by
  obtain ⟨q,hq,rfl⟩:=List.mem_map.1 hp
  intro e
  have:(q.1:Int)=(id:Int):=by simpa using e
  exact hn q hq (by omega)) (.int .i64 ((recL m).length:Int))
 refine ⟨w',h1,?_,h3⟩
 unfold sizesL at h2 ⊢
 rw [List.map_append]; exact h2
theorem append_int {base:Nat} {w:World} {v:Value} {n:Nat} {xs:List Value} (h:w.ownsRow base 3 1 v n xs) (x:Int) (hn:n≤1073741824) (hbase:base≤w.heap.size) :
 ∃ v' w8,(Builtin.append_ #[49,49] 49 #[v,.slice (some ⟨w.heap.size,0,none⟩) 1 1]).run Tryz.prog (w.alloc (.cells #[.int .i64 x] 3))=.ok v' w8 ∧
  w8.ownsRow base 3 1 v' (n+1) (xs++[.int .i64 x])∧Mod (fun k=>v.ownBlock=some k) w w8∧(∃ a cp,v'=.slice a (n+1) cp)∧∀ k,v'.ownBlock=some k→v.ownBlock=some k∨w.heap.size≤k:=by
 have hb7:Below w.heap.size w (w.alloc (.cells #[.int .i64 x] 3)):=(Below.refl _ _).alloc (Nat.le_refl _) _
 have hd7:=SegW.ownsRow_mod (M:=fun _=>False) h (Mod.of_below hb7) (fun _ _ h=>h)
 obtain ⟨i0,hi0,hz0,hz1,hz2⟩:∃ i,Tryz.prog.info? 3=some i∧i.zero=some (.int .i64 0)∧i.size=1∧i.bytes=8:=by
  have:=(show (Tryz.prog.info? 3).map (fun i=>(i.zero,i.size,i.bytes))=some (some (.int .i64 0),1,8) by kernel_rfl)
  cases hh:Tryz.prog.info? 3 with
  | none=>rw [hh] at this; cases this
  | some i=>rw [hh] at this; have h2:=Option.some.inj this; exact ⟨i,rfl,congrArg (·.1) h2,congrArg (·.2.1) h2,congrArg (·.2.2) h2⟩
 obtain ⟨v',w8,hr,hrow,hgb,_,hob⟩:=run_append_own_at (P:=Tryz.prog) _ base 49 49 3 i0 (.int .i64 0) 1 8 Tryz.underlying49 hi0 hz0 hz1 hz2 rfl (by omega) _ _ _ hd7
  ⟨w.heap.size,0,none⟩ 1 1 [.int .i64 x] rfl (fun j u hu=>by
   have hadd:(⟨w.heap.size,0,none⟩:Addr).add j=⟨w.heap.size,j,none⟩:=by unfold Addr.add; split <;> simp_all
   rw [hadd,World.cell?_alloc_new]
   match j,hu with
   | 0,hu=>exact hu
   | j+1,hu=>cases hu) (fun u hu=>by
   rw [List.mem_singleton] at hu; subst hu; rfl) (by unfold maxLen; omega) (by omega) (Nat.le_trans hbase hb7.size)
 have hsz7:(w.alloc (.cells #[.int .i64 x] 3)).heap.size=w.heap.size+1:=World.size_alloc _ _
 refine ⟨v',w8,hr,hrow,(Mod.of_below hb7).trans ⟨hgb.os,hgb.tape,hgb.output,hgb.size,fun k hk hnf=>hgb.block k hk (fun e=>hnf e.symm)⟩,own_slice hrow,fun k hk=>?_⟩
 rcases hob with e | e
 · exact .inl (e ▸ hk)
 · rw [e] at hk; cases hk; right; omega
theorem wpList_append_run {P:Program} (w:World) {ops:Array Oper} {rest:List Oper} {o:Oper} {a:Act} {Q:Exit→Act→World→Prop} (hgd:o.guard=none) (s x:Operand) (t tn:TypeId)
 (ho:o.op=.call { callee:=.builtin .append,args:=#[s,x],argTypes:=#[t,tn] }) (vs vx:Value) (hs:a.eval s=vs) (hx:a.eval x=vx)
 (v':Value) (w':World) (hr:(Builtin.append_ #[t,tn] o.type #[vs,vx]).run P w=.ok v' w') (h:wpList P ops Q rest (a.put o.dst v') w'):wpList P ops Q (o :: rest) a w:=by
 refine wpList_plain hgd fun K hK=>?_
 unfold Oper.wp
 simp [execOp,ho,resolve,invoke,builtin,hs,hx,hr,Result.andThen]
 exact hK _ _ h
def OwnD.add (T:OwnD) (idv:Value) (id:Nat) (m:Msg):OwnD:={ T with idv:=idv,last:=m.born,recs:=T.recs++[(id,m)] }
theorem note_one {base:Nat} {T:OwnD} (id:Nat) (m:Msg) (a:Option Addr) (c:Nat) (W:World) (h:OwnAt base W T) (h0:m.kind≠0) (hn:∀ p∈T.recs,p.1≠id) (hl:T.recs.length≤1048576) (hbase:base≤W.heap.size) :
 Calls Tryz.prog 109 #[.pointer (some ⟨T.blk,0,none⟩),.int .i64 (id:Int),.int .i64 ((recL m).length:Int),.agg (cellsM m a c)] W fun e w'=>e=.returned (.tuple #[]) ∧
  ∃ idv,OwnAt base w' (T.add idv id m)∧Mod T.foot W w'∧∀ k,idv.ownBlock=some k→T.foot k∨W.heap.size≤k:=by
 have HB0:Hid (Below W.heap.size W (W.alloc (.cells (cellsM m a c) 53))):=(Below.refl _ W).alloc (Nat.le_refl _) _
 have HX:Hid (RecW.Boxed (W.alloc (.cells (cellsM m a c) 53)) W.heap.size (cellsM m a c)):=RecW.Boxed.new W _ _
 have hz1:(W.alloc (.cells (cellsM m a c) 53)).heap.size=W.heap.size+1:=World.size_alloc _ _
 have HO0:=Lib.hid (h.below HB0.out)
 have HLT:Hid (∀ k,T.foot k→k < W.heap.size):=fun k hk=>h.lt hk
 have hcu:(cellsM m a c).size=10:=rfl
 have HBS:=Lib.hid hbase
 clear h hbase
 go_enter Tryz.func109,Tryz.ntmps109
 go_upto_region 1 with fail
 generalize W.alloc (.cells (cellsM m a c) 53)=w1 at *
 clear hcu
 obtain ⟨A,hA⟩:∃ A,W.heap.size=A:=⟨_,rfl⟩
 rw [hA] at HX hz1 ⊢
 have k0:w1.cell? ⟨A,0,none⟩=some (.int .i64 m.kind):=HX.out 0 _ rfl
 obtain ⟨v',w8,hr,hrow,hm8,⟨av,cv,hv'⟩,hob⟩:=append_int HO0.out.ids (id:Int) (by omega) (Nat.le_trans HBS.out HB0.out.size)
 obtain ⟨a0,cp0,hidv⟩:=own_slice HO0.out.ids
 have hap:=HO0.out.apart
 have hfo:∀ k,T.idv.ownBlock=some k→k < A:=fun k hk=>by have:=HLT.out k (.inr (.inr (.inr hk))); omega
 have hk8:∀ k,k < w1.heap.size→T.idv.ownBlock≠some k→w8.heap[k]?=w1.heap[k]?:=fun k hk hne=>hm8.block k hk hne
 have hb8:w8.heap[T.blk]?=some (.cells T.cells 84 (0,0)):=(hk8 _ (HO0.out.lt (.inl rfl)) (fun e=>(hap.2.2.2 _ e).1 rfl)).trans HO0.out.cells
 have hp8:PairsAt w8 T.mB (sizesL T.recs):=HO0.out.sizes.mod hm8 (fun e=>(hap.2.2.2 _ e).2.2 rfl)
 have ht8:CrcW.Tabs w8 T.sums:=tabs_mod HO0.out.tabs HO0.out.low.1 hm8 (fun e=>(hap.2.2.2 _ e).2.1 rfl)
 have hb9:(w8.setCell ⟨T.blk,2,none⟩ v').heap[T.blk]?=some (.cells #[.pointer (some ⟨T.rb,0,none⟩),.pointer (some ⟨T.sums,0,none⟩),v',.map (some T.mB),.int .i64 T.last] 84 (0,0)):=heap_set1 hb8 _ rfl
 have hm9:Mod (fun k=>k=T.blk) w8 (w8.setCell ⟨T.blk,2,none⟩ v'):=mod_set _ _ _ _
 have hp9:=hp8.mod hm9 (fun e=>hap.2.1 e.symm)
 obtain ⟨w10,hup,hp10,hm10⟩:=updateS hp9 id m hn
 have hA8:A < w8.heap.size:=by have:=hm8.size; omega
 have hA1:∀ (w:World),w.heap[A]?=w1.heap[A]?→RecW.Boxed w A (cellsM m a c):=fun w e i v hv=>by
  rw [World.cell?_of_block (w:=w1) e]; exact HX.out i v hv
 have hx8:=hk8 A (by omega) (fun e=>by have:=hfo A e; omega)
 have hx9:(w8.setCell ⟨T.blk,2,none⟩ v').heap[A]?=w8.heap[A]?:=hm9.block A hA8 (fun e=>by have:=HLT.out _ (.inl rfl); omega)
 have hx10:w10.heap[A]?=w1.heap[A]?:=((hm10.block A (by have:=hm9.size; omega) (fun e=>by have:=HLT.out _ (.inr (.inr (.inl rfl))); omega)).trans hx9).trans hx8
 have k5:w10.cell? ⟨A,5,none⟩=some (.int .i64 m.born):=hA1 w10 hx10 5 _ rfl
 have c2:w1.cell? ⟨T.blk,2,none⟩=some (.slice a0 T.recs.length cp0):=by rw [← hidv]; exact HO0.out.cell 2 _ rfl
 have c28:w8.cell? ⟨T.blk,2,none⟩=some T.idv:=by rw [Lib.cell_of_heap hb8]; rfl
 have f28:w8.frozen? ⟨T.blk,2,none⟩=false:=Lib.frozen_of_heap hb8 2
 have c39:(w8.setCell ⟨T.blk,2,none⟩ v').cell? ⟨T.blk,3,none⟩=some (.map (some T.mB)):=by rw [Lib.cell_of_heap hb9]; rfl
 have hb10:w10.heap[T.blk]?=some (.cells #[.pointer (some ⟨T.rb,0,none⟩),.pointer (some ⟨T.sums,0,none⟩),v',.map (some T.mB),.int .i64 T.last] 84 (0,0)):=(hm10.block _ (Array.getElem?_eq_some_iff.1 hb9).1 hap.2.1).trans hb9
 have c410:w10.cell? ⟨T.blk,4,none⟩=some (.int .i64 T.last):=by rw [Lib.cell_of_heap hb10]; rfl
 have f410:w10.frozen? ⟨T.blk,4,none⟩=false:=Lib.frozen_of_heap hb10 4
 have HOB:=Lib.hid hob
 have HROW:=Lib.hid hrow
 have HM8:=Lib.hid hm8
 have HM9:=Lib.hid hm9
 have HM10:=Lib.hid hm10
 have HP10:=Lib.hid hp10
 have HB10:=Lib.hid hb10
 have HT8:=Lib.hid ht8
 have HAP:=Lib.hid hap
 have HFO:=Lib.hid hfo
 have HAA:=Lib.hid hA
 have HZ1:=Lib.hid hz1
 have HV':=Lib.hid hv'
 have HL8:Hid (∀ k,T.foot k→k < w8.heap.size):=fun k hk=>by have h1:=HLT.out k hk; have h2:=hm8.size; omega
 rw [hidv] at hr
 clear hidv hob hrow hm8 hm9 hm10 hp10 hb8 hb9 hb10 ht8 hap hfo hx8 hx9 hx10 hA1 hA8 hk8 hp8 hp9 hn hl hA hz1
 generalize (recL m).length=L at *
 subst hv'
 have HR:=Lib.hid hr
 clear hr
 go_wp2_with (at_builtin; refine wpList_append_run _ rfl (.tmp 15) (.tmp 17) 49 49 rfl _ _ rfl rfl _ _ HR.out ?_)
 go_end0
 have hap:=HAP.out
 have hm11:Mod (fun k=>k=T.blk) w10 (w10.setCell ⟨T.blk,4,none⟩ (.int .i64 m.born)):=mod_set _ _ _ _
 have hobk:∀ k,(Value.slice av (T.recs.length+1) cv).ownBlock=some k→(T.idv.ownBlock=some k∨A < k):=fun k hk=>(HOB.out k hk).imp_right fun h=>by have:=HZ1.out; omega
 have hne:∀ k,(Value.slice av (T.recs.length+1) cv).ownBlock=some k→k≠T.blk∧k≠T.sums∧k≠T.mB:=fun k hk=>by
  rcases hobk k hk with h | h
  · exact hap.2.2.2 k h
  ·
   have h1:=HLT.out _ (.inl rfl)
   have h2:=HLT.out _ (.inr (.inl rfl))
   have h3:=HLT.out _ (.inr (.inr (.inl rfl)))
   have h4:=HAA.out
   omega
 have hs9:=HM9.out.size
 have hs10:=HM10.out.size
 have hs11:=hm11.size
 have hw18:Mod T.foot w1 w8:=HM8.out.mono (fun k _ hk=>.inr (.inr (.inr hk)))
 have hw89:=HM9.out.mono (N:=T.foot) (fun k _ hk=>.inl hk)
 have hw910:=HM10.out.mono (N:=T.foot) (fun k _ hk=>.inr (.inr (.inl hk)))
 have hw1011:=hm11.mono (N:=T.foot) (fun k _ hk=>.inl hk)
 have hm:Mod T.foot W (w10.setCell ⟨T.blk,4,none⟩ (.int .i64 m.born)):=((((Mod.of_below (M:=T.foot) (HAA.out ▸ HB0.out)).trans hw18).trans hw89).trans hw910).trans hw1011
 have hr9:=SegW.ownsRow_mod HROW.out HM9.out (fun k hk e=>(hne k hk).1 e)
 have hr10:=SegW.ownsRow_mod hr9 HM10.out (fun k hk e=>(hne k hk).2.2 e)
 have hr11:=SegW.ownsRow_mod hr10 hm11 (fun k hk e=>(hne k hk).1 e)
 have ht9:=tabs_mod HT8.out (HL8.out _ (.inr (.inl rfl))) HM9.out (fun e=>hap.1 e.symm)
 have ht10:=tabs_mod ht9 (by have:=HL8.out _ (.inr (.inl rfl)); omega) HM10.out (fun e=>hap.2.2.1 e)
 have ht11:=tabs_mod ht10 (by have:=HL8.out _ (.inr (.inl rfl)); omega) hm11 (fun e=>hap.1 e.symm)
 have hlow:=HO0.out.low
 refine ⟨rfl,_,⟨heap_set1 HB10.out _ rfl,?_,HP10.out.mod hm11 (fun e=>hap.2.1 e.symm),ht11,⟨by have:=HL8.out _ (.inr (.inl rfl)); show T.sums < _; omega,hlow.2⟩,hap.1,hap.2.1,hap.2.2.1,hne⟩,hm,fun k hk=>?_⟩
 ·
  show World.ownsRow _ base _ 1 _ (T.recs++[(id,m)]).length (idsL (T.recs++[(id,m)]))
  unfold idsL
  rw [List.length_append,List.map_append]
  exact hr11
 · rcases hobk k hk with h | h
   · exact .inl (.inr (.inr (.inr h)))
   · right; have:=HAA.out; omega
end Go.Proofs.YtnoehodmmkioaaaGreatDoor.TapeW
namespace Go.Proofs.YtnoehodmmkioaaaGreatDoor.GrowN
open Go Go.Proofs.YtnoehodmmkioaaaGreatDoor.Grow
abbrev Kind:=Option (Value ⊕ (List (Option Value)→Value→World→Prop))
def noInr:Kind→Bool
 | some (.inr _)=>false
 | _=>true
theorem stab0 {Ks:List Kind} {R:World→World→Prop} (h:Ks.all noInr=true):∀ K∈Ks,∀ Y,K=some (.inr Y)→∀ l v w w',R w w'→Y l v w→Y l v w':=fun K hK Y hY=>by
 have:=List.all_eq_true.1 h K hK
 rw [hY] at this
 cases this
def look (ops:Array Oper) (a:Act) (o:Oper):List (Option Value):=(o.looksAt ops).map fun s=>a.tmps[s]?
def rv (o:Oper) (u:Value):Value:=if o.dst.isSome then u else undef
def val (a:Act) (o:Oper):Value:=match o.dst with | some d=>slot a d | none=>undef
section
variable (P:Program) (ops:Array Oper) (R:World→World→Prop) (w1:World)
def depF (F:List (Nat×(World→Prop))) (o:Oper) (w:World):Prop:=∀ p∈F,bound o p.1=true→p.2 w
def wpG (Fin:Act→World→Prop):Nat→List Oper→List Kind→List (Nat×(World→Prop))→Act→Prop
 | _,[],_,F,a=>∀ w,R w1 w→(∀ p∈F,p.2 w)→Fin a w
 | i,o :: rest,Ys,F,a =>
   if Region.wanted o (yielded ops a.tmps) then
    match Ys.headD none with
    | none=>∃ v,(∀ w,R w1 w→depF F o w→detAt P R o a w v)∧wpG Fin (i+1) rest Ys.tail F (a.put o.dst v)
    | some (.inl c)=>(∀ w,R w1 w→depF F o w→growAt P R o a w fun u _=>u=c)∧wpG Fin (i+1) rest Ys.tail F (a.put o.dst c)
    | some (.inr Y)=>(∀ w,R w1 w→depF F o w→growAt P R o a w fun u=>Y (look ops a o) (rv o u))∧∀ v,wpG Fin (i+1) rest Ys.tail ((i,Y (look ops a o) v) :: F) (a.put o.dst v)
   else wpG Fin (i+1) rest Ys.tail F (a.put o.dst undef)
end
section
variable {P:Program} {ops:Array Oper} {R:World→World→Prop} {w1:World}
section
variable (P:Program) (ops:Array Oper) (R:World→World→Prop) (w1:World) (a0:Act) (n:Nat) (kind:Nat→Kind)
def GoodF (a:Act) (k:Nat) (o:Oper) (F:List (Nat×(World→Prop))):Prop:=∀ p∈F,bound o p.1=true →
 ∃ oj Y bj,p.1 < k∧ops[p.1]?=some oj∧kind p.1=some (.inr Y)∧Agree ops a0 a bj p.1 oj∧Region.wanted oj (yielded ops bj.tmps)=true∧p.2=Y (look ops bj oj) (val a oj)
def Holds (a:Act) (w:World) (k:Nat) (o:Oper) (b:Act):Prop :=
 if Region.wanted o (yielded ops b.tmps)=true then
  match kind k with
  | none=>∀ v F,GoodF ops a0 kind a k o F→(∀ w',R w1 w'→depF F o w'→detAt P R o b w' v)→∀ d,o.dst=some d→slot a d=v
  | some (.inl c)=>∀ d,o.dst=some d→slot a d=c
  | some (.inr Y)=>Y (look ops b o) (val a o) w
 else ∀ d,o.dst=some d→slot a d=undef
structure Inv (listed:Array Bool) (a:Act) (w:World):Prop where
 size:listed.size=ops.size
 reach:R w1 w
 defs:a.defers=a0.defers
 tsz:a.tmps.size=a0.tmps.size
 closed:∀ k o,ops[k]?=some o→L listed k→∀ e∈o.after,Region.binds .any e=true→L listed e.on
 slots:∀ s,(∀ k,L listed k→D ops k≠some s)→a.tmps[s]?=a0.tmps[s]?
 head:∀ k,L listed k→k < n
 vals:∀ k o,ops[k]?=some o→L listed k→∀ b,Agree ops a0 a b k o→Holds P ops R w1 a0 kind a w k o b
end
variable {a0:Act} {n:Nat} {kind:Nat→Kind}
theorem depF_of {listed:Array Bool} {a:Act} {w:World} (I:Inv P ops R w1 a0 n kind listed a w) {k:Nat} {o:Oper}
 (hall:∀ e∈o.after,Region.binds .any e=true→L listed e.on) {F:List (Nat×(World→Prop))} (hF:GoodF ops a0 kind a k o F):depF F o w:=by
 intro p hp hl
 obtain ⟨oj,Y,bj,hj,hoj,hk',hb,hw,he⟩:=hF p hp hl
 obtain ⟨e,hem,heb,heo⟩:=bound_spec hl
 have hlj:L listed p.1:=heo ▸ hall e hem heb
 have:=I.vals p.1 oj hoj hlj bj hb
 unfold Holds at this
 rw [if_pos hw,hk'] at this
 rw [he]; exact this
theorem val_put {a:Act} {o ok:Oper} {v:Value} (h:∀ d,ok.dst=some d→o.dst≠some d):val (a.put o.dst v) ok=val a ok:=by
 unfold val
 cases hd:ok.dst with
 | none=>rfl
 | some d=>exact put_slot_ne (h d hd)
theorem Inv.step (C:Chk ops n) (htr:∀ u v w:World,R u v→R v w→R u w) (hstab:∀ k Y,kind k=some (.inr Y)→∀ l v w w',R w w'→Y l v w→Y l v w')
 {listed:Array Bool} {a:Act} {w w':World} (I:Inv P ops R w1 a0 n kind listed a w) {i:Nat} {o:Oper} (hin:i < n) (ho:ops[i]?=some o) (hun:¬ L listed i)
 (hall:∀ e∈o.after,Region.binds .any e=true→L listed e.on) {v:Value} (hR:R w w')
 (hv:∀ b,Agree ops a0 (a.put o.dst v) b i o→Holds P ops R w1 a0 kind (a.put o.dst v) w' i o b) :
 Inv P ops R w1 a0 n kind (listed.setIfInBounds i true) (a.put o.dst v) w':=by
 have hi:i < listed.size:=by rw [I.size]; exact (Array.getElem?_eq_some_iff.1 ho).1
 have hDi:D ops i=o.dst:=by simp [D,ho]
 have keep:∀ k ok,ops[k]?=some ok→L listed k→∀ s∈ok.looksAt ops,∀ j,j < k→D ops j=some s→o.dst≠some s:=by
  intro k ok hok hk s hs j hj hd he
  have hkn:=I.head k hk
  have:j=i:=C.uniq j i s (by omega) hin hd (by rw [hDi,he])
  subst this
  exact hun (dep_listed C hkn hok (I.closed k ok hok hk) hs hj hd)
 have agr:∀ k ok,ops[k]?=some ok→L listed k→∀ b,Agree ops a0 (a.put o.dst v) b k ok↔Agree ops a0 a b k ok:=by
  intro k ok hok hk b
  constructor
  iterate 2
   · intro h; exact ⟨fun s hs j hj hd=>by rw [h.1 s hs j hj hd,put_get_ne (keep k ok hok hk s hs j hj hd)],h.2⟩
 refine ⟨by simpa using I.size,htr _ _ _ I.reach hR,put_defs.trans I.defs,put_size.trans I.tsz,?_,?_,?_,?_⟩
 ·
  intro k ok hok hk e he hb
  rcases (getD_set hi).1 hk with rfl | hk
  · rw [ho] at hok; cases hok; exact (getD_set hi).2 (.inr (hall e he hb))
  · exact (getD_set hi).2 (.inr (I.closed k ok hok hk e he hb))
 · intro s hs
   rw [put_get_ne (by rw [← hDi]; exact hs i ((getD_set hi).2 (.inl rfl)))]
   exact I.slots s fun k hk=>hs k ((getD_set hi).2 (.inr hk))
 ·
  intro k hk
  rcases (getD_set hi).1 hk with rfl | hk
  · exact hin
  · exact I.head k hk
 ·
  intro k ok hok hk b hb
  rcases (getD_set hi).1 hk with rfl | hk
  · rw [ho] at hok; cases hok; exact hv b hb
  ·
   have hki:k≠i:=fun e=>hun (e ▸ hk)
   have ne:∀ k' ok',ops[k']?=some ok'→L listed k'→∀ d,ok'.dst=some d→o.dst≠some d:=fun k' ok' hok' hk' d hd e =>
    (fun (e2:k'=i)=>hun (e2 ▸ hk')) (C.uniq k' i d (I.head k' hk') hin (by simp [D,hok',hd]) (by rw [hDi,e]))
   have h:=I.vals k ok hok hk b ((agr k ok hok hk b).1 hb)
   unfold Holds at h ⊢
   split
   ·
    rename_i hw
    rw [if_pos hw] at h
    cases hkd:kind k with
    | none =>
      rw [hkd] at h
      intro v' F hF hspec d hd
      rw [put_slot_ne (ne k ok hok hk d hd)]
      refine h v' F (fun p hp hl=>?_) hspec d hd
      obtain ⟨oj,Y,bj,hj,hoj,hkj,hbj,hwj,he⟩:=hF p hp hl
      obtain ⟨e,hem,heb,heo⟩:=bound_spec hl
      have hlj:L listed p.1:=heo ▸ I.closed k ok hok hk e hem heb
      exact ⟨oj,Y,bj,hj,hoj,hkj,(agr p.1 oj hoj hlj bj).1 hbj,hwj,by rw [he,val_put (ne p.1 oj hoj hlj)]⟩
    | some x =>
      rw [hkd] at h
      cases x with
      | inl c=>exact fun d hd=>by rw [put_slot_ne (ne k ok hok hk d hd)]; exact h d hd
      | inr Y =>
        show Y _ (val _ ok) w'
        rw [val_put (ne k ok hok hk)]
        exact hstab k Y hkd _ _ _ _ hR h
   · rename_i hw
     rw [if_neg hw] at h
     exact fun d hd=>by rw [put_slot_ne (ne k ok hok hk d hd)]; exact h d hd
section
variable (P:Program) (ops:Array Oper) (R:World→World→Prop) (w1:World) (a0:Act) (n:Nat) (kind:Nat→Kind)
structure Path (listed:Array Bool) (a:Act) (k:Nat) (b:Act) (F:List (Nat×(World→Prop))):Prop where
 defs:b.defers=a0.defers
 tsz:b.tmps.size=a0.tmps.size
 other:∀ s,(∀ j,j < k→D ops j≠some s)→b.tmps[s]?=a0.tmps[s]?
 same:∀ j,j < k→L listed j→∀ d,D ops j=some d→b.tmps[d]?=a.tmps[d]?
 facts:∀ p∈F,∃ oj Y v bj,p.1 < k∧ops[p.1]?=some oj∧kind p.1=some (.inr Y)∧p.2=Y (look ops bj oj) v ∧
  (L listed p.1→v=val a oj∧Agree ops a0 a bj p.1 oj∧Region.wanted oj (yielded ops bj.tmps)=true)
def Spec (a:Act) (i:Nat) (o:Oper):Prop:=∃ b F,Agree ops a0 a b i o∧GoodF ops a0 kind a i o F∧(Region.wanted o (yielded ops b.tmps)=true →
 match kind i with
 | none=>∃ v,∀ w',R w1 w'→depF F o w'→detAt P R o b w' v
 | some (.inl c)=>∀ w',R w1 w'→depF F o w'→growAt P R o b w' fun u _=>u=c
 | some (.inr Y)=>∀ w',R w1 w'→depF F o w'→growAt P R o b w' fun u=>Y (look ops b o) (rv o u))
end
theorem Path.agree (C:Chk ops n) {listed:Array Bool} {a b:Act} {F:List (Nat×(World→Prop))} {k:Nat} {o:Oper} (hp:Path ops a0 kind listed a k b F) (hk:k < n) (ho:ops[k]?=some o)
 (hall:∀ e∈o.after,Region.binds .any e=true→L listed e.on):Agree ops a0 a b k o∧GoodF ops a0 kind a k o F:=by
 refine ⟨⟨fun s hs j hj hd=>hp.same j hj (dep_listed C hk ho hall hs hj hd) s hd,fun s _ hn=>hp.other s hn⟩,fun p hpF hl=>?_⟩
 obtain ⟨oj,Y,v,bj,hj,hoj,hkj,he,hL⟩:=hp.facts p hpF
 obtain ⟨e,hem,heb,heo⟩:=bound_spec hl
 obtain ⟨hv,hbj,hw⟩:=hL (heo ▸ hall e hem heb)
 exact ⟨oj,Y,bj,hj,hoj,hkj,hbj,hw,by rw [he,hv]⟩
theorem Path.step (C:Chk ops n) {listed:Array Bool} {a b:Act} {w:World} {F:List (Nat×(World→Prop))} {k:Nat} {o:Oper} (I:Inv P ops R w1 a0 n kind listed a w)
 (hin:∀ o d,o∈ops→o.dst=some d→d < a0.tmps.size) (hp:Path ops a0 kind listed a k b F) (hk:k < n) (ho:ops[k]?=some o) (v:Value)
 (hv:L listed k→∀ d,o.dst=some d→v=slot a d):Path ops a0 kind listed a (k+1) (b.put o.dst v) F:=by
 have hDk:D ops k=o.dst:=by simp [D,ho]
 refine ⟨put_defs.trans hp.defs,put_size.trans hp.tsz,fun s hs=>?_,fun j hj hL d hd=>?_,fun p hpF=>?_⟩
 · rw [put_get_ne (by rw [← hDk]; exact hs k (by omega))]
   exact hp.other s fun j hj=>hs j (by omega)
 ·
  by_cases e:j=k
  ·
   subst e
   rw [hDk] at hd
   have hd1:=hin o d (Array.mem_of_getElem? ho) hd
   have:=hv hL d hd
   rw [hd]
   have h1:d < b.tmps.size:=by rw [hp.tsz]; exact hd1
   have h2:d < a.tmps.size:=by rw [I.tsz]; exact hd1
   simp only [Act.put,Array.getElem?_setIfInBounds_self_of_lt h1,this,slot]
   simp [h2]
  · rw [put_get_ne fun e'=>e (C.uniq j k d (I.head j hL) hk hd (by rw [hDk,e']))]
    exact hp.same j (by omega) hL d hd
 · obtain ⟨oj,Y,v,bj,hj,h⟩:=hp.facts p hpF
   exact ⟨oj,Y,v,bj,by omega,h⟩
theorem Path.fact {listed:Array Bool} {a b b':Act} {F:List (Nat×(World→Prop))} {k:Nat} {o:Oper} (hp:Path ops a0 kind listed a (k+1) b' F) (ho:ops[k]?=some o) {Y:List (Option Value)→Value→World→Prop}
 (hY:kind k=some (.inr Y)) (v:Value) (hv:L listed k→v=val a o∧Agree ops a0 a b k o∧Region.wanted o (yielded ops b.tmps)=true) :
 Path ops a0 kind listed a (k+1) b' ((k,Y (look ops b o) v) :: F):=by
 refine ⟨hp.defs,hp.tsz,hp.other,hp.same,fun p hpF=>?_⟩
 rcases List.mem_cons.1 hpF with rfl | hpF
 · exact ⟨o,Y,v,b,by show k < k+1; omega,ho,hY,rfl,hv⟩
 · exact hp.facts p hpF
theorem descend (C:Chk ops n) (hin:∀ o d,o∈ops→o.dst=some d→d < a0.tmps.size) {Fin:Act→World→Prop} {listed:Array Bool} {a:Act} {w:World} (I:Inv P ops R w1 a0 n kind listed a w) :
 ∀ (l:List Oper) (k:Nat) (Ks:List Kind) (F:List (Nat×(World→Prop))) (b:Act),k+l.length=n→(∀ j,j < l.length→l[j]?=ops[k+j]?)→(∀ j,Ks.getD j none=kind (k+j)) →
  Path ops a0 kind listed a k b F→wpG P ops R w1 Fin k l Ks F b →
  (∀ i o,k≤i→i < n→ops[i]?=some o→(∀ e∈o.after,Region.binds .any e=true→L listed e.on)→Spec P ops R w1 a0 kind a i o) ∧
  (∃ b F,Path ops a0 kind listed a n b F∧∀ w,R w1 w→(∀ p∈F,p.2 w)→Fin b w)
 | [],k,Ks,F,b,hn,_,_,hp,h=>by
   have:k=n:=by simpa using hn
   subst this
   exact ⟨fun i o h1 h2=>by omega,b,F,hp,h⟩
 | o :: l,k,Ks,F,b,hn,hl,hK,hp,h=>by
   simp only [List.length_cons] at hn
   have ho:ops[k]?=some o:=by have:=hl 0 (by simp); simpa using this.symm
   have hk:k < n:=by omega
   have hl':∀ j,j < l.length→l[j]?=ops[(k+1)+j]?:=fun j hj=>by
    have:=hl (j+1) (by simp; omega)
    rw [show k+1+j=k+(j+1) by omega,← this]; rfl
   have hK':∀ j,Ks.tail.getD j none=kind ((k+1)+j):=fun j=>by
    have:=hK (j+1)
    rw [show k+1+j=k+(j+1) by omega,← this]
    cases Ks <;> simp
   have hK0:Ks.headD none=kind k:=by
    have:=hK 0
    rw [Nat.add_zero] at this
    rw [← this]
    cases Ks <;> simp
   have hall:L listed k→∀ e∈o.after,Region.binds .any e=true→L listed e.on:=fun hL=>I.closed k o ho hL
   have key:∃ b' F',Path ops a0 kind listed a (k+1) b' F'∧wpG P ops R w1 Fin (k+1) l Ks.tail F' b' ∧
    (Region.wanted o (yielded ops b.tmps)=true→match kind k with
     | none=>∃ v,∀ w',R w1 w'→depF F o w'→detAt P R o b w' v
     | some (.inl c)=>∀ w',R w1 w'→depF F o w'→growAt P R o b w' fun u _=>u=c
     | some (.inr Y)=>∀ w',R w1 w'→depF F o w'→growAt P R o b w' fun u=>Y (look ops b o) (rv o u)):=by
    unfold wpG at h
    split at h
    ·
     rename_i hw
     rw [hK0] at h
     cases hkd:kind k with
     | none =>
       rw [hkd] at h
       obtain ⟨v,hs,h⟩:=h
       refine ⟨_,F,hp.step C I hin hk ho v fun hL d hd=>?_,h,fun _=>⟨v,hs⟩⟩
       obtain ⟨hA,hG⟩:=hp.agree C hk ho (hall hL)
       have:=I.vals k o ho hL b hA
       unfold Holds at this
       rw [if_pos hw,hkd] at this
       exact (this v F hG hs d hd).symm
     | some x =>
       rw [hkd] at h
       cases x with
       | inl c =>
         obtain ⟨hs,h⟩:=h
         refine ⟨_,F,hp.step C I hin hk ho c fun hL d hd=>?_,h,fun _=>hs⟩
         obtain ⟨hA,hG⟩:=hp.agree C hk ho (hall hL)
         have:=I.vals k o ho hL b hA
         unfold Holds at this
         rw [if_pos hw,hkd] at this
         exact (this d hd).symm
       | inr Y =>
         obtain ⟨hs,h⟩:=h
         have hv:L listed k→∀ d,o.dst=some d→val a o=slot a d:=fun _ d hd=>by simp [val,hd]
         exact ⟨_,_,(hp.step C I hin hk ho _ hv).fact ho hkd _ fun hL=>⟨rfl,(hp.agree C hk ho (hall hL)).1,hw⟩,h _,fun _=>hs⟩
    · rename_i hw
      refine ⟨_,F,hp.step C I hin hk ho undef fun hL d hd=>?_,h,fun hw'=>absurd hw' hw⟩
      have:=I.vals k o ho hL b (hp.agree C hk ho (hall hL)).1
      unfold Holds at this
      rw [if_neg hw] at this
      exact (this d hd).symm
   obtain ⟨b',F',hp',h',hs⟩:=key
   obtain ⟨r1,r2⟩:=descend C hin I l (k+1) Ks.tail F' b' (by omega) hl' hK' hp' h'
   refine ⟨fun i oi h1 h2 hoi hai=>?_,r2⟩
   by_cases e:i=k
   · subst e
     rw [ho] at hoi; cases hoi
     exact ⟨b,F,(hp.agree C h2 ho hai).1,(hp.agree C h2 ho hai).2,hs⟩
   · exact r1 i oi (by omega) h2 hoi hai
theorem Inv.settle {listed:Array Bool} {a:Act} {w:World} (I:Inv P ops R w1 a0 n kind listed a w) (hall:∀ k,k < n→L listed k)
 {b:Act} {F:List (Nat×(World→Prop))} (hp:Path ops a0 kind listed a n b F):b=a∧∀ p∈F,p.2 w:=by
 constructor
 ·
  have ht:b.tmps=a.tmps:=by
   apply Array.ext_getElem?
   intro s
   by_cases hj:∃ j,j < n∧D ops j=some s
   · obtain ⟨j,hj,hd⟩:=hj
     exact hp.same j hj (hall j hj) s hd
   · have hn:∀ j,j < n→D ops j≠some s:=fun j hj' hd=>hj ⟨j,hj',hd⟩
     rw [hp.other s hn,I.slots s fun k hk=>hn k (I.head k hk)]
  have hd:b.defers=a.defers:=hp.defs.trans I.defs.symm
  cases a; cases b; simp_all
 ·
  intro p hpF
  obtain ⟨oj,Y,v,bj,hj,hoj,hkj,he,hL⟩:=hp.facts p hpF
  obtain ⟨hv,hbj,hw⟩:=hL (hall p.1 hj)
  have:=I.vals p.1 oj hoj (hall p.1 hj) bj hbj
  unfold Holds at this
  rw [if_pos hw,hkj] at this
  rw [he,hv]; exact this
theorem wpAny_of_g (C:Chk ops n) (hrf:∀ w:World,R w w) (htr:∀ u v w:World,R u v→R v w→R u w) (hstab:∀ k Y,kind k=some (.inr Y)→∀ l v w w',R w w'→Y l v w→Y l v w')
 (hin:∀ o d,o∈ops→o.dst=some d→d < a0.tmps.size) {Q:Exit→Act→World→Prop} {l:List Oper} (hll:l.length=n) (hl:∀ j,j < l.length→l[j]?=ops[0+j]?) {Ks:List Kind} (hK:∀ j,Ks.getD j none=kind (0+j))
 {t:List Oper} (htl:t.length=ops.size - n) (ht:∀ j,t[j]?=ops[n+j]?)
 (h:wpG P ops R w1 (fun a' w'=>wpList P ops Q t a' w') 0 l Ks [] a0) :
 ∀ (fuel:Nat) (listed:Array Bool) (a:Act) (w:World),fuel=left listed n+t.length→Inv P ops R w1 a0 n kind listed a w→wpAny P .any ops Q fuel listed a w:=by
 intro fuel
 induction fuel with
 | zero =>
   intro listed a w hf I
   have hall:=left_none n (show left listed n=0 by omega)
   have h0:Path ops a0 kind listed a 0 a0 []:=⟨rfl,rfl,fun _ _=>rfl,fun j hj=>by omega,fun p hp=>by cases hp⟩
   obtain ⟨b,F,hp,hfin⟩:=(descend C hin I l 0 Ks [] a0 (by omega) hl hK h0 h).2
   obtain ⟨rfl,hF⟩:=I.settle hall hp
   have:=wpAny_tail C t n listed b w (Nat.le_refl _) ht htl I.size (fun k hk=>⟨I.head k,hall k⟩) (hfin w I.reach hF)
   rw [show t.length=0 by omega] at this
   exact this
 | succ fuel ih =>
   intro listed a w hf I
   have h0:Path ops a0 kind listed a 0 a0 []:=⟨rfl,rfl,fun _ _=>rfl,fun j hj=>by omega,fun p hp=>by cases hp⟩
   obtain ⟨hsp,b,F,hp,hfin⟩:=descend C hin I l 0 Ks [] a0 (by omega) hl hK h0 h
   by_cases hz:left listed n=0
   · have hall:=left_none n hz
     obtain ⟨rfl,hF⟩:=I.settle hall hp
     have:=wpAny_tail C t n listed b w (Nat.le_refl _) ht htl I.size (fun k hk=>⟨I.head k,hall k⟩) (hfin w I.reach hF)
     rw [show t.length=fuel+1 by omega] at this
     exact this
   ·
    obtain ⟨k,hkn,hkun,hklow⟩:=left_some n (by omega:0 < left listed n)
    have hks:k < ops.size:=by have:=C.le; omega
    refine ⟨fun hr=>?_,fun i hi=>?_⟩
    · have:k∈Region.ready .any ops listed:=(mem_ready' I.size).2 ⟨hkun,ops[k],Array.getElem?_eq_getElem hks,fun e he hb=>hklow _ (C.low k _ (Array.getElem?_eq_getElem hks) e he hb)⟩
      rw [hr] at this; cases this
    ·
     obtain ⟨hiun,o,ho,hall⟩:=(mem_ready' I.size).1 hi
     have his:=(Array.getElem?_eq_some_iff.1 ho).1
     have hin':i < n:=by
      by_cases hlt:i < n
      · exact hlt
      ·
       -- the last of the first n that is still to come is waited for
       have hlast:∀ m,m≤n→(∀ j,m≤j→j < n→L listed j)→False:=by
        intro m
        induction m with
        | zero=>intro _ hm; exact hkun (hm k (by omega) hkn)
        | succ m ihm =>
          intro hmn hm
          by_cases hLm:L listed m
          · exact ihm (by omega) fun j h1 h2=>by
             by_cases e:j=m
             · subst e; exact hLm
             · exact hm j (by omega) h2
          ·
           rcases C.waits with hw | hw
           · omega
           · obtain ⟨j,oj,h1,h2,hoj,hb⟩:=hw m (by omega)
             obtain ⟨e,he,hbe,hon⟩:=bound_spec hb
             by_cases hjn:j < n
             · exact hLm (hon ▸ I.closed j oj hoj (hm j (by omega) hjn) e he hbe)
             · have hjn':j=n:=by omega
               subst hjn'
               by_cases hij:i=j
               · subst hij
                 rw [ho] at hoj; cases hoj
                 exact hLm (hon ▸ hall e he hbe)
               · obtain ⟨e',he',hb',hon'⟩:=bound_spec (C.seq i o (by omega) ho)
                 have:=I.head (i - 1) (hon' ▸ hall e' he' hb')
                 omega
       exact (hlast n (Nat.le_refl _) fun j h1 h2=>by omega).elim
     obtain ⟨b',F',hA,hG,hspec⟩:=hsp i o (by omega) hin' ho hall
     have hsel:=fun cs c=>C.sel i o cs c ho
     have hab:∀ s∈o.looksAt ops,a.tmps[s]?=b'.tmps[s]?:=by
      intro s hs
      by_cases hj:∃ j,j < i∧D ops j=some s
      · obtain ⟨j,hj,hd⟩:=hj
        exact (hA.1 s hs j hj hd).symm
      · have hn':∀ j,j < i→D ops j≠some s:=fun j hj' hd=>hj ⟨j,hj',hd⟩
        rw [hA.2 s hs hn']
        refine I.slots s fun j hLj hd=>?_
        rcases C.looks i o s j hin' ho hs (I.head j hLj) hd with hij | hij | ⟨q,hq,hij⟩
        · subst hij; exact hiun hLj
        · exact hn' j (bound_lt C ho hij) hd
        · obtain ⟨e,he,hb,rfl⟩:=bound_spec hij
          exact hiun (I.closed j q hq hLj e he hb)
     obtain ⟨hex,hwa⟩:=look_congr (ops:=ops) hsel hab
     have hdep:=depF_of I hall hG
     have hfuel:fuel=left (listed.setIfInBounds i true) n+t.length:=by
      have:=left_set (listed:=listed) (by rw [I.size]; exact his) hiun n hin'; omega
     have same:∀ (v:Value) b,Agree ops a0 (a.put o.dst v) b i o→execOp b.eval o=execOp b'.eval o∧Region.wanted o (yielded ops b.tmps)=Region.wanted o (yielded ops b'.tmps)∧look ops b o=look ops b' o:=by
      intro v b hb
      have hb2:Agree ops a0 a b i o:=by
       refine ⟨fun s hs j hj hd=>?_,hb.2⟩
       rw [hb.1 s hs j hj hd]
       refine put_get_ne fun e=>?_
       have:j=i:=C.uniq j i s (by omega) hin' hd (by simp [D,ho,e])
       omega
      obtain ⟨q1,q2⟩:=look_congr hsel (hb2.same hA)
      exact ⟨q1,q2,List.map_congr_left (hb2.same hA)⟩
     have good:∀ (v:Value) F,GoodF ops a0 kind (a.put o.dst v) i o F→GoodF ops a0 kind a i o F:=by
      intro v F hF p hp hl
      obtain ⟨oj,Y,bj,hj,hoj,hkj,hbj,hwj,he⟩:=hF p hp hl
      have hne:∀ d,oj.dst=some d→o.dst≠some d:=fun d hd e=>by
       have:p.1=i:=C.uniq p.1 i d (by omega) hin' (by simp [D,hoj,hd]) (by simp [D,ho,e])
       omega
      refine ⟨oj,Y,bj,hj,hoj,hkj,⟨fun s hs j' hj' hd'=>?_,hbj.2⟩,hwj,by rw [he,val_put hne]⟩
      rw [hbj.1 s hs j' hj' hd']
      refine put_get_ne fun e=>?_
      have:j'=i:=C.uniq j' i s (by omega) hin' hd' (by simp [D,ho,e])
      subst this
      omega
     have hd1:∀ d,o.dst=some d→d < a.tmps.size:=fun d hd=>by rw [I.tsz]; exact hin o d (Array.mem_of_getElem? ho) hd
     unfold wpOp
     simp only [ho]
     split
     ·
      rename_i hw
      have hwb:Region.wanted o (yielded ops b'.tmps)=true:=by rw [← hwa]; exact hw
      have hspec:=hspec hwb
      refine .inl ?_
      cases hkd:kind i with
      | none =>
        rw [hkd] at hspec
        obtain ⟨v,hs⟩:=hspec
        have hd:detAt P R o a w v:=by unfold detAt; rw [hex]; exact hs w I.reach hdep
        refine wp_of_det hd fun w' hR=>ih _ _ _ hfuel (I.step C htr hstab hin' ho hiun hall hR fun b hb=>?_)
        obtain ⟨e1,e2,_⟩:=same v b hb
        unfold Holds
        rw [if_pos (by rw [e2]; exact hwb),hkd]
        intro v' F2 hF2 hs2 d hdd
        have h1:=hs w I.reach hdep
        have h2:=hs2 w I.reach (depF_of I hall (good v F2 hF2))
        unfold detAt at h1 h2
        rw [e1] at h2
        rw [hdd,put_slot (hd1 d hdd)]
        generalize (execOp b'.eval o).run P w=r at h1 h2
        cases r with
        | ok x w'' =>
          cases x <;> simp only [detUpon] at h1 h2
          case value u=>rw [← h1.1,h2.1]
          case skip=>rw [← h1.1,h2.1]
        | halt x w''=>simp only [detUpon] at h1
      | some x =>
        rw [hkd] at hspec
        cases x with
        | inl c =>
          have hg:growAt P R o a w fun u _=>u=c:=by unfold growAt; rw [hex]; exact hspec w I.reach hdep
          refine wp_of_grow hg fun v w' hv hR=>ih _ _ _ hfuel (I.step C htr hstab hin' ho hiun hall hR fun b hb=>?_)
          obtain ⟨e1,e2,_⟩:=same v b hb
          unfold Holds
          rw [if_pos (by rw [e2]; exact hwb),hkd]
          intro d hdd
          rw [hdd,put_slot (hd1 d hdd)]; exact hv
        | inr Y =>
          have hg:growAt P R o a w fun u=>Y (look ops b' o) (rv o u):=by unfold growAt; rw [hex]; exact hspec w I.reach hdep
          refine wp_of_grow hg fun v w' hv hR=>ih _ _ _ hfuel (I.step C htr hstab hin' ho hiun hall hR fun b hb=>?_)
          obtain ⟨e1,e2,_⟩:=same v b hb
          unfold Holds
          rw [if_pos (by rw [e2]; exact hwb),hkd]
          show Y (look ops b o) (val _ o) w'
          rw [(same v b hb).2.2]
          have hvv:val (a.put o.dst v) o=rv o v:=by
           unfold val rv
           cases hdd:o.dst with
           | none=>rfl
           | some d=>exact put_slot (hd1 d hdd)
          rw [hvv]; exact hv
     ·
      rename_i hw
      have hwb:¬ Region.wanted o (yielded ops b'.tmps)=true:=by rw [← hwa]; exact hw
      refine ih _ _ _ hfuel (I.step C htr hstab hin' ho hiun hall (hrf w) fun b hb=>?_)
      obtain ⟨e1,e2,_⟩:=same undef b hb
      unfold Holds
      rw [if_neg (by rw [e2]; exact hwb)]
      intro d hdd
      rw [hdd,put_slot (hd1 d hdd)]
theorem wp_region_n {id:Nat} {l:List Oper} {Q:Exit→Act→World→Prop} {a:Act} {w:World} (n:Nat) (Ks:List Kind) (R:World→World→Prop) (hm:P.follows .mixedOrders=true)
 (hB:gB l.toArray n=true) (hin:inB l.toArray a=true) (hrf:∀ w:World,R w w) (htr:∀ u v w:World,R u v→R v w→R u w)
 (hstab:∀ K∈Ks,∀ Y,K=some (.inr Y)→∀ l v w w',R w w'→Y l v w→Y l v w')
 (h:wpG P l.toArray R w.drew (fun a' w'=>wpList P l.toArray Q (l.drop n) a' w') 0 (l.take n) Ks [] a):(Code.region id l.toArray true).wp P Q a w:=by
 have C:=Chk.of hB
 have hle:n≤l.length:=by have:=C.le; simpa using this
 have hin':∀ o d,o∈l.toArray→o.dst=some d→d < a.tmps.size:=by
  intro o d ho hd
  unfold inB at hin
  have:=Array.all_eq_true_iff_forall_mem.1 hin o ho
  simpa [hd] using this
 refine wp_region_any hm ?_
 refine wpAny_of_g (a0:=a) (n:=n) (kind:=fun k=>Ks.getD k none) C hrf htr (fun k Y hk l v w w' hR hY=>?_) hin' (l:=l.take n) (Ks:=Ks) (by simp [hle]) (fun j hj=>?_) (fun j=>by simp)
  (t:=l.drop n) (by simp) (fun j=>by simp) h _ _ _ _ ?_ ?_
 ·
  have hlt:k < Ks.length:=by
   rcases Nat.lt_or_ge k Ks.length with h | h
   · exact h
   · simp [List.getD,List.getElem?_eq_none h] at hk
  have hmem:(some (.inr Y):Kind)∈Ks:=by
   rw [← hk,List.getD_eq_getElem?_getD,List.getElem?_eq_getElem hlt]; exact List.getElem_mem hlt
  exact hstab _ hmem Y rfl l v w w' hR hY
 · have:j < n:=by simp at hj; omega
   simp [this]
 ·
  have:∀ m,m≤l.length→left (Array.replicate l.length false) m=m:=by
   intro m
   induction m with
   | zero=>intro _; rfl
   | succ m ih=>intro hm'; unfold left; rw [ih (by omega)]; simp [show m < l.length by omega]
  have h2:=this n hle
  simp only [List.size_toArray,List.length_drop]
  rw [h2]; omega
 ·
  have hno:∀ k,¬ L (Array.replicate l.toArray.size false) k:=by
   intro k hk
   unfold L at hk
   simp only [Array.getD_eq_getD_getElem?,Array.getElem?_replicate] at hk
   split at hk <;> simp at hk
  exact ⟨by simp,hrf _,rfl,rfl,fun k o _ hk=>(hno k hk).elim,fun _ _=>rfl,fun k hk=>(hno k hk).elim,fun k o _ hk=>(hno k hk).elim⟩
section
variable {Fin:Act→World→Prop} {o:Oper} {rest:List Oper} {Ks:List Kind} {F:List (Nat×(World→Prop))} {a:Act}
variable {i:Nat}
theorem g_nil (h:∀ w,R w1 w→(∀ p∈F,p.2 w)→Fin a w):wpG P ops R w1 Fin i [] Ks F a:=h
theorem g_det (hw:Region.wanted o (yielded ops a.tmps)=true) (h:∃ v,(∀ w,R w1 w→depF F o w→detAt P R o a w v)∧wpG P ops R w1 Fin (i+1) rest Ks F (a.put o.dst v)) :
 wpG P ops R w1 Fin i (o :: rest) (none :: Ks) F a:=by
 unfold wpG; rw [if_pos hw]; exact h
theorem g_con {c:Value} (hw:Region.wanted o (yielded ops a.tmps)=true) (h:∀ w,R w1 w→depF F o w→growAt P R o a w fun u _=>u=c) (hk:wpG P ops R w1 Fin (i+1) rest Ks F (a.put o.dst c)) :
 wpG P ops R w1 Fin i (o :: rest) (some (.inl c) :: Ks) F a:=by
 unfold wpG; rw [if_pos hw]; exact ⟨h,hk⟩
theorem g_new {Y:List (Option Value)→Value→World→Prop} (hw:Region.wanted o (yielded ops a.tmps)=true) (h:∀ w,R w1 w→depF F o w→growAt P R o a w fun u=>Y (look ops a o) (rv o u)) (hk:∀ v,wpG P ops R w1 Fin (i+1) rest Ks ((i,Y (look ops a o) v) :: F) (a.put o.dst v)) :
 wpG P ops R w1 Fin i (o :: rest) (some (.inr Y) :: Ks) F a:=by
 unfold wpG; rw [if_pos hw]; exact ⟨h,hk⟩
theorem g_skip {K:Kind} (hw:Region.wanted o (yielded ops a.tmps)=false) (hk:wpG P ops R w1 Fin (i+1) rest Ks F (a.put o.dst undef)) :
 wpG P ops R w1 Fin i (o :: rest) (K :: Ks) F a:=by
 unfold wpG; rw [if_neg (by rw [hw]; exact Bool.false_ne_true)]; exact hk
end
end
attribute [irreducible] wpG
end Go.Proofs.YtnoehodmmkioaaaGreatDoor.GrowN
namespace Go.Proofs.YtnoehodmmkioaaaGreatDoor.RecW
open Go.RowKit OctMath RecMath NameMath
open OctW (Rd One Texts textL textsL textsW listW)
theorem heap_set1 {w:World} {B i:Nat} {cs:Array Value} {ty:TypeId} (h:w.heap[B]?=some (.cells cs ty (0,0))) (v:Value) {cs':Array Value} (he:cs.setIfInBounds i v=cs'):(w.setCell ⟨B,i,none⟩ v).heap[B]?=some (.cells cs' ty (0,0)):=DskW.heap_set1 h v he
def put10 (w:World) (B:Nat) (x0 x1 x2 x3 x4 x5 x6 x7 x8 x9:Value):World:=(((((((((w.setCell ⟨B,0,none⟩ x0).setCell ⟨B,1,none⟩ x1).setCell ⟨B,2,none⟩ x2).setCell ⟨B,3,none⟩ x3).setCell ⟨B,4,none⟩ x4).setCell ⟨B,5,none⟩ x5).setCell ⟨B,6,none⟩ x6).setCell ⟨B,7,none⟩ x7).setCell ⟨B,8,none⟩ x8).setCell ⟨B,9,none⟩ x9
theorem ten (z:Array Value) (h:z.size=10):∃ x0 x1 x2 x3 x4 x5 x6 x7 x8 x9:Value,z=#[x0,x1,x2,x3,x4,x5,x6,x7,x8,x9]:=by
 rcases z with ⟨l⟩
 rcases l with _ | ⟨x0,_ | ⟨x1,_ | ⟨x2,_ | ⟨x3,_ | ⟨x4,_ | ⟨x5,_ | ⟨x6,_ | ⟨x7,_ | ⟨x8,_ | ⟨x9,_ | ⟨y,l⟩⟩⟩⟩⟩⟩⟩⟩⟩⟩⟩ <;> simp at h
 exact ⟨x0,x1,x2,x3,x4,x5,x6,x7,x8,x9,rfl⟩
theorem put10_heap {w:World} {B:Nat} {z:Array Value} {t:TypeId} (hz:z.size=10) (h:w.heap[B]?=some (.cells z t (0,0))) (x0 x1 x2 x3 x4 x5 x6 x7 x8 x9:Value):(put10 w B x0 x1 x2 x3 x4 x5 x6 x7 x8 x9).heap[B]?=some (.cells #[x0,x1,x2,x3,x4,x5,x6,x7,x8,x9] t (0,0)):=by
 obtain ⟨z0,z1,z2,z3,z4,z5,z6,z7,z8,z9,rfl⟩:=ten z hz
 unfold put10
 have h0:=heap_set1 (i:=0) h x0 rfl
 simp only [List.setIfInBounds_toArray,List.set_cons_zero,List.set_cons_succ] at h0
 have h1:=heap_set1 (i:=1) h0 x1 rfl
 simp only [List.setIfInBounds_toArray,List.set_cons_zero,List.set_cons_succ] at h1
 have h2:=heap_set1 (i:=2) h1 x2 rfl
 simp only [List.setIfInBounds_toArray,List.set_cons_zero,List.set_cons_succ] at h2
 have h3:=heap_set1 (i:=3) h2 x3 rfl
 simp only [List.setIfInBounds_toArray,List.set_cons_zero,List.set_cons_succ] at h3
 have h4:=heap_set1 (i:=4) h3 x4 rfl
 simp only [List.setIfInBounds_toArray,List.set_cons_zero,List.set_cons_succ] at h4
 have h5:=heap_set1 (i:=5) h4 x5 rfl
 simp only [List.setIfInBounds_toArray,List.set_cons_zero,List.set_cons_succ] at h5
 have h6:=heap_set1 (i:=6) h5 x6 rfl
 simp only [List.setIfInBounds_toArray,List.set_cons_zero,List.set_cons_succ] at h6
 have h7:=heap_set1 (i:=7) h6 x7 rfl
 simp only [List.setIfInBounds_toArray,List.set_cons_zero,List.set_cons_succ] at h7
 have h8:=heap_set1 (i:=8) h7 x8 rfl
 simp only [List.setIfInBounds_toArray,List.set_cons_zero,List.set_cons_succ] at h8
 have h9:=heap_set1 (i:=9) h8 x9 rfl
 simp only [List.setIfInBounds_toArray,List.set_cons_zero,List.set_cons_succ] at h9
 exact h9
theorem setm {w w':World} {B:Nat} (h:Mod (fun k=>k=B) w w') (i:Nat) (v:Value):Mod (fun k=>k=B) w (w'.setCell ⟨B,i,none⟩ v):=h.setCell (a:=⟨B,i,none⟩) (.inl rfl) v
theorem put10_mod (w:World) (B:Nat) (x0 x1 x2 x3 x4 x5 x6 x7 x8 x9:Value):Mod (fun k=>k=B) w (put10 w B x0 x1 x2 x3 x4 x5 x6 x7 x8 x9):=by
 unfold put10
 iterate 10 refine setm ?_ _ _
 exact Mod.refl _ _
structure Mid (W:World) (Bt Br Bm:Nat) (cs:Array Value) (r:RS) (w:World):Prop where
 t:w.heap[Bt]?=some (.cells (cellsM noMsg none 0) 53 (0,0))
 m:w.heap[Bm]?=some (.cells cs 53 (0,0))
 r:Rd Br r w
 b:Below W.heap.size W w
theorem Mid.one {W w w':World} {Bt Br Bm:Nat} {cs:Array Value} {r r':RS} (h:Mid W Bt Br Bm cs r w) (hr:Rd Br r' w') (hm:One Br w w') (h1:Bt≠Br) (h2:Bm≠Br) (h3:W.heap.size≤Br):Mid W Bt Br Bm cs r' w' :=
 ⟨(hm.block Bt (Array.getElem?_eq_some_iff.1 h.t).1 h1).trans h.t,(hm.block Bm (Array.getElem?_eq_some_iff.1 h.m).1 h2).trans h.m,hr,h.b.trans (hm.to_below _ h.b.size (fun k e=>e ▸ h3))⟩
theorem Mid.set {W w:World} {Bt Br Bm:Nat} {cs cs':Array Value} {r:RS} (h:Mid W Bt Br Bm cs r w) (i:Nat) (v:Value) (he:cs.setIfInBounds i v=cs') (h1:Bt≠Bm) (h2:Bm≠Br) (h3:W.heap.size≤Bm):Mid W Bt Br Bm cs' r (w.setCell ⟨Bm,i,none⟩ v):=by
 have hm:Mod (fun k=>k=Bm) w (w.setCell ⟨Bm,i,none⟩ v):=setm (Mod.refl _ w) i v
 exact ⟨(hm.block Bt (Array.getElem?_eq_some_iff.1 h.t).1 h1).trans h.t,heap_set1 h.m v he,h.r.mod hm (fun e=>h2 e.symm),h.b.trans (hm.to_below _ h.b.size (fun k e=>e ▸ h3))⟩
theorem Mid.cell {W w:World} {Bt Br Bm:Nat} {cs:Array Value} {r:RS} (h:Mid W Bt Br Bm cs r w) (i:Nat) (v:Value) (hv:cs[i]?=some v):w.cell? ⟨Bm,i,none⟩=some v:=by
 unfold World.cell?; rw [show w.heap[(⟨Bm,i,none⟩:Addr).block]?=_ from h.m]; simpa using hv
theorem Mid.free {W w:World} {Bt Br Bm:Nat} {cs:Array Value} {r:RS} (h:Mid W Bt Br Bm cs r w) (i:Nat):w.frozen? ⟨Bm,i,none⟩=false:=by
 unfold World.frozen?; rw [show w.heap[(⟨Bm,i,none⟩:Addr).block]?=_ from h.m]; rfl
theorem take_text (n:Int) (r:RS):(takeR n r).1.length≤r.s.length:=by
 unfold takeR
 split
 · exact Nat.zero_le _
 ·
  split
  · exact Nat.zero_le _
  · split
    · exact Nat.zero_le _
    · simp only [List.length_take]; omega
theorem text_text (most:Int) (r:RS):(textR most r).1.length≤r.s.length:=by
 by_cases h:r.e≠0
 · unfold textR; rw [if_pos h]; exact Nat.zero_le _
 ·
  rw [OctW.textR_eq most r h]
  have h1:=take_text ((numR 2 r).1:Int) (longR (decide (most < ((numR 2 r).1:Int))) (numR 2 r).2)
  have h2:=OctW.longR_len (decide (most < ((numR 2 r).1:Int))) (numR 2 r).2
  have h3:=OctW.numR_len 2 r
  split <;> (try simp only) <;> omega
theorem texts_text (most:Int) (k:Nat):∀ r:RS,∀ t∈(textsR most k r).1,t.length≤r.s.length:=by
 induction k with
 | zero=>intro r t ht; cases ht
 | succ k ih =>
   intro r t ht
   rw [OctW.textsR_succ] at ht
   rcases List.mem_append.1 ht with ht | ht
   · exact ih r t ht
   · rw [List.mem_singleton] at ht
     subst ht
     exact Nat.le_trans (text_text _ _) (OctW.textsR_len most k r)
theorem list_text (many most:Int) (r:RS):(listR many most r).1.length≤255∧∀ t∈(listR many most r).1,t.length≤r.s.length:=by
 by_cases h:r.e≠0
 · unfold listR; rw [if_pos h]; exact ⟨Nat.zero_le _,fun t ht=>by cases ht⟩
 ·
  rw [OctW.listR_eq many most r h]
  have hx:(numR 1 r).1 < 256:=OctW.numR_lt 1 r
  have h2:=OctW.longR_len (decide (many < ((numR 1 r).1:Int))) (numR 1 r).2
  have h3:=OctW.numR_len 1 r
  split
  · exact ⟨Nat.zero_le _,fun t ht=>by cases ht⟩
  · refine ⟨by rw [OctW.textsR_length]; omega,fun t ht=>?_⟩
    have:=texts_text most _ _ t ht
    omega
theorem opened_ok (s:List UInt8) (hs:s.length≤1073741824):MsgOk (openedR s).1:=by
 have i1:∀ r,inI ((numR 1 r).1:Int):=fun r=>by have:(numR 1 r).1 < 256:=OctW.numR_lt 1 r; unfold inI; omega
 have i6:∀ r,inI ((numR 6 r).1:Int):=fun r=>by have:(numR 6 r).1 < 256 ^ 6:=OctW.numR_lt 6 r; unfold inI; omega
 have hl:(⟨s,0⟩:RS).s.length=s.length:=rfl
 unfold openedR
 dsimp only
 have l0:=OctW.numR_len 1 ⟨s,0⟩
 generalize (numR 1 ⟨s,0⟩).2=r1 at *
 have l1:=OctW.numR_len 1 r1
 generalize (numR 1 r1).2=r2 at *
 have l2:=OctW.numR_len 1 r2
 generalize (numR 1 r2).2=r3 at *
 have l3:=OctW.numR_len 6 r3
 generalize (numR 6 r3).2=r4 at *
 have l4:=OctW.numR_len 6 r4
 generalize (numR 6 r4).2=r5 at *
 have l5:=OctW.numR_len 6 r5
 generalize (numR 6 r5).2=r6 at *
 have l6:=OctW.textR_len 16 r6
 have t1:=text_text 16 r6
 generalize (textR 16 r6).2=r7 at *
 have l7:=OctW.textR_len 16 r7
 have t2:=text_text 16 r7
 generalize (textR 16 r7).2=r8 at *
 have l8:=OctW.textR_len 200 r8
 have t3:=text_text 200 r8
 generalize (textR 200 r8).2=r9 at *
 have k1:=list_text 3 16 r9
 refine ⟨i1 _,i1 _,i6 _,i1 _,i6 _,i6 _,?_,?_,?_,?_,fun t ht=>?_⟩
 · exact Nat.le_trans t1 (by omega)
 · exact Nat.le_trans t2 (by omega)
 · exact Nat.le_trans t3 (by omega)
 · exact Nat.le_trans k1.1 (by omega)
 · exact Nat.le_trans (k1.2 t ht) (by omega)
end Go.Proofs.YtnoehodmmkioaaaGreatDoor.RecW
namespace Go.Proofs.YtnoehodmmkioaaaGreatDoor
open Go.RowKit
def Once (B:Nat) (o:Obj) (u v:World):Prop:=Mod (fun k=>k=B) u v∧(v.heap[B]?=u.heap[B]?∨v.heap[B]?=some o)
theorem Once.refl (B:Nat) (o:Obj) (w:World):Once B o w w:=⟨Mod.refl _ _,.inl rfl⟩
theorem Once.trans {B:Nat} {o:Obj} {u v w:World} (h:Once B o u v) (k:Once B o v w):Once B o u w :=
 ⟨h.1.trans k.1,k.2.elim (fun e=>h.2.elim (fun e2=>.inl (e.trans e2)) fun e2=>.inr (e.trans e2)) .inr⟩
theorem Once.below {B:Nat} {o:Obj} {u v:World} (h:Below u.heap.size u v) (hB:B < u.heap.size):Once B o u v:=⟨Mod.of_below h,.inl (h.block B hB)⟩
theorem Once.drawn {B:Nat} {o:Obj} {u v:World} (h:Drawn u v):Once B o u v:=⟨Mod.of_below (h.below _),.inl (by rw [h.heap])⟩
theorem Once.stays {B:Nat} {o:Obj} {u v:World} (h:Once B o u v) (k:u.heap[B]?=some o):v.heap[B]?=some o:=h.2.elim (fun e=>e.trans k) id
theorem Once.drew {B:Nat} {o:Obj} {u v:World} (h:Once B o u.drew v):Once B o u v:=Once.trans (Once.drawn ((Drawn.refl u).drew)) h
theorem Once.cells {B:Nat} {t:TypeId} {a z:Array Value} {u v:World} (h:Once B (.cells z t (0,0)) u v) (hu:u.heap[B]?=some (.cells a t (0,0))) (hz:z.size=a.size):∃ b:Array Value,b.size=a.size∧v.heap[B]?=some (.cells b t (0,0)) :=
 h.2.elim (fun e=>⟨a,rfl,e.trans hu⟩) fun e=>⟨z,hz,e⟩
end Go.Proofs.YtnoehodmmkioaaaGreatDoor
namespace Go.Proofs.YtnoehodmmkioaaaGreatDoor.RecW
open Go.RowKit OctMath RecMath NameMath
open OctW (Rd One Texts textL textsL textsW listW)
def ExtR (u v:World):Prop:=Below u.heap.size u v
theorem ExtR.refl (w:World):ExtR w w:=Below.refl _ _
theorem ExtR.trans {u v w:World} (h:ExtR u v) (k:ExtR v w):ExtR u w:=Below.trans h (Below.mono k h.size)
theorem strs_over {w w':World} {a:Option Addr} {ts:List ByteArray} {B:Nat} (h:Strs w a ts) (hm:Mod (fun k=>k=B) w w') (ha:∀ ad,a=some ad→ts≠[]→ad.block≠B):Strs w' a ts:=by
 intro i hi
 obtain ⟨b,off,rfl,hc⟩:=h i hi
 refine ⟨b,off,rfl,?_⟩
 rw [hm.cell (cell_lt hc) (fun e=>ha _ rfl (fun e2=>by rw [e2] at hi; exact absurd hi (Nat.not_lt_zero _)) e)]
 exact hc
structure Mid0 (W:World) (Bt Br:Nat) (r:RS) (w:World):Prop where
 t:w.heap[Bt]?=some (.cells (cellsM noMsg none 0) 53 (0,0))
 r:Rd Br r w
 b:Below W.heap.size W w
theorem Mid0.one {W w w':World} {Bt Br:Nat} {r r':RS} (h:Mid0 W Bt Br r w) (hr:Rd Br r' w') (hm:One Br w w') (h1:Bt≠Br) (h3:W.heap.size≤Br):Mid0 W Bt Br r' w' :=
 ⟨(hm.block Bt (Array.getElem?_eq_some_iff.1 h.t).1 h1).trans h.t,hr,h.b.trans (hm.to_below _ h.b.size (fun k e=>e ▸ h3))⟩
theorem opened_any (s:List UInt8) (hs:s.length≤1073741824) (W:World) :
 Calls Tryz.prog 188 #[.string (S s)] W fun e w'=>∃ a c,e=.returned (.tuple #[.agg (cellsM (openedR s).1 a c),.bool (openedB s)])∧Strs w' a ((openedR s).1.keys.map S)∧Below W.heap.size W w'∧∀ ad,a=some ad→W.heap.size≤ad.block:=by
 have hM:=opened_ok s hs
 obtain ⟨k,r1,e1⟩:∃ k r1,numR 1 ⟨s,0⟩=(k,r1):=⟨_,_,rfl⟩
 obtain ⟨q,r2,e2⟩:∃ q r2,numR 1 r1=(q,r2):=⟨_,_,rfl⟩
 obtain ⟨rt,r3,e3⟩:∃ rt r3,numR 1 r2=(rt,r3):=⟨_,_,rfl⟩
 obtain ⟨b,r4,e4⟩:∃ b r4,numR 6 r3=(b,r4):=⟨_,_,rfl⟩
 obtain ⟨d,r5,e5⟩:∃ d r5,numR 6 r4=(d,r5):=⟨_,_,rfl⟩
 obtain ⟨rf,r6,e6⟩:∃ rf r6,numR 6 r5=(rf,r6):=⟨_,_,rfl⟩
 obtain ⟨t,r7,e7⟩:∃ t r7,textR 16 r6=(t,r7):=⟨_,_,rfl⟩
 obtain ⟨g,r8,e8⟩:∃ g r8,textR 16 r7=(g,r8):=⟨_,_,rfl⟩
 obtain ⟨bo,r9,e9⟩:∃ bo r9,textR 200 r8=(bo,r9):=⟨_,_,rfl⟩
 obtain ⟨ks,r10,e10⟩:∃ ks r10,listR 3 16 r9=(ks,r10):=⟨_,_,rfl⟩
 have hE:openedR s=(⟨k,q,d,rt,rf,b,t,g,bo,ks⟩,r10):=by
  unfold openedR
  simp only [e1,e2,e3,e4,e5,e6,e7,e8,e9,e10]
 have hl0:(⟨s,0⟩:RS).s.length≤1073741824:=hs
 have hl1:r1.s.length≤1073741824:=by have:=OctW.numR_len 1 ⟨s,0⟩; rw [e1] at this; exact Nat.le_trans this hl0
 have hl2:r2.s.length≤1073741824:=by have:=OctW.numR_len 1 r1; rw [e2] at this; exact Nat.le_trans this hl1
 have hl3:r3.s.length≤1073741824:=by have:=OctW.numR_len 1 r2; rw [e3] at this; exact Nat.le_trans this hl2
 have hl4:r4.s.length≤1073741824:=by have:=OctW.numR_len 6 r3; rw [e4] at this; exact Nat.le_trans this hl3
 have hl5:r5.s.length≤1073741824:=by have:=OctW.numR_len 6 r4; rw [e5] at this; exact Nat.le_trans this hl4
 have hl6:r6.s.length≤1073741824:=by have:=OctW.numR_len 6 r5; rw [e6] at this; exact Nat.le_trans this hl5
 have hl7:r7.s.length≤1073741824:=by have:=OctW.textR_len 16 r6; rw [e7] at this; exact Nat.le_trans this hl6
 have hl8:r8.s.length≤1073741824:=by have:=OctW.textR_len 16 r7; rw [e8] at this; exact Nat.le_trans this hl7
 have hl9:r9.s.length≤1073741824:=by have:=OctW.textR_len 200 r8; rw [e9] at this; exact Nat.le_trans this hl8
 have C1:=Lib.hid (fun (B:Nat) (w:World) (h:Rd B ⟨s,0⟩ w)=>OctW.num_any B ⟨s,0⟩ 1 (by omega) (by omega) (by omega) w h)
 have C2:=Lib.hid (fun (B:Nat) (w:World) (h:Rd B r1 w)=>OctW.num_any B r1 1 (by omega) (by omega) (by omega) w h)
 have C3:=Lib.hid (fun (B:Nat) (w:World) (h:Rd B r2 w)=>OctW.num_any B r2 1 (by omega) (by omega) (by omega) w h)
 have C4:=Lib.hid (fun (B:Nat) (w:World) (h:Rd B r3 w)=>OctW.num_any B r3 6 (by omega) (by omega) (by omega) w h)
 have C5:=Lib.hid (fun (B:Nat) (w:World) (h:Rd B r4 w)=>OctW.num_any B r4 6 (by omega) (by omega) (by omega) w h)
 have C6:=Lib.hid (fun (B:Nat) (w:World) (h:Rd B r5 w)=>OctW.num_any B r5 6 (by omega) (by omega) (by omega) w h)
 have C7:=Lib.hid (fun (B:Nat) (w:World) (h:Rd B r6 w)=>OctW.text_any B r6 16 (by omega) (by omega) (by omega) w h)
 have C8:=Lib.hid (fun (B:Nat) (w:World) (h:Rd B r7 w)=>OctW.text_any B r7 16 (by omega) (by omega) (by omega) w h)
 have C9:=Lib.hid (fun (B:Nat) (w:World) (h:Rd B r8 w)=>OctW.text_any B r8 200 (by omega) (by omega) (by omega) w h)
 have C10:=Lib.hid (fun (B:Nat) (w:World) (h:Rd B r9 w)=>OctW.list_any B r9 3 16 (by omega) (by omega) (by omega) (by omega) (by omega) w h)
 have CE:=Lib.hid (fun (B:Nat) (w:World) (h:Rd B r10 w)=>OctW.end_any B r10 w h)
 rw [e1] at C1; rw [e2] at C2; rw [e3] at C3; rw [e4] at C4; rw [e5] at C5; rw [e6] at C6; rw [e7] at C7; rw [e8] at C8; rw [e9] at C9; rw [e10] at C10
 simp only at C1 C2 C3 C4 C5 C6 C7 C8 C9 C10
 have hB:openedB s=(decide (endR r10=0) && decide ((k:Int)≠0) && rightL ⟨k,q,d,rt,rf,b,t,g,bo,ks⟩):=by unfold openedB; rw [hE]
 rw [hE] at hM ⊢
 rw [hB]
 simp only at hM ⊢
 have CR:=Lib.hid (fun (a:Option Addr) (c:Nat) (w:World) (h:Strs w a (ks.map S))=>right_any ⟨k,q,d,rt,rf,b,t,g,bo,ks⟩ hM a c w h)
 generalize hmm:(⟨k,q,d,rt,rf,b,t,g,bo,ks⟩:Msg)=mm at *
 have hcm:∀ a c,cellsM mm a c=#[.int .i64 k,.int .i64 q,.int .i64 d,.int .i64 rt,.int .i64 rf,.int .i64 b,.string (S t),.string (S g),.string (S bo),.slice a ks.length c]:=fun a c=>by rw [← hmm]; rfl
 have HCM:=Lib.hid hcm
 have HKS:Hid (mm.keys=ks):=by show _=_; rw [← hmm]
 have hmk:mm.kind=(k:Int):=by rw [← hmm]
 clear hcm hmm hE hB hM e1 e2 e3 e4 e5 e6 e7 e8 e9 e10 hl0 hl1 hl2 hl3 hl4 hl5 hl6 hl7 hl8 hl9
 go_enter Tryz.func188,Tryz.ntmps188
 go_wp2_with fail
 refine (OctW.new_any s _).mono ?_
 rintro e w1 ⟨rfl,hrd,hb⟩
 obtain ⟨Bt,hBt⟩:∃ B,W.heap.size=B:=⟨_,rfl⟩
 obtain ⟨Br,hBr⟩:∃ B,W.heap.size+1=B:=⟨_,rfl⟩
 have M0:Hid (Mid0 W Bt Br ⟨s,0⟩ w1):=by
  rw [World.size_alloc,hBr] at hrd
  refine ⟨?_,hrd,((Below.refl _ _).alloc (Nat.le_refl _) _).trans (hb.mono (by rw [World.size_alloc]; omega))⟩
  rw [← hBt,hb.block _ (by rw [World.size_alloc]; omega)]
  exact heap_alloc_new W _
 have hne:Bt≠Br:=by omega
 have hle:W.heap.size≤Br:=by omega
 clear hrd hb
 rw [World.size_alloc,hBr,hBt]
 have HNE:=Lib.hid hne
 have HLE:=Lib.hid hle
 have HBR:=Lib.hid hBr
 have HBT:=Lib.hid hBt
 clear hne hle hBr hBt
 go_wp2_with fail
 refine (C1.out Br _ M0.out.r).mono ?_
 rintro e w2 ⟨rfl,hr,hm⟩
 have M1:=Lib.hid (M0.out.one hr hm HNE.out HLE.out)
 clear hr hm M0 C1
 go_wp2_with fail
 refine (C2.out Br _ M1.out.r).mono ?_
 rintro e w3 ⟨rfl,hr,hm⟩
 have M2:=Lib.hid (M1.out.one hr hm HNE.out HLE.out)
 clear hr hm M1 C2
 go_wp2_with fail
 refine (C3.out Br _ M2.out.r).mono ?_
 rintro e w4 ⟨rfl,hr,hm⟩
 have M3:=Lib.hid (M2.out.one hr hm HNE.out HLE.out)
 clear hr hm M2 C3
 go_wp2_with fail
 obtain ⟨Bm,hBm⟩:∃ B,w4.heap.size=B:=⟨_,rfl⟩
 obtain ⟨w5,hw5⟩:∃ w5:World,w5=w4.alloc (.cells #[.int .i64 (k:Int),.int .i64 (q:Int),.int .i64 0,.int .i64 (rt:Int),.int .i64 0,.int .i64 0,.string ⟨#[]⟩,.string ⟨#[]⟩,.string ⟨#[]⟩,.slice none 0 0] 53):=⟨_,rfl⟩
 have M4:Hid (Mid W Bt Br Bm #[.int .i64 (k:Int),.int .i64 (q:Int),.int .i64 0,.int .i64 (rt:Int),.int .i64 0,.int .i64 0,.string ⟨#[]⟩,.string ⟨#[]⟩,.string ⟨#[]⟩,.slice none 0 0] r3 w5):=by
  have hbb:Below w4.heap.size w4 w5:=by rw [hw5]; exact (Below.refl _ _).alloc (Nat.le_refl _) _
  have h0:=M3.out
  refine ⟨?_,?_,?_,h0.b.trans (hbb.mono h0.b.size)⟩
  · rw [hbb.block _ (Array.getElem?_eq_some_iff.1 h0.t).1]; exact h0.t
  · rw [hw5,← hBm]; exact heap_alloc_new w4 _
  · exact h0.r.mod (Mod.of_below (M:=fun _=>False) hbb) (fun h=>h)
 have HRT:=HNE
 have HRM:Hid (Bm≠Br):=by
  have:=M3.out.r.lt
  show _≠_
  omega
 have HTM:Hid (Bt≠Bm):=by
  have:=(Array.getElem?_eq_some_iff.1 M3.out.t).1
  show _≠_
  omega
 have HLM:Hid (W.heap.size≤Bm):=by
  have:=M3.out.b.size
  show _≤_
  omega
 rw [← hw5,hBm]
 clear hw5 hBm M3
 refine (C4.out Br _ M4.out.r).mono ?_
 rintro e w6 ⟨rfl,hr,hm⟩
 have M5:=Lib.hid (M4.out.one hr hm HRT.out HRM.out HLE.out)
 clear hr hm M4 C4
 go_wp2_with fail
 refine (C5.out Br _ M5.out.r).mono ?_
 rintro e w7 ⟨rfl,hr,hm⟩
 have M6:=Lib.hid (M5.out.one hr hm HRT.out HRM.out HLE.out)
 clear hr hm M5 C5
 go_wp2_with fail
 refine (C6.out Br _ M6.out.r).mono ?_
 rintro e w8 ⟨rfl,hr,hm⟩
 have M7:=Lib.hid (M6.out.one hr hm HRT.out HRM.out HLE.out)
 clear hr hm M6 C6
 have q5:w8.cell? ⟨Bm,5,none⟩=some (.int .i64 0):=M7.out.cell 5 _ rfl
 have f5:w8.frozen? ⟨Bm,5,none⟩=false:=M7.out.free 5
 have q2:w8.cell? ⟨Bm,2,none⟩=some (.int .i64 0):=M7.out.cell 2 _ rfl
 have f2:w8.frozen? ⟨Bm,2,none⟩=false:=M7.out.free 2
 have q4:w8.cell? ⟨Bm,4,none⟩=some (.int .i64 0):=M7.out.cell 4 _ rfl
 have f4:w8.frozen? ⟨Bm,4,none⟩=false:=M7.out.free 4
 go_wp2_with fail
 have M8:Hid (Mid W Bt Br Bm #[.int .i64 (k:Int),.int .i64 (q:Int),.int .i64 (d:Int),.int .i64 (rt:Int),.int .i64 (rf:Int),.int .i64 (b:Int),.string ⟨#[]⟩,.string ⟨#[]⟩,.string ⟨#[]⟩,.slice none 0 0] r6 (((w8.setCell ⟨Bm,5,none⟩ (.int .i64 (b:Int))).setCell ⟨Bm,2,none⟩ (.int .i64 (d:Int))).setCell ⟨Bm,4,none⟩ (.int .i64 (rf:Int)))) :=
  ((M7.out.set 5 _ rfl HTM.out HRM.out HLM.out).set 2 _ rfl HTM.out HRM.out HLM.out).set 4 _ rfl HTM.out HRM.out HLM.out
 generalize ((w8.setCell ⟨Bm,5,none⟩ (.int .i64 (b:Int))).setCell ⟨Bm,2,none⟩ (.int .i64 (d:Int))).setCell ⟨Bm,4,none⟩ (.int .i64 (rf:Int))=w9 at *
 clear M7 q5 f5 q2 f2 q4 f4
 refine (C7.out Br _ M8.out.r).mono ?_
 rintro e w10 ⟨rfl,hr,hm⟩
 have M9:=Lib.hid (M8.out.one hr hm HRT.out HRM.out HLE.out)
 clear hr hm M8 C7
 go_wp2_with fail
 refine (C8.out Br _ M9.out.r).mono ?_
 rintro e w11 ⟨rfl,hr,hm⟩
 have M10:=Lib.hid (M9.out.one hr hm HRT.out HRM.out HLE.out)
 clear hr hm M9 C8
 go_wp2_with fail
 refine (C9.out Br _ M10.out.r).mono ?_
 rintro e w12 ⟨rfl,hr,hm⟩
 have M11:=Lib.hid (M10.out.one hr hm HRT.out HRM.out HLE.out)
 clear hr hm M10 C9
 have q6:w12.cell? ⟨Bm,6,none⟩=some (.string ⟨#[]⟩):=M11.out.cell 6 _ rfl
 have f6:w12.frozen? ⟨Bm,6,none⟩=false:=M11.out.free 6
 have q7:w12.cell? ⟨Bm,7,none⟩=some (.string ⟨#[]⟩):=M11.out.cell 7 _ rfl
 have f7:w12.frozen? ⟨Bm,7,none⟩=false:=M11.out.free 7
 have q8:w12.cell? ⟨Bm,8,none⟩=some (.string ⟨#[]⟩):=M11.out.cell 8 _ rfl
 have f8:w12.frozen? ⟨Bm,8,none⟩=false:=M11.out.free 8
 go_wp2_with fail
 have M12:Hid (Mid W Bt Br Bm #[.int .i64 (k:Int),.int .i64 (q:Int),.int .i64 (d:Int),.int .i64 (rt:Int),.int .i64 (rf:Int),.int .i64 (b:Int),.string (S t),.string (S g),.string (S bo),.slice none 0 0] r9 (((w12.setCell ⟨Bm,6,none⟩ (.string (S t))).setCell ⟨Bm,7,none⟩ (.string (S g))).setCell ⟨Bm,8,none⟩ (.string (S bo)))) :=
  ((M11.out.set 6 _ rfl HTM.out HRM.out HLM.out).set 7 _ rfl HTM.out HRM.out HLM.out).set 8 _ rfl HTM.out HRM.out HLM.out
 generalize ((w12.setCell ⟨Bm,6,none⟩ (.string (S t))).setCell ⟨Bm,7,none⟩ (.string (S g))).setCell ⟨Bm,8,none⟩ (.string (S bo))=w13 at *
 clear M11 q6 f6 q7 f7 q8 f8
 refine (C10.out Br _ M12.out.r).mono ?_
 rintro e w14 ⟨v,rfl,htx,hr,hm⟩
 have M13:=Lib.hid (M12.out.one hr hm HRT.out HRM.out HLE.out)
 obtain ⟨a,c,hv,hst⟩:=htx.strs
 subst hv
 have HST:=Lib.hid hst
 have HSB:Hid (w13.heap.size≤w14.heap.size):=hm.size
 have HAD:Hid (∀ ad,a=some ad→w13.heap.size≤ad.block):=fun ad e=>ownBlock_of_own htx ad.block (by rw [e]; rfl)
 have HWL:Hid (W.heap.size≤w13.heap.size):=M12.out.b.size
 have HML:Hid (Bm < w13.heap.size∧Bt < w13.heap.size):=⟨(Array.getElem?_eq_some_iff.1 M12.out.m).1,(Array.getElem?_eq_some_iff.1 M12.out.t).1⟩
 clear hr hm M12 C10 htx hst
 have q9:w14.cell? ⟨Bm,9,none⟩=some (.slice none 0 0):=M13.out.cell 9 _ rfl
 have f9:w14.frozen? ⟨Bm,9,none⟩=false:=M13.out.free 9
 go_wp2_with fail
 --REGION
 have M14:Hid (Mid W Bt Br Bm #[.int .i64 (k:Int),.int .i64 (q:Int),.int .i64 (d:Int),.int .i64 (rt:Int),.int .i64 (rf:Int),.int .i64 (b:Int),.string (S t),.string (S g),.string (S bo),.slice a ks.length c] r10 (w14.setCell ⟨Bm,9,none⟩ (.slice a ks.length c))):=M13.out.set 9 _ rfl HTM.out HRM.out HLM.out
 have HSY:Hid (Strs (w14.setCell ⟨Bm,9,none⟩ (.slice a ks.length c)) a (ks.map S)):=strs_over HST.out (setm (Mod.refl _ _) 9 _) (fun ad e _=>by have h1:=HAD.out ad e; have h2:=HML.out; omega)
 clear M13 q9 f9 HST
 generalize w14.setCell ⟨Bm,9,none⟩ (.slice a ks.length c)=w15 at *
 have HSX:Hid (∀ w,Mod (fun k=>k=Bt) w15 w→Strs w a (ks.map S)):=fun w hm=>strs_over HSY.out hm (fun ad e _=>by have h1:=HAD.out ad e; have h2:=HML.out; omega)
 have HBX:Hid (∀ w,Mod (fun k=>k=Bt) w15 w→∀ (i:Nat) (v:Value),(#[.int .i64 (k:Int),.int .i64 (q:Int),.int .i64 (d:Int),.int .i64 (rt:Int),.int .i64 (rf:Int),.int .i64 (b:Int),.string (S t),.string (S g),.string (S bo),.slice a ks.length c]:Array Value)[i]?=some v→w.cell? ⟨Bm,i,none⟩=some v):=fun w hm i v hv=>by
  rw [hm.cell (Array.getElem?_eq_some_iff.1 M14.out.m).1 (fun e=>HTM.out e.symm)]; exact M14.out.cell i v hv
 have HRX:Hid (∀ w,Mod (fun k=>k=Bt) w15 w→Rd Br r10 w):=fun w hm=>M14.out.r.mod hm (fun e=>HRT.out e.symm)
 have HT15:Hid (Bt < w15.heap.size):=(Array.getElem?_eq_some_iff.1 M14.out.t).1
 generalize hrl:rightL mm=rl at *
 generalize hki:(k:Int)=ki at *
 have HKI:=Lib.hid hki
 clear hki
 by_cases he:endR r10=0
 case neg =>
  have HFIN:Hid ((decide (endR r10=0) && decide (ki≠0) && rl)=false):=by show _=_; simp [he]
  have hbq:((((endR r10:Nat):Int)) == 0)=false:=OctW.eq_f he
  refine GrowN.wp_region_n 14 [some (.inl (.agg #[.int .i64 ki,.int .i64 (q:Int),.int .i64 (d:Int),.int .i64 (rt:Int),.int .i64 (rf:Int),.int .i64 (b:Int),.string (S t),.string (S g),.string (S bo),.slice a ks.length c])),none,some (.inl (.int .i64 ((endR r10:Nat):Int))),none,none,none,none,none,none,none,none,none,none,some (.inr (fun _ _ w=>w.heap[Bt]?=some (.cells #[.int .i64 ki,.int .i64 (q:Int),.int .i64 (d:Int),.int .i64 (rt:Int),.int .i64 (rf:Int),.int .i64 (b:Int),.string (S t),.string (S g),.string (S bo),.slice a ks.length c] 53 (0,0))))] (Once Bt (.cells #[.int .i64 ki,.int .i64 (q:Int),.int .i64 (d:Int),.int .i64 (rt:Int),.int .i64 (rf:Int),.int .i64 (b:Int),.string (S t),.string (S g),.string (S bo),.slice a ks.length c] 53 (0,0))) (by kernel_rfl) (by kernel_rfl) (by kernel_rfl) (Once.refl _ _) (fun _ _ _=>Once.trans) ?_ ?_
  ·
   intro K hK Y hY l v w w' hR h
   simp only [List.mem_cons,List.not_mem_nil,or_false] at hK
   rcases hK with rfl | rfl | rfl | rfl | rfl | rfl | rfl | rfl | rfl | rfl | rfl | rfl | rfl | rfl <;> simp only [reduceCtorEq,Option.some.injEq,Sum.inr.injEq] at hY
   subst hY
   exact hR.stays h
  simp only [List.take_succ_cons,List.take_zero,List.drop_succ_cons,List.drop_zero]
  refine GrowN.g_con rfl (fun w hw hF=>?_) ?_
  ·
   clear hF
   have hm:=((Mod.refl (fun k=>k=Bt) w15).drew).trans hw.1
   have k0:=HBX.out w hm 0 _ rfl
   have k1:=HBX.out w hm 1 _ rfl
   have k2:=HBX.out w hm 2 _ rfl
   have k3:=HBX.out w hm 3 _ rfl
   have k4:=HBX.out w hm 4 _ rfl
   have k5:=HBX.out w hm 5 _ rfl
   have k6:=HBX.out w hm 6 _ rfl
   have k7:=HBX.out w hm 7 _ rfl
   have k8:=HBX.out w hm 8 _ rfl
   have k9:=HBX.out w hm 9 _ rfl
   go_simp
   exact Once.refl _ _ _
  go_frame
  refine GrowN.g_det rfl ?_
  apply Exists.intro
  refine ⟨fun w hw hF=>?_,?_⟩
  · clear hF
    go_simp
    exact ⟨rfl,Once.refl _ _ _⟩
  go_frame
  refine GrowN.g_con rfl (fun w hw hF=>?_) ?_
  · clear hF
    have hm:=((Mod.refl (fun k=>k=Bt) w15).drew).trans hw.1
    go_simp
    exact (CE.out Br w (HRX.out w hm)).mono fun e w3 h=>⟨_,h.1,rfl,h.2 ▸ Once.refl _ _ _⟩
  go_frame
  iterate 10
   first
   | refine GrowN.g_skip rfl ?_
   | refine GrowN.g_det rfl ?_
     apply Exists.intro
     refine ⟨fun w hw hF=>?_,?_⟩
     · clear hF
       go_simp
       exact ⟨rfl,Once.refl _ _ _⟩
   go_frame
  refine GrowN.g_new rfl (fun w hw hF=>?_) (fun _=>?_)
  ·
   clear hF
   obtain ⟨z,hz,hzz⟩:=(Once.drew hw).cells M14.out.t rfl
   obtain ⟨z0,z1,z2,z3,z4,z5,z6,z7,z8,z9,rfl⟩:=ten z hz
   have k0:w.cell? ⟨Bt,0,none⟩=some z0:=by rw [Lib.cell_of_heap hzz]; rfl
   have k1:w.cell? ⟨Bt,1,none⟩=some z1:=by rw [Lib.cell_of_heap hzz]; rfl
   have k2:w.cell? ⟨Bt,2,none⟩=some z2:=by rw [Lib.cell_of_heap hzz]; rfl
   have k3:w.cell? ⟨Bt,3,none⟩=some z3:=by rw [Lib.cell_of_heap hzz]; rfl
   have k4:w.cell? ⟨Bt,4,none⟩=some z4:=by rw [Lib.cell_of_heap hzz]; rfl
   have k5:w.cell? ⟨Bt,5,none⟩=some z5:=by rw [Lib.cell_of_heap hzz]; rfl
   have k6:w.cell? ⟨Bt,6,none⟩=some z6:=by rw [Lib.cell_of_heap hzz]; rfl
   have k7:w.cell? ⟨Bt,7,none⟩=some z7:=by rw [Lib.cell_of_heap hzz]; rfl
   have k8:w.cell? ⟨Bt,8,none⟩=some z8:=by rw [Lib.cell_of_heap hzz]; rfl
   have k9:w.cell? ⟨Bt,9,none⟩=some z9:=by rw [Lib.cell_of_heap hzz]; rfl
   have hfr:∀ j,w.frozen? ⟨Bt,j,none⟩=false:=fun j=>Lib.frozen_of_heap hzz j
   have HH:=Lib.hid (put10_heap (z:=#[z0,z1,z2,z3,z4,z5,z6,z7,z8,z9]) rfl hzz (.int .i64 ki) (.int .i64 (q:Int)) (.int .i64 (d:Int)) (.int .i64 (rt:Int)) (.int .i64 (rf:Int)) (.int .i64 (b:Int)) (.string (S t)) (.string (S g)) (.string (S bo)) (.slice a ks.length c))
   have HBW:=Lib.hid (put10_mod w Bt (.int .i64 ki) (.int .i64 (q:Int)) (.int .i64 (d:Int)) (.int .i64 (rt:Int)) (.int .i64 (rf:Int)) (.int .i64 (b:Int)) (.string (S t)) (.string (S g)) (.string (S bo)) (.slice a ks.length c))
   clear hzz
   go_simp
   exact ⟨HH.out,HBW.out,.inr HH.out⟩
  go_frame
  refine GrowN.g_nil fun w16 hw16 hF=>?_
  have hz9:w16.heap[Bt]?=some (.cells #[.int .i64 ki,.int .i64 (q:Int),.int .i64 (d:Int),.int .i64 (rt:Int),.int .i64 (rf:Int),.int .i64 (b:Int),.string (S t),.string (S g),.string (S bo),.slice a ks.length c] 53 (0,0)):=hF _ (List.mem_singleton.2 rfl)
  have hm16:=((Mod.refl (fun k=>k=Bt) w15).drew).trans hw16.1
  have HS16:=Lib.hid (HSX.out w16 hm16)
  have HB16:Hid (Below W.heap.size W w16):=M14.out.b.trans (hm16.to_below _ M14.out.b.size (fun k e=>by rw [e,← HBT.out]; exact Nat.le_refl _))
  clear hF hw16 hm16
  have c0:w16.cell? ⟨Bt,0,none⟩=some (.int .i64 ki):=by rw [Lib.cell_of_heap hz9]; rfl
  have c1:w16.cell? ⟨Bt,1,none⟩=some (.int .i64 (q:Int)):=by rw [Lib.cell_of_heap hz9]; rfl
  have c2:w16.cell? ⟨Bt,2,none⟩=some (.int .i64 (d:Int)):=by rw [Lib.cell_of_heap hz9]; rfl
  have c3:w16.cell? ⟨Bt,3,none⟩=some (.int .i64 (rt:Int)):=by rw [Lib.cell_of_heap hz9]; rfl
  have c4:w16.cell? ⟨Bt,4,none⟩=some (.int .i64 (rf:Int)):=by rw [Lib.cell_of_heap hz9]; rfl
  have c5:w16.cell? ⟨Bt,5,none⟩=some (.int .i64 (b:Int)):=by rw [Lib.cell_of_heap hz9]; rfl
  have c6:w16.cell? ⟨Bt,6,none⟩=some (.string (S t)):=by rw [Lib.cell_of_heap hz9]; rfl
  have c7:w16.cell? ⟨Bt,7,none⟩=some (.string (S g)):=by rw [Lib.cell_of_heap hz9]; rfl
  have c8:w16.cell? ⟨Bt,8,none⟩=some (.string (S bo)):=by rw [Lib.cell_of_heap hz9]; rfl
  have c9:w16.cell? ⟨Bt,9,none⟩=some (.slice a ks.length c):=by rw [Lib.cell_of_heap hz9]; rfl
  go_wp2_with fail
  refine bodyPost_ret (v:=.tuple #[.agg #[.int .i64 ki,.int .i64 (q:Int),.int .i64 (d:Int),.int .i64 (rt:Int),.int .i64 (rf:Int),.int .i64 (b:Int),.string (S t),.string (S g),.string (S bo),.slice a ks.length c],.bool false]) ?_ rfl ⟨a,c,?_,?_,?_⟩
  · clear hz9
    simp [results,Tryz.results188,go_sem,c0,c1,c2,c3,c4,c5,c6,c7,c8,c9]
  · rw [HCM.out,hrl,HKI.out,HFIN.out]
  · exact HS16.out
  · exact ⟨HB16.out,fun ad e=>Nat.le_trans HWL.out (HAD.out ad e)⟩
 case pos =>
  have CE0:Hid (∀ (B:Nat) (w:World),Rd B r10 w→Calls Tryz.prog 122 #[.pointer (some ⟨B,0,none⟩)] w fun e w'=>e=.returned (.int .i64 0)∧w=w'):=by
   have h:=CE.out
   rw [he] at h
   exact h
  have HE:=Lib.hid he
  clear CE he
  by_cases hk0:ki=0
  case pos =>
   have HFIN:Hid ((decide (endR r10=0) && decide (ki≠0) && rl)=false):=by show _=_; simp [hk0]
   subst hk0
   refine GrowN.wp_region_n 14 [some (.inl (.agg #[.int .i64 0,.int .i64 (q:Int),.int .i64 (d:Int),.int .i64 (rt:Int),.int .i64 (rf:Int),.int .i64 (b:Int),.string (S t),.string (S g),.string (S bo),.slice a ks.length c])),none,some (.inl (.int .i64 0)),none,none,none,none,none,none,none,none,none,none,some (.inr (fun _ _ w=>w.heap[Bt]?=some (.cells #[.int .i64 0,.int .i64 (q:Int),.int .i64 (d:Int),.int .i64 (rt:Int),.int .i64 (rf:Int),.int .i64 (b:Int),.string (S t),.string (S g),.string (S bo),.slice a ks.length c] 53 (0,0))))] (Once Bt (.cells #[.int .i64 0,.int .i64 (q:Int),.int .i64 (d:Int),.int .i64 (rt:Int),.int .i64 (rf:Int),.int .i64 (b:Int),.string (S t),.string (S g),.string (S bo),.slice a ks.length c] 53 (0,0))) (by kernel_rfl) (by kernel_rfl) (by kernel_rfl) (Once.refl _ _) (fun _ _ _=>Once.trans) ?_ ?_
   · intro K hK Y hY l v w w' hR h
     simp only [List.mem_cons,List.not_mem_nil,or_false] at hK
     rcases hK with rfl | rfl | rfl | rfl | rfl | rfl | rfl | rfl | rfl | rfl | rfl | rfl | rfl | rfl <;> simp only [reduceCtorEq,Option.some.injEq,Sum.inr.injEq] at hY
     subst hY
     exact hR.stays h
   simp only [List.take_succ_cons,List.take_zero,List.drop_succ_cons,List.drop_zero]
   refine GrowN.g_con rfl (fun w hw hF=>?_) ?_
   ·
    clear hF
    have hm:=((Mod.refl (fun k=>k=Bt) w15).drew).trans hw.1
    have k0:=HBX.out w hm 0 _ rfl
    have k1:=HBX.out w hm 1 _ rfl
    have k2:=HBX.out w hm 2 _ rfl
    have k3:=HBX.out w hm 3 _ rfl
    have k4:=HBX.out w hm 4 _ rfl
    have k5:=HBX.out w hm 5 _ rfl
    have k6:=HBX.out w hm 6 _ rfl
    have k7:=HBX.out w hm 7 _ rfl
    have k8:=HBX.out w hm 8 _ rfl
    have k9:=HBX.out w hm 9 _ rfl
    go_simp
    exact Once.refl _ _ _
   go_frame
   refine GrowN.g_det rfl ?_
   apply Exists.intro
   refine ⟨fun w hw hF=>?_,?_⟩
   · clear hF
     go_simp
     exact ⟨rfl,Once.refl _ _ _⟩
   go_frame
   refine GrowN.g_con rfl (fun w hw hF=>?_) ?_
   · clear hF
     have hm:=((Mod.refl (fun k=>k=Bt) w15).drew).trans hw.1
     go_simp
     exact (CE0.out Br w (HRX.out w hm)).mono fun e w3 h=>⟨_,h.1,rfl,h.2 ▸ Once.refl _ _ _⟩
   iterate 3
    go_frame
    refine GrowN.g_det rfl ?_
    apply Exists.intro
    refine ⟨fun w hw hF=>?_,?_⟩
    · clear hF
      go_simp
      exact ⟨rfl,Once.refl _ _ _⟩
   go_frame
   refine GrowN.g_det rfl ?_
   apply Exists.intro
   refine ⟨fun w hw hF=>?_,?_⟩
   · clear hF
     have hm:=((Mod.refl (fun k=>k=Bt) w15).drew).trans hw.1
     have k0:=HBX.out w hm 0 _ rfl
     go_simp
     exact ⟨rfl,Once.refl _ _ _⟩
   go_frame
   iterate 6
    first
    | refine GrowN.g_skip rfl ?_
    | refine GrowN.g_det rfl ?_
      apply Exists.intro
      refine ⟨fun w hw hF=>?_,?_⟩
      · clear hF
        go_simp
        exact ⟨rfl,Once.refl _ _ _⟩
    go_frame
   refine GrowN.g_new rfl (fun w hw hF=>?_) (fun _=>?_)
   ·
    clear hF
    obtain ⟨z,hz,hzz⟩:=(Once.drew hw).cells M14.out.t rfl
    obtain ⟨z0,z1,z2,z3,z4,z5,z6,z7,z8,z9,rfl⟩:=ten z hz
    have k0:w.cell? ⟨Bt,0,none⟩=some z0:=by rw [Lib.cell_of_heap hzz]; rfl
    have k1:w.cell? ⟨Bt,1,none⟩=some z1:=by rw [Lib.cell_of_heap hzz]; rfl
    have k2:w.cell? ⟨Bt,2,none⟩=some z2:=by rw [Lib.cell_of_heap hzz]; rfl
    have k3:w.cell? ⟨Bt,3,none⟩=some z3:=by rw [Lib.cell_of_heap hzz]; rfl
    have k4:w.cell? ⟨Bt,4,none⟩=some z4:=by rw [Lib.cell_of_heap hzz]; rfl
    have k5:w.cell? ⟨Bt,5,none⟩=some z5:=by rw [Lib.cell_of_heap hzz]; rfl
    have k6:w.cell? ⟨Bt,6,none⟩=some z6:=by rw [Lib.cell_of_heap hzz]; rfl
    have k7:w.cell? ⟨Bt,7,none⟩=some z7:=by rw [Lib.cell_of_heap hzz]; rfl
    have k8:w.cell? ⟨Bt,8,none⟩=some z8:=by rw [Lib.cell_of_heap hzz]; rfl
    have k9:w.cell? ⟨Bt,9,none⟩=some z9:=by rw [Lib.cell_of_heap hzz]; rfl
    have hfr:∀ j,w.frozen? ⟨Bt,j,none⟩=false:=fun j=>Lib.frozen_of_heap hzz j
    have HH:=Lib.hid (put10_heap (z:=#[z0,z1,z2,z3,z4,z5,z6,z7,z8,z9]) rfl hzz (.int .i64 0) (.int .i64 (q:Int)) (.int .i64 (d:Int)) (.int .i64 (rt:Int)) (.int .i64 (rf:Int)) (.int .i64 (b:Int)) (.string (S t)) (.string (S g)) (.string (S bo)) (.slice a ks.length c))
    have HBW:=Lib.hid (put10_mod w Bt (.int .i64 0) (.int .i64 (q:Int)) (.int .i64 (d:Int)) (.int .i64 (rt:Int)) (.int .i64 (rf:Int)) (.int .i64 (b:Int)) (.string (S t)) (.string (S g)) (.string (S bo)) (.slice a ks.length c))
    clear hzz
    go_simp
    exact ⟨HH.out,HBW.out,.inr HH.out⟩
   go_frame
   refine GrowN.g_nil fun w16 hw16 hF=>?_
   have hz9:w16.heap[Bt]?=some (.cells #[.int .i64 0,.int .i64 (q:Int),.int .i64 (d:Int),.int .i64 (rt:Int),.int .i64 (rf:Int),.int .i64 (b:Int),.string (S t),.string (S g),.string (S bo),.slice a ks.length c] 53 (0,0)):=hF _ (List.mem_singleton.2 rfl)
   have hm16:=((Mod.refl (fun k=>k=Bt) w15).drew).trans hw16.1
   have HS16:=Lib.hid (HSX.out w16 hm16)
   have HB16:Hid (Below W.heap.size W w16):=M14.out.b.trans (hm16.to_below _ M14.out.b.size (fun k e=>by rw [e,← HBT.out]; exact Nat.le_refl _))
   clear hF hw16 hm16
   have c0:w16.cell? ⟨Bt,0,none⟩=some (.int .i64 0):=by rw [Lib.cell_of_heap hz9]; rfl
   have c1:w16.cell? ⟨Bt,1,none⟩=some (.int .i64 (q:Int)):=by rw [Lib.cell_of_heap hz9]; rfl
   have c2:w16.cell? ⟨Bt,2,none⟩=some (.int .i64 (d:Int)):=by rw [Lib.cell_of_heap hz9]; rfl
   have c3:w16.cell? ⟨Bt,3,none⟩=some (.int .i64 (rt:Int)):=by rw [Lib.cell_of_heap hz9]; rfl
   have c4:w16.cell? ⟨Bt,4,none⟩=some (.int .i64 (rf:Int)):=by rw [Lib.cell_of_heap hz9]; rfl
   have c5:w16.cell? ⟨Bt,5,none⟩=some (.int .i64 (b:Int)):=by rw [Lib.cell_of_heap hz9]; rfl
   have c6:w16.cell? ⟨Bt,6,none⟩=some (.string (S t)):=by rw [Lib.cell_of_heap hz9]; rfl
   have c7:w16.cell? ⟨Bt,7,none⟩=some (.string (S g)):=by rw [Lib.cell_of_heap hz9]; rfl
   have c8:w16.cell? ⟨Bt,8,none⟩=some (.string (S bo)):=by rw [Lib.cell_of_heap hz9]; rfl
   have c9:w16.cell? ⟨Bt,9,none⟩=some (.slice a ks.length c):=by rw [Lib.cell_of_heap hz9]; rfl
   go_wp2_with fail
   refine bodyPost_ret (v:=.tuple #[.agg #[.int .i64 0,.int .i64 (q:Int),.int .i64 (d:Int),.int .i64 (rt:Int),.int .i64 (rf:Int),.int .i64 (b:Int),.string (S t),.string (S g),.string (S bo),.slice a ks.length c],.bool false]) ?_ rfl ⟨a,c,?_,?_,?_⟩
   · clear hz9
     simp [results,Tryz.results188,go_sem,c0,c1,c2,c3,c4,c5,c6,c7,c8,c9]
   · rw [HCM.out,hrl,HKI.out,HFIN.out]
   · exact HS16.out
   · exact ⟨HB16.out,fun ad e=>Nat.le_trans HWL.out (HAD.out ad e)⟩
  case neg =>
   have HFIN:Hid ((decide (endR r10=0) && decide (ki≠0) && rl)=rl):=by show _=_; rw [HE.out]; simp [hk0]
   have hkq:(ki != 0)=true:=bne_iff_ne.2 hk0
   refine GrowN.wp_region_n 14 [some (.inl (.agg #[.int .i64 ki,.int .i64 (q:Int),.int .i64 (d:Int),.int .i64 (rt:Int),.int .i64 (rf:Int),.int .i64 (b:Int),.string (S t),.string (S g),.string (S bo),.slice a ks.length c])),none,some (.inl (.int .i64 0)),none,none,none,none,none,none,none,some (.inl (.agg #[.int .i64 ki,.int .i64 (q:Int),.int .i64 (d:Int),.int .i64 (rt:Int),.int .i64 (rf:Int),.int .i64 (b:Int),.string (S t),.string (S g),.string (S bo),.slice a ks.length c])),some (.inl (.bool rl)),none,some (.inr (fun _ _ w=>w.heap[Bt]?=some (.cells #[.int .i64 ki,.int .i64 (q:Int),.int .i64 (d:Int),.int .i64 (rt:Int),.int .i64 (rf:Int),.int .i64 (b:Int),.string (S t),.string (S g),.string (S bo),.slice a ks.length c] 53 (0,0))))] (Once Bt (.cells #[.int .i64 ki,.int .i64 (q:Int),.int .i64 (d:Int),.int .i64 (rt:Int),.int .i64 (rf:Int),.int .i64 (b:Int),.string (S t),.string (S g),.string (S bo),.slice a ks.length c] 53 (0,0))) (by kernel_rfl) (by kernel_rfl) (by kernel_rfl) (Once.refl _ _) (fun _ _ _=>Once.trans) ?_ ?_
   · intro K hK Y hY l v w w' hR h
     simp only [List.mem_cons,List.not_mem_nil,or_false] at hK
     rcases hK with rfl | rfl | rfl | rfl | rfl | rfl | rfl | rfl | rfl | rfl | rfl | rfl | rfl | rfl <;> simp only [reduceCtorEq,Option.some.injEq,Sum.inr.injEq] at hY
     subst hY
     exact hR.stays h
   simp only [List.take_succ_cons,List.take_zero,List.drop_succ_cons,List.drop_zero]
   refine GrowN.g_con rfl (fun w hw hF=>?_) ?_
   ·
    clear hF
    have hm:=((Mod.refl (fun k=>k=Bt) w15).drew).trans hw.1
    have k0:=HBX.out w hm 0 _ rfl
    have k1:=HBX.out w hm 1 _ rfl
    have k2:=HBX.out w hm 2 _ rfl
    have k3:=HBX.out w hm 3 _ rfl
    have k4:=HBX.out w hm 4 _ rfl
    have k5:=HBX.out w hm 5 _ rfl
    have k6:=HBX.out w hm 6 _ rfl
    have k7:=HBX.out w hm 7 _ rfl
    have k8:=HBX.out w hm 8 _ rfl
    have k9:=HBX.out w hm 9 _ rfl
    go_simp
    exact Once.refl _ _ _
   go_frame
   refine GrowN.g_det rfl ?_
   apply Exists.intro
   refine ⟨fun w hw hF=>?_,?_⟩
   · clear hF
     go_simp
     exact ⟨rfl,Once.refl _ _ _⟩
   go_frame
   refine GrowN.g_con rfl (fun w hw hF=>?_) ?_
   · clear hF
     have hm:=((Mod.refl (fun k=>k=Bt) w15).drew).trans hw.1
     go_simp
     exact (CE0.out Br w (HRX.out w hm)).mono fun e w3 h=>⟨_,h.1,rfl,h.2 ▸ Once.refl _ _ _⟩
   iterate 3
    go_frame
    refine GrowN.g_det rfl ?_
    apply Exists.intro
    refine ⟨fun w hw hF=>?_,?_⟩
    · clear hF
      go_simp
      exact ⟨rfl,Once.refl _ _ _⟩
   go_frame
   refine GrowN.g_det rfl ?_
   apply Exists.intro
   refine ⟨fun w hw hF=>?_,?_⟩
   · clear hF
     have hm:=((Mod.refl (fun k=>k=Bt) w15).drew).trans hw.1
     have k0:=HBX.out w hm 0 _ rfl
     go_simp
     exact ⟨rfl,Once.refl _ _ _⟩
   iterate 3
    go_frame
    refine GrowN.g_det rfl ?_
    apply Exists.intro
    refine ⟨fun w hw hF=>?_,?_⟩
    · clear hF
      go_simp
      exact ⟨rfl,Once.refl _ _ _⟩
   go_frame
   refine GrowN.g_con rfl (fun w hw hF=>?_) ?_
   ·
    clear hF
    have hm:=((Mod.refl (fun k=>k=Bt) w15).drew).trans hw.1
    have k0:=HBX.out w hm 0 _ rfl
    have k1:=HBX.out w hm 1 _ rfl
    have k2:=HBX.out w hm 2 _ rfl
    have k3:=HBX.out w hm 3 _ rfl
    have k4:=HBX.out w hm 4 _ rfl
    have k5:=HBX.out w hm 5 _ rfl
    have k6:=HBX.out w hm 6 _ rfl
    have k7:=HBX.out w hm 7 _ rfl
    have k8:=HBX.out w hm 8 _ rfl
    have k9:=HBX.out w hm 9 _ rfl
    go_simp
    exact Once.refl _ _ _
   go_frame
   refine GrowN.g_con rfl (fun w hw hF=>?_) ?_
   ·
    clear hF
    have hm:=((Mod.refl (fun k=>k=Bt) w15).drew).trans hw.1
    go_simp
    have hlt:Bt < w.heap.size:=Nat.lt_of_lt_of_le HT15.out hm.size
    have hcr:=CR.out a c w (HSX.out w hm)
    rw [HCM.out] at hcr
    exact hcr.mono fun e w3 h=>⟨_,h.1,rfl,Once.below h.2 hlt⟩
   go_frame
   refine GrowN.g_det rfl ?_
   apply Exists.intro
   refine ⟨fun w hw hF=>?_,?_⟩
   · clear hF
     go_simp
     exact ⟨rfl,Once.refl _ _ _⟩
   go_frame
   refine GrowN.g_new rfl (fun w hw hF=>?_) (fun _=>?_)
   ·
    clear hF
    obtain ⟨z,hz,hzz⟩:=(Once.drew hw).cells M14.out.t rfl
    obtain ⟨z0,z1,z2,z3,z4,z5,z6,z7,z8,z9,rfl⟩:=ten z hz
    have k0:w.cell? ⟨Bt,0,none⟩=some z0:=by rw [Lib.cell_of_heap hzz]; rfl
    have k1:w.cell? ⟨Bt,1,none⟩=some z1:=by rw [Lib.cell_of_heap hzz]; rfl
    have k2:w.cell? ⟨Bt,2,none⟩=some z2:=by rw [Lib.cell_of_heap hzz]; rfl
    have k3:w.cell? ⟨Bt,3,none⟩=some z3:=by rw [Lib.cell_of_heap hzz]; rfl
    have k4:w.cell? ⟨Bt,4,none⟩=some z4:=by rw [Lib.cell_of_heap hzz]; rfl
    have k5:w.cell? ⟨Bt,5,none⟩=some z5:=by rw [Lib.cell_of_heap hzz]; rfl
    have k6:w.cell? ⟨Bt,6,none⟩=some z6:=by rw [Lib.cell_of_heap hzz]; rfl
    have k7:w.cell? ⟨Bt,7,none⟩=some z7:=by rw [Lib.cell_of_heap hzz]; rfl
    have k8:w.cell? ⟨Bt,8,none⟩=some z8:=by rw [Lib.cell_of_heap hzz]; rfl
    have k9:w.cell? ⟨Bt,9,none⟩=some z9:=by rw [Lib.cell_of_heap hzz]; rfl
    have hfr:∀ j,w.frozen? ⟨Bt,j,none⟩=false:=fun j=>Lib.frozen_of_heap hzz j
    have HH:=Lib.hid (put10_heap (z:=#[z0,z1,z2,z3,z4,z5,z6,z7,z8,z9]) rfl hzz (.int .i64 ki) (.int .i64 (q:Int)) (.int .i64 (d:Int)) (.int .i64 (rt:Int)) (.int .i64 (rf:Int)) (.int .i64 (b:Int)) (.string (S t)) (.string (S g)) (.string (S bo)) (.slice a ks.length c))
    have HBW:=Lib.hid (put10_mod w Bt (.int .i64 ki) (.int .i64 (q:Int)) (.int .i64 (d:Int)) (.int .i64 (rt:Int)) (.int .i64 (rf:Int)) (.int .i64 (b:Int)) (.string (S t)) (.string (S g)) (.string (S bo)) (.slice a ks.length c))
    clear hzz
    go_simp
    exact ⟨HH.out,HBW.out,.inr HH.out⟩
   go_frame
   refine GrowN.g_nil fun w16 hw16 hF=>?_
   have hz9:w16.heap[Bt]?=some (.cells #[.int .i64 ki,.int .i64 (q:Int),.int .i64 (d:Int),.int .i64 (rt:Int),.int .i64 (rf:Int),.int .i64 (b:Int),.string (S t),.string (S g),.string (S bo),.slice a ks.length c] 53 (0,0)):=hF _ (List.mem_singleton.2 rfl)
   have hm16:=((Mod.refl (fun k=>k=Bt) w15).drew).trans hw16.1
   have HS16:=Lib.hid (HSX.out w16 hm16)
   have HB16:Hid (Below W.heap.size W w16):=M14.out.b.trans (hm16.to_below _ M14.out.b.size (fun k e=>by rw [e,← HBT.out]; exact Nat.le_refl _))
   clear hF hw16 hm16
   have c0:w16.cell? ⟨Bt,0,none⟩=some (.int .i64 ki):=by rw [Lib.cell_of_heap hz9]; rfl
   have c1:w16.cell? ⟨Bt,1,none⟩=some (.int .i64 (q:Int)):=by rw [Lib.cell_of_heap hz9]; rfl
   have c2:w16.cell? ⟨Bt,2,none⟩=some (.int .i64 (d:Int)):=by rw [Lib.cell_of_heap hz9]; rfl
   have c3:w16.cell? ⟨Bt,3,none⟩=some (.int .i64 (rt:Int)):=by rw [Lib.cell_of_heap hz9]; rfl
   have c4:w16.cell? ⟨Bt,4,none⟩=some (.int .i64 (rf:Int)):=by rw [Lib.cell_of_heap hz9]; rfl
   have c5:w16.cell? ⟨Bt,5,none⟩=some (.int .i64 (b:Int)):=by rw [Lib.cell_of_heap hz9]; rfl
   have c6:w16.cell? ⟨Bt,6,none⟩=some (.string (S t)):=by rw [Lib.cell_of_heap hz9]; rfl
   have c7:w16.cell? ⟨Bt,7,none⟩=some (.string (S g)):=by rw [Lib.cell_of_heap hz9]; rfl
   have c8:w16.cell? ⟨Bt,8,none⟩=some (.string (S bo)):=by rw [Lib.cell_of_heap hz9]; rfl
   have c9:w16.cell? ⟨Bt,9,none⟩=some (.slice a ks.length c):=by rw [Lib.cell_of_heap hz9]; rfl
   go_wp2_with fail
   refine bodyPost_ret (v:=.tuple #[.agg #[.int .i64 ki,.int .i64 (q:Int),.int .i64 (d:Int),.int .i64 (rt:Int),.int .i64 (rf:Int),.int .i64 (b:Int),.string (S t),.string (S g),.string (S bo),.slice a ks.length c],.bool rl]) ?_ rfl ⟨a,c,?_,?_,?_⟩
   · clear hz9
     simp [results,Tryz.results188,go_sem,c0,c1,c2,c3,c4,c5,c6,c7,c8,c9]
   · rw [HCM.out,hrl,HKI.out,HFIN.out]
   · exact HS16.out
   · exact ⟨HB16.out,fun ad e=>Nat.le_trans HWL.out (HAD.out ad e)⟩
open Go.RowKit OctMath RecMath NameMath
open OctW (Rd One Texts textL textsL textsW listW)
structure Mid1 (W:World) (Bt Br:Nat) (r:RS) (w:World):Prop where
 t:w.heap[Bt]?=some (.cells (cellsM noMsg none 0) 53 (0,0))
 r:Rd Br r w
 b:Below W.heap.size W w
 ne:Bt≠Br
 le:W.heap.size≤Br
 lt:W.heap.size≤Bt
theorem Mid1.one {W w w':World} {Bt Br:Nat} {r r':RS} (h:Mid1 W Bt Br r w) (hr:Rd Br r' w') (hm:One Br w w'):Mid1 W Bt Br r' w' :=
 ⟨(hm.block Bt (Array.getElem?_eq_some_iff.1 h.t).1 h.ne).trans h.t,hr,h.b.trans (hm.to_below _ h.b.size (fun k e=>e ▸ h.le)),h.ne,h.le,h.lt⟩
theorem Mid1.ext {W w w':World} {Bt Br:Nat} {r:RS} (h:Mid1 W Bt Br r w) (hb:Below w.heap.size w w'):Mid1 W Bt Br r w' :=
 ⟨(hb.block _ (Array.getElem?_eq_some_iff.1 h.t).1).trans h.t,h.r.mod (Mod.of_below (M:=fun _=>False) hb) (fun h=>h),h.b.trans (hb.mono h.b.size),h.ne,h.le,h.lt⟩
theorem rec_parts (m:Msg) (h:rightL m=true) (h0:m.kind≠0) (rest:List UInt8):∃ n:Nat,n=(recL m).length∧7≤n∧n≤507∧takeR 1 ⟨recL m++rest,0⟩=([165],⟨be 2 n++(CrcMath.sealed (insideL m)++rest),0⟩) ∧
 numR 2 ⟨be 2 n++(CrcMath.sealed (insideL m)++rest),0⟩=(n,⟨CrcMath.sealed (insideL m)++rest,0⟩)∧takeR ((n:Int) - 3) ⟨CrcMath.sealed (insideL m)++rest,0⟩=(CrcMath.sealed (insideL m),⟨rest,0⟩)∧(CrcMath.sealed (insideL m)).length=n - 3:=by
 have hl:=inside_len h h0
 have hsl:=CrcMath.sealed_length (insideL m)
 obtain ⟨hrl,hrl2⟩:=rec_len h h0
 refine ⟨3+(CrcMath.sealed (insideL m)).length,by omega,by omega,by omega,?_,?_,?_,by omega⟩
 · unfold takeR recL
   rw [if_neg (by simp),if_neg (by omega),if_neg (by simp <;> omega)]
   simp
 · exact OctW.numR_be 2 _ _ (by omega) (by omega) (by omega)
 ·
  unfold takeR
  rw [if_neg (by simp),if_neg (by omega),if_neg (by simp <;> omega)]
  have:(((3+(CrcMath.sealed (insideL m)).length:Nat):Int) - 3).toNat=(CrcMath.sealed (insideL m)).length:=by omega
  rw [this]
  simp
theorem get_one (B:Nat) (m:Msg) (hm:rightL m=true) (h0:m.kind≠0) (rest:List UInt8) (hr:rest.length≤1048576) (W:World) (hB:B < W.heap.size) (hT:CrcW.Tabs W B) :
 Calls Tryz.prog 130 #[.pointer (some ⟨B,0,none⟩),.string (S (recL m++rest))] W fun e w'=>∃ a c,e=.returned (.tuple #[.agg (cellsM m a c),.int .i64 ((recL m).length:Int),.int .i64 0])∧Strs w' a (m.keys.map S)∧Below W.heap.size W w'∧∀ ad,a=some ad→W.heap.size≤ad.block:=by
 obtain ⟨n,hn,hn7,hn5,e1,e2,e3,e4⟩:=rec_parts m hm h0 rest
 rw [← hn]
 have hil:=inside_len hm h0
 have hop:=opened_put m hm h0
 have hob:openedB (insideL m)=true:=by
  unfold openedB
  rw [hop]
  simp [endR,h0,hm]
 have C1:=Lib.hid (fun (Br:Nat) (w:World) (h:Rd Br ⟨recL m++rest,0⟩ w)=>OctW.take_any Br ⟨recL m++rest,0⟩ 1 (by omega) (by omega) (by show (recL m++rest).length≤_; rw [List.length_append]; omega) w h)
 have C2:=Lib.hid (fun (Br:Nat) (w:World) (h:Rd Br ⟨be 2 n++(CrcMath.sealed (insideL m)++rest),0⟩ w)=>OctW.num_any Br ⟨be 2 n++(CrcMath.sealed (insideL m)++rest),0⟩ 2 (by omega) (by omega) (by simp only [List.length_append,be_length]; omega) w h)
 have C3:=Lib.hid (fun (Br:Nat) (w:World) (h:Rd Br ⟨CrcMath.sealed (insideL m)++rest,0⟩ w)=>OctW.take_any Br ⟨CrcMath.sealed (insideL m)++rest,0⟩ ((n:Int) - 3) (by omega) (by omega) (by simp only [List.length_append]; omega) w h)
 have C4:=Lib.hid (fun (Br:Nat) (w:World) (h:Rd Br ⟨rest,0⟩ w)=>OctW.err_any Br ⟨rest,0⟩ w h)
 rw [e1] at C1
 rw [e2] at C2
 rw [e3] at C3
 simp only at C1 C2 C3 C4
 have C5:=Lib.hid (fun (w:World) (hb:Below W.heap.size W w)=>CrcW.open_long B (S (CrcMath.sealed (insideL m))) (by rw [S_size]; omega) (by rw [S_size]; omega) w (by have:=hb.size; omega) (tabs_below hT hB hb))
 have hse:(S (CrcMath.sealed (insideL m))).data.toList=CrcMath.sealed ((S (CrcMath.sealed (insideL m))).data.toList.drop 4):=by rw [S_list,CrcMath.sealed_drop]
 have hex:(S (CrcMath.sealed (insideL m))).extract 4 (S (CrcMath.sealed (insideL m))).size=S (insideL m):=by rw [S_drop,CrcMath.sealed_drop]
 rw [if_pos hse,hex] at C5
 have C6:=Lib.hid (fun (w:World)=>opened_any (insideL m) (by omega) w)
 rw [hop,hob] at C6
 simp only at C6
 have hsz:=S_size
 have hlen:(recL m++rest).length=n+rest.length:=by rw [List.length_append]; omega
 have HS3:¬ ((n:Int)+(rest.length:Int) < 3):=by omega
 have hmx:max ((n:Int) - 3) 0=(n:Int) - 3:=by omega
 have htl:=S_toList
 clear hse hex hop hob hil e1 e2 e3 hm hT hB hr hn
 generalize CrcMath.sealed (insideL m)=sl at *
 generalize insideL m=il at *
 generalize recL m++rest=rr at *
 unfold cellsM at C6
 go_enter Tryz.func130,Tryz.ntmps130
 go_wp2_with fail
 refine (OctW.new_any _ _).mono ?_
 rintro e w1 ⟨rfl,hrd,hb⟩
 obtain ⟨Bt,hBt⟩:∃ B,W.heap.size=B:=⟨_,rfl⟩
 obtain ⟨Br,hBr⟩:∃ B,W.heap.size+1=B:=⟨_,rfl⟩
 have M0:Hid (Mid1 W Bt Br ⟨rr,0⟩ w1):=by
  rw [World.size_alloc,hBr] at hrd
  refine ⟨?_,hrd,((Below.refl _ _).alloc (Nat.le_refl _) _).trans (hb.mono (by rw [World.size_alloc]; omega)),by omega,by omega,by omega⟩
  rw [← hBt,hb.block _ (by rw [World.size_alloc]; omega)]
  exact heap_alloc_new W _
 clear hrd hb
 rw [World.size_alloc,hBr,hBt]
 have HBT:=Lib.hid hBt
 clear hBr hBt
 go_wp2_with fail
 refine (C1.out Br _ M0.out.r).mono ?_
 rintro e w2 ⟨rfl,hr,hm⟩
 have M1:=Lib.hid (M0.out.one hr hm)
 clear hr hm M0 C1
 go_wp2_with fail
 refine (C2.out Br _ M1.out.r).mono ?_
 rintro e w3 ⟨rfl,hr,hm⟩
 have M2:=Lib.hid (M1.out.one hr hm)
 clear hr hm M1 C2
 go_wp2_with fail
 refine (C3.out Br _ M2.out.r).mono ?_
 rintro e w4 ⟨rfl,hr,hm⟩
 have M3:=Lib.hid (M2.out.one hr hm)
 clear hr hm M2 C3
 go_wp2_with fail
 refine (C4.out Br _ M3.out.r).mono ?_
 rintro e w5 ⟨rfl,rfl⟩
 go_wp2_with fail
 refine (C5.out _ M3.out.b).mono ?_
 rintro e w6 ⟨rfl,hb⟩
 have M4:=Lib.hid (M3.out.ext hb)
 clear hb M3 C5 C4
 go_wp2_with fail
 refine (C6.out w6).mono ?_
 rintro e w7 ⟨a,c,rfl,hst,hb,had⟩
 have M5:=Lib.hid (M4.out.ext hb)
 have HST:=Lib.hid hst
 have HAD:=Lib.hid had
 have HBL:Hid (Bt < w6.heap.size∧W.heap.size≤w6.heap.size):=⟨(Array.getElem?_eq_some_iff.1 M4.out.t).1,M4.out.b.size⟩
 clear hb M4 C6 hst had
 go_upto_region 22 with fail
 have HB8:Hid (Below w7.heap.size w7 (w7.alloc (.cells #[.int .i64 m.kind,.int .i64 m.queue,.int .i64 m.due,.int .i64 m.retry,.int .i64 m.ref,.int .i64 m.born,.string (S m.topic),.string (S m.tag),.string (S m.body),.slice a m.keys.length c] 53))):=(Below.refl w7.heap.size w7).alloc (Nat.le_refl _) _
 have HW8:Hid ((w7.alloc (.cells #[.int .i64 m.kind,.int .i64 m.queue,.int .i64 m.due,.int .i64 m.retry,.int .i64 m.ref,.int .i64 m.born,.string (S m.topic),.string (S m.tag),.string (S m.body),.slice a m.keys.length c] 53)).heap[Bt]?=some (.cells (cellsM noMsg none 0) 53 (0,0))):=by
  show _=_
  rw [HB8.out.block _ (Array.getElem?_eq_some_iff.1 M5.out.t).1]; exact M5.out.t
 have HN8:Hid ((w7.alloc (.cells #[.int .i64 m.kind,.int .i64 m.queue,.int .i64 m.due,.int .i64 m.retry,.int .i64 m.ref,.int .i64 m.born,.string (S m.topic),.string (S m.tag),.string (S m.body),.slice a m.keys.length c] 53)).heap[w7.heap.size]?=some (.cells #[.int .i64 m.kind,.int .i64 m.queue,.int .i64 m.due,.int .i64 m.retry,.int .i64 m.ref,.int .i64 m.born,.string (S m.topic),.string (S m.tag),.string (S m.body),.slice a m.keys.length c] 53 (0,0))):=heap_alloc_new w7 _
 have HS8:=Lib.hid (Strs.below HST.out HB8.out)
 generalize hw8:w7.alloc (.cells #[.int .i64 m.kind,.int .i64 m.queue,.int .i64 m.due,.int .i64 m.retry,.int .i64 m.ref,.int .i64 m.born,.string (S m.topic),.string (S m.tag),.string (S m.body),.slice a m.keys.length c] 53)=w8 at *
 obtain ⟨Bn,hBn⟩:∃ B,w7.heap.size=B:=⟨_,rfl⟩
 rw [hBn] at HN8 ⊢
 have HBB:Hid (Below W.heap.size W w8):=M5.out.b.trans (HB8.out.mono M5.out.b.size)
 clear hBn hw8 M5 HST HB8
 have k0:w8.cell? ⟨Bt,0,none⟩=some (.int .i64 0):=by rw [Lib.cell_of_heap HW8.out]; rfl
 have k1:w8.cell? ⟨Bt,1,none⟩=some (.int .i64 0):=by rw [Lib.cell_of_heap HW8.out]; rfl
 have k2:w8.cell? ⟨Bt,2,none⟩=some (.int .i64 0):=by rw [Lib.cell_of_heap HW8.out]; rfl
 have k3:w8.cell? ⟨Bt,3,none⟩=some (.int .i64 0):=by rw [Lib.cell_of_heap HW8.out]; rfl
 have k4:w8.cell? ⟨Bt,4,none⟩=some (.int .i64 0):=by rw [Lib.cell_of_heap HW8.out]; rfl
 have k5:w8.cell? ⟨Bt,5,none⟩=some (.int .i64 0):=by rw [Lib.cell_of_heap HW8.out]; rfl
 have k6:w8.cell? ⟨Bt,6,none⟩=some (.string ⟨#[]⟩):=by rw [Lib.cell_of_heap HW8.out]; rfl
 have k7:w8.cell? ⟨Bt,7,none⟩=some (.string ⟨#[]⟩):=by rw [Lib.cell_of_heap HW8.out]; rfl
 have k8:w8.cell? ⟨Bt,8,none⟩=some (.string ⟨#[]⟩):=by rw [Lib.cell_of_heap HW8.out]; rfl
 have k9:w8.cell? ⟨Bt,9,none⟩=some (.slice none 0 0):=by rw [Lib.cell_of_heap HW8.out]; rfl
 have n0:w8.cell? ⟨Bn,0,none⟩=some (.int .i64 m.kind):=by rw [Lib.cell_of_heap HN8.out]; rfl
 have n1:w8.cell? ⟨Bn,1,none⟩=some (.int .i64 m.queue):=by rw [Lib.cell_of_heap HN8.out]; rfl
 have n2:w8.cell? ⟨Bn,2,none⟩=some (.int .i64 m.due):=by rw [Lib.cell_of_heap HN8.out]; rfl
 have n3:w8.cell? ⟨Bn,3,none⟩=some (.int .i64 m.retry):=by rw [Lib.cell_of_heap HN8.out]; rfl
 have n4:w8.cell? ⟨Bn,4,none⟩=some (.int .i64 m.ref):=by rw [Lib.cell_of_heap HN8.out]; rfl
 have n5:w8.cell? ⟨Bn,5,none⟩=some (.int .i64 m.born):=by rw [Lib.cell_of_heap HN8.out]; rfl
 have n6:w8.cell? ⟨Bn,6,none⟩=some (.string (S m.topic)):=by rw [Lib.cell_of_heap HN8.out]; rfl
 have n7:w8.cell? ⟨Bn,7,none⟩=some (.string (S m.tag)):=by rw [Lib.cell_of_heap HN8.out]; rfl
 have n8:w8.cell? ⟨Bn,8,none⟩=some (.string (S m.body)):=by rw [Lib.cell_of_heap HN8.out]; rfl
 have n9:w8.cell? ⟨Bn,9,none⟩=some (.slice a m.keys.length c):=by rw [Lib.cell_of_heap HN8.out]; rfl
 have hfr:∀ j,w8.frozen? ⟨Bt,j,none⟩=false:=fun j=>Lib.frozen_of_heap HW8.out j
 have HH:=Lib.hid (put10_heap (z:=cellsM noMsg none 0) rfl HW8.out (.int .i64 m.kind) (.int .i64 m.queue) (.int .i64 m.due) (.int .i64 m.retry) (.int .i64 m.ref) (.int .i64 m.born) (.string (S m.topic)) (.string (S m.tag)) (.string (S m.body)) (.slice a m.keys.length c))
 have HBW:=Lib.hid (put10_mod w8 Bt (.int .i64 m.kind) (.int .i64 m.queue) (.int .i64 m.due) (.int .i64 m.retry) (.int .i64 m.ref) (.int .i64 m.born) (.string (S m.topic)) (.string (S m.tag)) (.string (S m.body)) (.slice a m.keys.length c))
 go_wp2_with fail
 clear k0 k1 k2 k3 k4 k5 k6 k7 k8 k9 hfr n0 n1 n2 n3 n4 n5 n6 n7 n8 n9
 change bodyPost _ _ _ _ _ (put10 w8 Bt (.int .i64 m.kind) (.int .i64 m.queue) (.int .i64 m.due) (.int .i64 m.retry) (.int .i64 m.ref) (.int .i64 m.born) (.string (S m.topic)) (.string (S m.tag)) (.string (S m.body)) (.slice a m.keys.length c))
 generalize put10 w8 Bt (.int .i64 m.kind) (.int .i64 m.queue) (.int .i64 m.due) (.int .i64 m.retry) (.int .i64 m.ref) (.int .i64 m.born) (.string (S m.topic)) (.string (S m.tag)) (.string (S m.body)) (.slice a m.keys.length c)=w9 at *
 have hz9:=HH.out
 have c0:w9.cell? ⟨Bt,0,none⟩=some (.int .i64 m.kind):=by rw [Lib.cell_of_heap hz9]; rfl
 have c1:w9.cell? ⟨Bt,1,none⟩=some (.int .i64 m.queue):=by rw [Lib.cell_of_heap hz9]; rfl
 have c2:w9.cell? ⟨Bt,2,none⟩=some (.int .i64 m.due):=by rw [Lib.cell_of_heap hz9]; rfl
 have c3:w9.cell? ⟨Bt,3,none⟩=some (.int .i64 m.retry):=by rw [Lib.cell_of_heap hz9]; rfl
 have c4:w9.cell? ⟨Bt,4,none⟩=some (.int .i64 m.ref):=by rw [Lib.cell_of_heap hz9]; rfl
 have c5:w9.cell? ⟨Bt,5,none⟩=some (.int .i64 m.born):=by rw [Lib.cell_of_heap hz9]; rfl
 have c6:w9.cell? ⟨Bt,6,none⟩=some (.string (S m.topic)):=by rw [Lib.cell_of_heap hz9]; rfl
 have c7:w9.cell? ⟨Bt,7,none⟩=some (.string (S m.tag)):=by rw [Lib.cell_of_heap hz9]; rfl
 have c8:w9.cell? ⟨Bt,8,none⟩=some (.string (S m.body)):=by rw [Lib.cell_of_heap hz9]; rfl
 have c9:w9.cell? ⟨Bt,9,none⟩=some (.slice a m.keys.length c):=by rw [Lib.cell_of_heap hz9]; rfl
 have hbb:Below W.heap.size W w9:=HBB.out.trans (HBW.out.to_below _ HBB.out.size (fun k e=>by rw [e,← HBT.out]; exact Nat.le_refl _))
 refine bodyPost_ret (v:=.tuple #[.agg #[.int .i64 m.kind,.int .i64 m.queue,.int .i64 m.due,.int .i64 m.retry,.int .i64 m.ref,.int .i64 m.born,.string (S m.topic),.string (S m.tag),.string (S m.body),.slice a m.keys.length c],.int .i64 (n:Int),.int .i64 0]) ?_ rfl ⟨a,c,rfl,?_,hbb,fun ad e=>by have h1:=HAD.out ad e; have h2:=HBL.out; omega⟩
 · clear hz9
   simp [results,Tryz.results130,go_sem,c0,c1,c2,c3,c4,c5,c6,c7,c8,c9]
 · exact strs_over HS8.out HBW.out (fun ad e _=>by have h1:=HAD.out ad e; have h2:=HBL.out; omega)
end Go.Proofs.YtnoehodmmkioaaaGreatDoor.RecW
