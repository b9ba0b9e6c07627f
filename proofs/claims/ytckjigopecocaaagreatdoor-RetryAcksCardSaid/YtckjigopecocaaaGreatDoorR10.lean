/- disk: a file gets another name, where no write waits. And what follows. -/
import Derived.Test.YtckjigopecocaaaGreatDoorR09
import Derived.ArgAppend
import Derived.Lib.SliceRun
import Derived.Below
set_option linter.unusedVariables false
set_option linter.unusedSimpArgs false
set_option maxHeartbeats 25600000
set_option maxRecDepth 100000
namespace Go.Proofs.YtckjigopecocaaaGreatDoor
namespace DskW
open Go.RowKit Go.MapKept OctMath MapG SegW
theorem ahx {D:DiskD} (hq:Quiet D) {n:List UInt8} {f:FileD} (hn:(D.files.map (·.1)).Nodup) (hf:(n,f)∈D.files):D.bars [n]=0:=by
 unfold DiskD.bars;rw [hq.up];simp [ow hn hf]
def DiskD.moved (D:DiskD) (n t:List UInt8) (f:FileD):DiskD:={ D with files:=without (without D.files t) n++[(t,f)] }
theorem zf {l:List (List UInt8×FileD)} {n:List UInt8} (h:∀ p∈l,p.1≠n):without l n=l:=List.filter_eq_self.2 λp hp=>by simpa using h p hp
theorem DiskAt.move {base:Nat} {w w':World} {D:DiskD} (h:DiskAt base w D) (J:D.waits=[]) {n t:List UInt8} {f:FileD} (hf:(n,f)∈D.files) (ht:∀ p∈D.files,p.1≠t) (hne:n≠t)
 (hp:PairsAt w' D.mB (mh (without D.files n++[(t,f)]))) (hm:Mod (λk=>k=D.mB) w w'):DiskAt base w' { D with files:=without D.files n++[(t,f)] }:=by
 have E:=ac0 D.files n
 have A:∀ p∈without D.files n++[(t,f)],∃ q∈D.files,q.2=p.2:=λp hp=>by
  rcases List.mem_append.1 hp with h1 | h1
  . exact ⟨p,(cu.1 h1).1,rfl⟩
  . rw [List.mem_singleton.1 h1]; exact ⟨_,hf,rfl⟩
 refine ⟨?_,hp,λp hp=>?_,?_,?_,?_,⟨h.apart.1,λp hp=>?_,λk hk=>⟨(h.apart.2.2 k hk).1,(h.apart.2.2 k hk).2.1,λp hp=>?_⟩⟩,⟨h.above.1,h.above.2.1,λp hp=>?_⟩,h.ints,?_,λx N=>by rw [show D.waits=[] from J] at N; cases N⟩
 . exact (hm.block _ (h.lt (.inl rfl)) h.apart.1).trans h.head
 . obtain ⟨q,B,e⟩:=A p hp
   rw [<- e];exact (hm.block _ (h.lt (.inr (.inr (.inl ⟨q,B,rfl⟩)))) (h.apart.2.1 q B).2).trans (h.file q B)
 . exact SegW.ownsRow_mod h.row hm λk hk e=>(h.apart.2.2 k hk).2.1 e
 ·
  show ((without D.files n++[(t,f)]).map (·.1)).Nodup;rw [List.map_append,List.nodup_append];refine ⟨h.names.sublist (E.map _),by simp,λa M b hb=>?_⟩;obtain ⟨p,hp,rfl⟩:=List.mem_map.1 M;rw [List.map_singleton,List.mem_singleton] at hb;rw [hb];exact ht p (cu.1 hp).1
 ·
  show ((without D.files n++[(t,f)]).map (·.2.blk)).Nodup;rw [List.map_append,List.nodup_append];refine ⟨h.blocks.sublist (E.map _),by simp,λa M b hb=>?_⟩;obtain ⟨p,hp,rfl⟩:=List.mem_map.1 M;rw [List.map_singleton,List.mem_singleton] at hb;rw [hb];obtain ⟨h1,F⟩:=cu.1 hp;obtain ⟨l1,l2,I⟩:=List.append_of_mem hf;have hb:=h.blocks;rw [I,List.map_append,List.map_cons,List.nodup_append] at hb;have J:=xc h.names I;rw [J] at hp
  rcases List.mem_append.1 hp with h3 | h3
  . exact hb.2.2 _ (List.mem_map.2 ⟨p,h3,rfl⟩) _ (.head _)
  . exact λe=>(List.nodup_cons.1 hb.2.1).1 (e ▸ List.mem_map.2 ⟨p,h3,rfl⟩)
 . obtain ⟨q,B,e⟩:=A p hp
   rw [<- e]; exact h.apart.2.1 q B
 . obtain ⟨q,B,e⟩:=A p hp
   rw [<- e]; exact (h.apart.2.2 k hk).2.2 q B
 . obtain ⟨q,B,e⟩:=A p hp
   rw [<- e]; exact h.above.2.2 q B
 ·
  obtain ⟨l1,l2,I⟩:=List.append_of_mem hf;have F:=h.fits;unfold DiskD.size at F ⊢;show ((gp (without D.files n++[(t,f)]):Nat):Int)<=D.cap;rw [xc h.names I];rw [I] at F;unfold gp at F ⊢;simp only [List.map_append,List.map_cons,List.sum_append,List.sum_cons,List.map_nil,List.sum_nil] at F ⊢;omega
theorem ao3 {base:Nat} {D:DiskD} (n t:List UInt8) (f:FileD) (w:World) (h:DiskAt base w D) (hq:Quiet D) (hw:D.waits=[]) (hne:n≠t) (hf:(n,f)∈D.files) :
 Calls Tryz.prog 105 #[.pointer (some ⟨D.blk,0,none⟩),.string (S n),.string (S t)] w λe w'=>e=.returned (.int .i64 0)/\DiskAt base w' (D.moved n t f)/\Mod D.foot w w':=by
 have am:Zq (Below w.heap.size w (w.alloc (.cells #[.string (S n)] 9))):=(Below.refl _ w).alloc (Nat.le_refl _) _;have ba:Zq (Row1 (w.alloc (.cells #[.string (S n)] 9)) (some ⟨w.heap.size,0,none⟩) ([n].map λx=>Value.string (S x))):=row_one _ _ _;have an:=zq (h.below am.o);have ak:=zq (bars_any (some ⟨w.heap.size,0,none⟩) 1 [n] (by simp) _ an.o ba.o);rw [ahx hq h.names hf] at ak;rw [show ([n]:List (List UInt8)).length=1 from rfl] at ak;have ao:=zq (abp _ an.o);rw [hq.burn,hq.done] at ao;have b1:Zq (D.moved n t f={ D with files:=without (without D.files t) n++[(t,f)] }):=rfl;have bb:(S n).toList≠(S t).toList:=by rw [S_toList,S_toList]; exact hne
 have b2:((S n).toList == (S t).toList)=false:=beq_eq_false_iff_ne.2 bb;have HQ:=zq hq;have HW:=zq hw;have B:=zq hne;have HF:=zq hf;have b3:=zq h.names;clear h hq hw hne hf bb ba;go_enter Tryz.func105,Tryz.ntmps105;go_wp2_with fail;refine ak.o.mono ?_;rintro e w1 ⟨rfl,he⟩;obtain rfl:=he;go_wp2_with fail;refine ao.o.mono ?_;rintro e w2 ⟨rfl,al,bc⟩;have ap:=zq al;have bd:Zq (Mod D.foot w w2):=(Mod.of_below am.o).trans (bc.mono λk _ hk=>.inl hk);have c1:w2.cell? ⟨D.blk,2,none⟩=some (.map (some D.mB)):=al.cell 2 _ rfl;have M:=kr al t;clear al bc ao ak an am
 cases hft:D.find t with
 | none =>
   rw [hft] at M;unfold uk at M;simp only [Option.map_none] at M;have e0:without D.files t=D.files:=zf (xy hft)
   have U:Zq (DiskAt base w2 { D with files:=without D.files t }):=by
    show DiskAt _ _ _;rw [e0]; exact ap.o
   have ar:=zq bd.o;clear hft e0;go_wp2_with fail;have A:=U.o.below ((Below.refl _ w2).drew);have d2:w2.cell? ⟨D.blk,2,none⟩=some (.map (some D.mB)):=U.o.cell 2 _ rfl;have N:=kr A n;rw [ow A.names (cu.2 ⟨HF.o,B.o⟩:(n,f)∈without D.files t)] at N;unfold uk at N;simp only [Option.map_some] at N
   obtain ⟨X,F,Y,E⟩:=ut Tryz.underlying64 aeh A.pairs (ahv _) (k:=.string (S t)) trivial (λp hp e=>by
    obtain ⟨q,hq,rfl⟩:=List.mem_map.1 hp;exact (cu.1 hq).2 (S_inj (by cases e; rfl))) (.pointer (some ⟨f.blk,0,none⟩))
   replace F:(Instr.mapUpdate 64 (.map (some D.mB)) (.string (S t)) (.pointer (some ⟨f.blk,0,none⟩))).run Tryz.prog w2.drew=.ok () X:=F
   have d5:X.cell? ⟨D.blk,2,none⟩=some (.map (some D.mB)):=by
    rw [E.cell (p:=⟨D.blk,2,none⟩) (A.lt (.inl rfl)) A.apart.1];exact A.cell 2 _ rfl
   have e5:mh (without D.files t)++[(.string (S t),.pointer (some ⟨f.blk,0,none⟩))]=mh (without D.files t++[(t,f)]):=by simp [mh]
   have I:PairsAt X D.mB (mh (without D.files t++[(t,f)])):=by rw [<- e5]; exact Y
   obtain ⟨l1,l2,hl,Z⟩:=xe (l:=without D.files t++[(t,f)]) (n:=n) (f:=f) (by
    rw [List.map_append,List.nodup_append];refine ⟨A.names,by simp,λa ha b hb=>?_⟩;obtain ⟨p,hp,rfl⟩:=List.mem_map.1 ha;rw [List.map_singleton,List.mem_singleton] at hb;rw [hb];exact (cu.1 hp).2) (List.mem_append_left _ (cu.2 ⟨HF.o,B.o⟩))
   have ab:∃ J,(∀ ty,(Builtin.delete_ #[64,9] ty #[.map (some D.mB),.string (S n)]).run Tryz.prog X=.ok (.tuple #[]) J)/\PairsAt J D.mB (l1++l2)/\Mod (λx=>x=D.mB) X J:=by
    obtain ⟨J,h1,h2,h3⟩:=abd (ty:=0) Tryz.underlying64 aeh I (ahv _) (k:=.string (S n)) trivial hl;exact ⟨J,λty=>h1,h2,h3⟩
   obtain ⟨J,av,O,R⟩:=ab
   have e6:without (without D.files t++[(t,f)]) n=without (without D.files t) n++[(t,f)]:=by
    unfold without;rw [List.filter_append];congr 1;simp [Ne.symm B.o]
   rw [<- Z,e6] at O
   have a1:Zq (DiskAt base J (D.moved n t f)):=by
    have:=A.move HW.o (cu.2 ⟨HF.o,B.o⟩) (λp hp=>(cu.1 hp).2) B.o O (E.trans R);exact this
   have a6:Zq (Mod D.foot w J):=(ar.o.drew.trans (E.mono λk _ hk=>.inr (.inl hk))).trans (R.mono λk _ hk=>.inr (.inl hk));clear A Y I E O R hl Z e5 e6;go_wp2_with fail;go_region;go_wp2_with fail;go_ret;exact ⟨rfl,a1.o,a6.o⟩
 | some g =>
   have HG:=zq (nz hft);rw [hft] at M;unfold uk at M;simp only [Option.map_some] at M;have a7:Zq (Below w2.heap.size w2 (w2.alloc (.cells #[.string (S t)] 9))):=(Below.refl _ w2).alloc (Nat.le_refl _) _
   have bl:=zq (ass (some ⟨w2.heap.size,0,none⟩) 1 t g _ (ap.o.below a7.o) HW.o HG.o (row_one _ _ _) (λad e bz=>by
    cases e
    have:=ap.o.lt bz;exact absurd this (Nat.lt_irrefl _)))
   clear hft;go_wp2_with fail;refine bl.o.mono ?_;rintro e w3 ⟨rfl,bm,bo⟩;have U:Zq (DiskAt base w3 { D with files:=without D.files t }):=bm;have ar:Zq (Mod D.foot w w3):=(bd.o.trans (Mod.of_below a7.o)).trans bo;clear bm bo bl a7 M c1;have A:=U.o.below ((Below.refl _ w3).drew);have d2:w3.cell? ⟨D.blk,2,none⟩=some (.map (some D.mB)):=U.o.cell 2 _ rfl;have N:=kr A n;rw [ow A.names (cu.2 ⟨HF.o,B.o⟩:(n,f)∈without D.files t)] at N;unfold uk at N;simp only [Option.map_some] at N
   obtain ⟨X,F,Y,E⟩:=ut Tryz.underlying64 aeh A.pairs (ahv _) (k:=.string (S t)) trivial (λp hp e=>by
    obtain ⟨q,hq,rfl⟩:=List.mem_map.1 hp;exact (cu.1 hq).2 (S_inj (by cases e; rfl))) (.pointer (some ⟨f.blk,0,none⟩))
   replace F:(Instr.mapUpdate 64 (.map (some D.mB)) (.string (S t)) (.pointer (some ⟨f.blk,0,none⟩))).run Tryz.prog w3.drew=.ok () X:=F
   have d5:X.cell? ⟨D.blk,2,none⟩=some (.map (some D.mB)):=by
    rw [E.cell (p:=⟨D.blk,2,none⟩) (A.lt (.inl rfl)) A.apart.1];exact A.cell 2 _ rfl
   have e5:mh (without D.files t)++[(.string (S t),.pointer (some ⟨f.blk,0,none⟩))]=mh (without D.files t++[(t,f)]):=by simp [mh]
   have I:PairsAt X D.mB (mh (without D.files t++[(t,f)])):=by rw [<- e5]; exact Y
   obtain ⟨l1,l2,hl,Z⟩:=xe (l:=without D.files t++[(t,f)]) (n:=n) (f:=f) (by
    rw [List.map_append,List.nodup_append];refine ⟨A.names,by simp,λa ha b hb=>?_⟩;obtain ⟨p,hp,rfl⟩:=List.mem_map.1 ha;rw [List.map_singleton,List.mem_singleton] at hb;rw [hb];exact (cu.1 hp).2) (List.mem_append_left _ (cu.2 ⟨HF.o,B.o⟩))
   have ab:∃ J,(∀ ty,(Builtin.delete_ #[64,9] ty #[.map (some D.mB),.string (S n)]).run Tryz.prog X=.ok (.tuple #[]) J)/\PairsAt J D.mB (l1++l2)/\Mod (λx=>x=D.mB) X J:=by
    obtain ⟨J,h1,h2,h3⟩:=abd (ty:=0) Tryz.underlying64 aeh I (ahv _) (k:=.string (S n)) trivial hl;exact ⟨J,λty=>h1,h2,h3⟩
   obtain ⟨J,av,O,R⟩:=ab
   have e6:without (without D.files t++[(t,f)]) n=without (without D.files t) n++[(t,f)]:=by
    unfold without;rw [List.filter_append];congr 1;simp [Ne.symm B.o]
   rw [<- Z,e6] at O
   have a1:Zq (DiskAt base J (D.moved n t f)):=by
    have:=A.move HW.o (cu.2 ⟨HF.o,B.o⟩) (λp hp=>(cu.1 hp).2) B.o O (E.trans R);exact this
   have a6:Zq (Mod D.foot w J):=(ar.o.drew.trans (E.mono λk _ hk=>.inr (.inl hk))).trans (R.mono λk _ hk=>.inr (.inl hk));clear A Y I E O R hl Z e5 e6;go_wp2_with fail;go_region;go_wp2_with fail;go_ret;exact ⟨rfl,a1.o,a6.o⟩
end DskW
namespace TopW
open Go.RowKit Go.MapKept OctMath DskW SegW
theorem ajy {l:List (List UInt8×FileD)} {n t:List UInt8} {b:Nat} {i u:List UInt8} (h:∀ p∈l,p.1≠n):fe (l++[(n,⟨b,i,u⟩)]) n t=l++[(n,⟨b,i,t⟩)]:=by
 unfold fe;rw [List.map_append];congr 1
 . have:∀ p∈l,(λp:List UInt8×FileD=>if p.1=n then (p.1,{ p.2 with now:=t }) else p) p=p:=λp hp=>if_neg (h p hp)
   exact (List.map_congr_left this).trans (List.map_id _)
 . simp
theorem amt {D:DiskD} {l:List (List UInt8×FileD)} {n i u:List UInt8} {b:Nat} {wv:Value} {ws:List WriteD} (hf:D.files=l++[(n,⟨b,i,u⟩)]) (hw:D.waits=ws) (hb:∀ x∈ws,x.blk=b) (h:∀ p∈l,p.1≠n) :
 D.lasts [n] wv={ D with files:=l++[(n,⟨b,u,u⟩)],wv:=wv,waits:=[] }:=by
 unfold DiskD.lasts
 have B:D.files.map (λp=>if p.1∈[n] then (p.1,{ p.2 with img:=p.2.now }) else p)=l++[(n,⟨b,u,u⟩)]:=by
  rw [hf,List.map_append];congr 1
  . have:∀ p∈l,(λp:List UInt8×FileD=>if p.1∈[n] then (p.1,{ p.2 with img:=p.2.now }) else p) p=p:=λp hp=>if_neg (by simpa using h p hp)
    exact (List.map_congr_left this).trans (List.map_id _)
  . simp
 have E:D.waits.filter (λx=>!D.files.any (λp=>decide (p.1∈[n]) && decide (x.blk=p.2.blk)))=[]:=by
  rw [List.filter_eq_nil_iff];intro x A;rw [hw] at A;have:=hb x A;rw [hf];simp [this]
 rw [B,E]
theorem ast {base:Nat} {D:DiskD} (n t:List UInt8) (w:World) (h:DiskAt base w D) (hq:Quiet D) (hw:D.waits=[]) (hn:D.find n=none) (ht:t≠[]) (htl:t.length<=1048576) (hr:(t.length:Int)<=D.room) (hbase:base<=w.heap.size) :
 Calls Tryz.prog 102 #[.pointer (some ⟨D.blk,0,none⟩),.string (S n),.string (S t)] w λe w'=>e=.returned (.int .i64 0)/\∃ b wv,DiskAt base w' { D with files:=D.files++[(n,⟨b,t,t⟩)],wv:=wv }/\Mod D.foot w w'/\w.heap.size<=b/\∀ k,wv.ownBlock=some k->D.wv.ownBlock=some k\/w.heap.size<=k:=by
 have M:=zq (yw n w h hbase);rw [hq.createE hn] at M;have Z:=zq hq;have HW:=zq hw;have HN:=zq hn;have ab:Zq (∀ p∈D.files,p.1≠n):=xy hn;have HT:=zq ht;have HR:=zq hr;have HB:=zq hbase;clear h hq hw hn ht hr hbase;go_enter Tryz.func102,Tryz.ntmps102;go_wp2_with fail;refine M.o.mono ?_;rintro e w1 ⟨b,hb,rfl,F,N⟩;rw [Z.o.create HN.o] at F;have ac:(n,(⟨b,[],[]⟩:FileD))∈D.files++[(n,⟨b,[],[]⟩)]:=by simp
 have O:=Quiet.write (D:={ D with files:=D.files++[(n,⟨b,[],[]⟩)] }) ⟨Z.o.left,Z.o.up⟩ F.names (n:=n) (f:=⟨b,[],[]⟩) (ow F.names ac) (o:=0) rfl HT.o (by
  show (t.length:Int)<=D.cap - ((gp (D.files++[(n,⟨b,[],[]⟩)]):Nat):Int);have h1:=HR.o;have h2:gp (D.files++[(n,(⟨b,[],[]⟩:FileD))])=gp D.files:=by unfold gp; simp
  rw [h2]; exact h1)
 have R:=zq (aaq n 0 (by omega) t (by omega) (by show D.waits.length<=_; rw [HW.o]; decide) w1 F (Nat.le_trans HB.o N.size));rw [(O D.wv).1] at R
 have ak:Zq (∀ wv,DiskD.write { D with files:=D.files++[(n,⟨b,[],[]⟩)] } n 0 t wv={ D with files:=D.files++[(n,⟨b,[],t⟩)],wv:=wv,waits:=[⟨b,0,t⟩] }):=λwv=>by
  rw [(O wv).2];show ({ D with files:=fe (D.files++[(n,⟨b,[],[]⟩)]) n ([]++t),wv:=wv,waits:=D.waits++[⟨b,0,t⟩] }:DiskD)=_;rw [HW.o,List.nil_append,List.nil_append,ajy ab.o]
 have al:=zq N;have U:=zq hb;clear F N ac O M hb;go_wp2_with fail;refine R.o.mono ?_;rintro e w2 ⟨wv,rfl,A,am,X⟩;rw [ak.o] at A X
 have a6:Zq (Mod (λk=>D.foot k\/w.heap.size<=k) w w2):=(al.o.mono λk _ h=>.inl h).trans (am.mono λk _ h=>by
  rcases h with h | h | ⟨p,hp,h⟩ | h
  . exact .inl (.inl h)
  . exact .inl (.inr (.inl h))
  ·
   rcases List.mem_append.1 hp with h3 | h3
   . exact .inl (.inr (.inr (.inl ⟨p,h3,h⟩)))
   . rw [List.mem_singleton.1 h3] at h
     have h:k=b:=h;exact .inr (by have:=U.o; omega)
  . exact .inl (.inr (.inr (.inr h))))
 have I:∀ k,wv.ownBlock=some k->D.wv.ownBlock=some k\/w.heap.size<=k:=λk hk=>by
  rcases X k (.inr (.inr (.inr hk))) with h | h
  ·
   rcases h with h | h | ⟨p,hp,h⟩ | h
   . exact absurd h (A.apart.2.2 k hk).1
   . exact absurd h (A.apart.2.2 k hk).2.1
   . rcases List.mem_append.1 hp with h3 | h3
     . exact absurd h ((A.apart.2.2 k hk).2.2 p (List.mem_append_left _ h3))
     . rw [List.mem_singleton.1 h3] at h
       exact absurd h ((A.apart.2.2 k hk).2.2 (n,⟨b,[],t⟩) (by simp))
   . exact .inl h
  . exact .inr (by have:=al.o.size; omega)
 have J:=zq I;have an:Zq (Below w2.heap.size w2 (w2.alloc (.cells #[.string (S n)] 9))):=(Below.refl _ w2).alloc (Nat.le_refl _) _;have ao:=A.below an.o
 have ap:=zq (sync_any (some ⟨w2.heap.size,0,none⟩) 1 [n] (by simp) _ ao (row_one _ _ _) (λad e a7=>by
  cases e
  exact absurd (A.lt a7) (Nat.lt_irrefl _)) (by show (1:Nat)<=1048576; omega))
 have Y:Quiet ({ D with files:=D.files++[(n,⟨b,[],t⟩)],wv:=wv,waits:=[⟨b,0,t⟩] }:DiskD):=⟨Z.o.left,Z.o.up⟩;have B:DiskD.bars { D with files:=D.files++[(n,⟨b,[],t⟩)],wv:=wv,waits:=[⟨b,0,t⟩] } [n]=0:=ahx Y A.names (f:=⟨b,[],t⟩) (by simp)
 have ar:DiskD.syncE { D with files:=D.files++[(n,⟨b,[],t⟩)],wv:=wv,waits:=[⟨b,0,t⟩] } [n]=0:=by
  unfold DiskD.syncE;rw [if_pos B];exact Y.done
 rw [ar,show ([n]:List (List UInt8)).length=1 from rfl] at ap
 have a8:Zq (∀ E,DiskD.sync { D with files:=D.files++[(n,⟨b,[],t⟩)],wv:=wv,waits:=[⟨b,0,t⟩] } [n] E={ D with files:=D.files++[(n,⟨b,t,t⟩)],wv:=E }):=λE=>by
  unfold DiskD.sync;rw [if_pos B,if_neg (by show ¬ D.left=0; rw [Z.o.left]; decide),Y.burn,amt (l:=D.files) (b:=b) (i:=[]) (u:=t) (ws:=[⟨b,0,t⟩]) rfl rfl (λx hx=>by rw [List.mem_singleton.1 hx]) ab.o];show ({ D with files:=D.files++[(n,⟨b,t,t⟩)],wv:=E,waits:=[] }:DiskD)={ D with files:=D.files++[(n,⟨b,t,t⟩)],wv:=E };rw [<- HW.o]
 clear A am X I ao B ar R ak;go_wp2_with fail;refine ap.o.mono ?_;rintro e w3 ⟨E,rfl,ba,av,bb⟩;rw [a8.o] at av;go_wp2_with fail;go_ret
 have bc:Mod (λk=>D.foot k\/w.heap.size<=k) w w3:=(a6.o.trans (Mod.of_below an.o)).trans (bb.mono λk _ h=>by
  rcases h with h | h | ⟨p,hp,h⟩ | h
  . exact .inl (.inl h)
  . exact .inl (.inr (.inl h))
  ·
   rcases List.mem_append.1 hp with h3 | h3
   . exact .inl (.inr (.inr (.inl ⟨p,h3,h⟩)))
   . rw [List.mem_singleton.1 h3] at h
     have h:k=b:=h;exact .inr (by have:=U.o; omega)
  . exact (J.o k h).imp (λh=>.inr (.inr (.inr h))) λh=>h)
 exact ⟨rfl,b,E,av,bc.mono λk hk h=>h.elim (λh=>h) λh=>by omega,U.o,λk hk=>J.o k (by rw [<- ba]; exact hk)⟩
open CacheW
theorem ahy (a:Option Addr) (cp:Nat) (v:Value) (w:World):Calls Tryz.prog 169 #[.slice a 0 cp,v] w λe w'=>e=.returned (.int .i64 (-1))/\w'=w:=by
 go_enter Tryz.func169,Tryz.ntmps169;go_wp2_with fail;go_loopw [8] (λi wr=>i=.int .i64 0/\wr=w) (λi _=>0)
 case atStart=>exact ⟨rfl,rfl⟩
 case round =>
  obtain ⟨rfl,rfl⟩:=hrel;go_wp2_with fail;go_ret;exact ⟨rfl,rfl⟩
theorem aey (a:Option Addr) (cp:Nat) (v:Value) (w:World):Calls Tryz.prog 99 #[.slice a 0 cp,v] w λe w'=>e=.returned (.bool false)/\w'=w:=by
 go_enter Tryz.func99,Tryz.ntmps99;go_wp2_with fail;refine (ahy a cp v w).mono ?_;rintro e w2 ⟨rfl,A⟩;obtain rfl:=A.symm;go_wp2_with fail;go_ret;exact ⟨rfl,rfl⟩
def xg (n:List UInt8):List UInt8:=n++[46,110,101,119]
def DiskD.saved (D:DiskD) (n:List UInt8) (b:Nat) (t:List UInt8) (wv:Value):DiskD:={ D with files:=without D.files n++[(n,⟨b,t,t⟩)],wv:=wv }
theorem ac1 (l m:List (List UInt8×FileD)) (n:List UInt8):without (l++m) n=without l n++without m n:=List.filter_append ..
theorem new_ne (n:List UInt8):xg n≠n:=λe=>by
 have:=congrArg List.length e;simp [xg] at this
theorem aq8 {t:List UInt8}:(⟨(CrcMath.ai (S t).data.toList).toArray⟩:ByteArray)=S (CrcMath.ai t):=by
 rw [kg]; rfl
theorem asu {base:Nat} {D:DiskD} (n t:List UInt8) (w:World) (h:DiskAt base w D) (hq:Quiet D) (hw:D.waits=[]) (hno:∀ x∈D.files.map (·.1),Lib.hasPrefix x (xg n)=false) (hfl:D.files.length<=1048576) (hnl:∀ p∈D.files,p.1.length<=maxLen) (hn16:n.length<=1000) (htl:t.length<=100000) (hr:((CrcMath.ai t).length:Int)<=D.room) (hbase:base<=w.heap.size) :
 Calls Tryz.prog 42 #[.pointer (some ⟨D.blk,0,none⟩),.string (S n),.string (S t)] w λe w'=>e=.returned (.int .i64 0)/\∃ b wv,DiskAt base w' (DiskD.saved D n b (CrcMath.ai t) wv)/\Mod D.foot w w'/\w.heap.size<=b/\∀ k,wv.ownBlock=some k->D.wv.ownBlock=some k\/w.heap.size<=k:=by
 have U:=zq (age (xg n) w h hfl hnl hno)
 have A:D.find (xg n)=none:=CacheW.yc.2 λhm=>by
  have h1:=hno _ hm;have h2:Lib.hasPrefix (xg n) (xg n)=true:=by unfold Lib.hasPrefix; simp
  rw [h2] at h1; cases h1
 have HD:=zq h;have HQ:=zq hq;have HW:=zq hw;have X:=zq A;have HR:=zq hr;have HB:=zq hbase;have Y:=zq (new_ne n)
 have av:Zq (S n++⟨#[46,110,101,119]⟩=S (xg n)):=by
  show S n++S [46,110,101,119]=_;rw [gu]; rfl
 have bm:=au n;clear h hq hw A hr hbase hno hnl;go_enter Tryz.func42,Tryz.ntmps42;go_wp2_with fail;rw [av.o];refine U.o.mono ?_;rintro e w1 ⟨⟨a,c,rfl⟩,Z⟩;have M:=zq Z;clear Z U;go_wp2_with fail;refine (aey a c _ w1).mono ?_;rintro e w2 ⟨rfl,he⟩;obtain rfl:=he.symm;go_wp2_with fail;refine (CrcW.new_any w1).mono ?_;rintro e w3 ⟨B,rfl,I⟩;have O:Zq (Below w.heap.size w w3):=M.o.trans (I.below.mono M.o.size);have R:=zq (CrcW.ag9 B (S t) (by rw [au]; omega) w3 I.size I.tabs);rw [aq8] at R;clear I M;go_wp2_with fail;refine R.o.mono ?_;rintro e w4 ⟨rfl,ab⟩;have E:Zq (Below w.heap.size w w4):=O.o.trans (ab.mono O.o.size)
 have ac:CrcMath.ai t≠[]:=λe=>by
  have:=CrcMath.ji t;rw [e] at this;simp at this;omega
 have ad:=zq (ast (xg n) (CrcMath.ai t) w4 (HD.o.below E.o) HQ.o HW.o X.o ac (by rw [CrcMath.ji]; omega) HR.o (Nat.le_trans HB.o E.o.size));clear ab R O ac;go_wp2_with fail;refine ad.o.mono ?_;rintro e w5 ⟨rfl,b,wv,ak,al,am,J⟩;have F:=ao3 (xg n) n ⟨b,CrcMath.ai t,CrcMath.ai t⟩ w5 ak ⟨HQ.o.left,HQ.o.up⟩ HW.o Y.o (by simp);have a1:Zq (Mod D.foot w w5):=(Mod.of_below E.o).trans al;have an:Zq (w.heap.size<=b):=Nat.le_trans E.o.size am;have ao:Zq (∀ k,wv.ownBlock=some k->D.wv.ownBlock=some k\/w.heap.size<=k):=λk hk=>(J k hk).imp (λh=>h) λh=>Nat.le_trans E.o.size h
 have ap:Zq (DiskD.moved { D with files:=D.files++[(xg n,⟨b,CrcMath.ai t,CrcMath.ai t⟩)],wv:=wv } (xg n) n ⟨b,CrcMath.ai t,CrcMath.ai t⟩=DiskD.saved D n b (CrcMath.ai t) wv):=by
  show ({ D with files:=without (without (D.files++[(xg n,_)]) n) (xg n)++[(n,_)],wv:=wv }:DiskD)=_;have e1:without [(xg n,(⟨b,CrcMath.ai t,CrcMath.ai t⟩:FileD))] n=[(xg n,⟨b,CrcMath.ai t,CrcMath.ai t⟩)]:=zf λp hp=>by rw [List.mem_singleton.1 hp]; exact Y.o
  have e2:without (without D.files n) (xg n)=without D.files n:=zf λp hp=>xy X.o p (cu.1 hp).1
  have e3:without [(xg n,(⟨b,CrcMath.ai t,CrcMath.ai t⟩:FileD))] (xg n)=[]:=by simp [without]
  rw [ac1,e1,ac1,e2,e3,List.append_nil];rfl
 rw [ap.o] at F;have a6:=zq F
 have a7:Zq (∀ k,DiskD.foot { D with files:=D.files++[(xg n,⟨b,CrcMath.ai t,CrcMath.ai t⟩)],wv:=wv } k->D.foot k\/w.heap.size<=k):=λk hk=>by
  rcases hk with h | h | ⟨p,hp,h⟩ | h
  . exact .inl (.inl h)
  . exact .inl (.inr (.inl h))
  ·
   rcases List.mem_append.1 hp with h3 | h3
   . exact .inl (.inr (.inr (.inl ⟨p,h3,h⟩)))
   . rw [List.mem_singleton.1 h3] at h
     have h:k=b:=h;exact .inr (by have:=an.o; omega)
  . exact (ao.o k h).imp (λh=>.inr (.inr (.inr h))) λh=>h
 clear ak al am J F ad ap;go_wp2_with fail;refine a6.o.mono ?_;rintro e w6 ⟨rfl,a8,ba⟩;go_wp2_with fail;go_ret;exact ⟨rfl,b,wv,a8,((a1.o.mono (N:=λk=>D.foot k\/w.heap.size<=k) λk _ h=>.inl h).trans (ba.mono λk _ h=>a7.o k h)).mono λk hk h=>h.elim (λh=>h) λh=>by omega,an.o,ao.o⟩
end TopW
namespace StoW
open Go.RowKit Go.MapKept OctMath RecMath RecW TapeMath DskW SegW MapG TapeW PendW CacheW CqW TopW
theorem abe {D:DiskD} {n t:List UInt8} {b:Nat} {wv:Value} (m:List UInt8) (h:m≠n):(DiskD.saved D n b t wv).find m=D.find m:=by
 unfold DiskD.saved DiskD.find DskW.without;dsimp only;rw [List.find?_append]
 have h1:([(n,(⟨b,t,t⟩:FileD))].find? λp=>p.1 == m)=none:=List.find?_eq_none.2 λp hp=>by
  rw [List.mem_singleton.1 hp]
  simpa using λe=>h e.symm
 have A:((D.files.filter λp=>!decide (p.1=n)).find? λp=>p.1 == m)=D.files.find? λp=>p.1 == m:=by
  induction D.files with
  | nil=>rfl
  | cons p l ih =>
    by_cases hp:p.1=n
    . rw [List.filter_cons_of_neg (by simp [hp]),ih,List.find?_cons_of_neg (by simpa using λe=>h (e.symm.trans hp))]
    . rw [List.filter_cons_of_pos (by simp [hp])]
      by_cases hm:p.1=m
      . rw [List.find?_cons_of_pos (by simpa using hm),List.find?_cons_of_pos (by simpa using hm)]
      . rw [List.find?_cons_of_neg (by simpa using hm),List.find?_cons_of_neg (by simpa using hm),ih]
 rw [A,h1,Option.or_none]
theorem ahz {D:DiskD} {n t:List UInt8} {b:Nat} {wv:Value} (m:List UInt8) (h:m≠n):(DiskD.saved D n b t wv).bytes m=D.bytes m:=by
 unfold DiskD.bytes; rw [abe m h]
theorem abf {D:DiskD} {n t:List UInt8} {b B:Nat} {wv:Value} (hb:B<=b) (hv:∀ k,wv.ownBlock=some k->D.wv.ownBlock=some k\/B<=k):∀ k,(DiskD.saved D n b t wv).foot k->D.foot k\/B<=k:=λk hk=>by
 rcases hk with h | h | ⟨p,hp,h⟩ | h
 . exact .inl (.inl h)
 . exact .inl (.inr (.inl h))
 ·
  rcases List.mem_append.1 hp with h3 | h3
  . exact .inl (.inr (.inr (.inl ⟨p,(cu.1 h3).1,h⟩)))
  . rw [List.mem_singleton.1 h3] at h
    have h:k=b:=h;exact .inr (by omega)
 . exact (hv k h).imp (λh=>.inr (.inr (.inr h))) λh=>h
theorem ajz {D:DiskD} {n t:List UInt8} {b:Nat} {wv:Value}:D.room - (t.length:Int)<=(DiskD.saved D n b t wv).room:=by
 unfold DiskD.room DiskD.size DiskD.saved;dsimp only;rw [SegW.yx];have h1:=aa4 D.files n;have A:gp [(n,(⟨b,t,t⟩:FileD))]=t.length:=by simp [gp]
 omega
theorem _root_.Go.Proofs.YtckjigopecocaaaGreatDoor.TapeW.TapeAt.saved {base:Nat} {w w':World} {T:TapeD} {n t:List UInt8} {b:Nat} {wv:Value} (h:TapeAt base w T) (hn:∀ p,p<=99999999->n≠ah qf p) (hwt:T.D.waits=[])
 {M:Nat->Prop} (hd:DiskAt base w' (DiskD.saved T.D n b t wv)) (hm:Mod M w w') (hM:∀ k,M k->T.D.foot k\/¬ T.foot k) (hb:w.heap.size<=b) (hv:∀ k,wv.ownBlock=some k->T.D.wv.ownBlock=some k\/w.heap.size<=k):TapeAt base w' { T with D:=DiskD.saved T.D n b t wv }:=by
 have J:=abf (D:=T.D) (n:=n) (t:=t) hb hv;refine { h with own:=h.own.mod hm (λk hk B=>(hM k B).elim (h.away k hk).1 λA=>A (.inl hk)),away:=λk hk=>⟨λB=>?_,(h.away k hk).2⟩,whole:=?_,wait:=Waiting.none hwt }
 . rcases J k B with A | A
   . exact (h.away k hk).1 A
   . have:=h.own.lt hk; omega
 ·
  have E:=h.whole;refine ⟨E.seg.mod hm (λk hk B=>(hM k B).elim (λA=>E.ap k A hk) λA=>A (.inr (.inr hk))),hd,E.db,λk hk B=>?_,λi F=>?_,λp hp F=>?_⟩
  . rcases J k hk with A | A
    . exact E.ap k A B
    . have:=E.seg.lt B; omega
  ·
   have F:i < T.R.n:=F;have I:ah T.R.head (T.R.b+i * T.R.size)≠n:=λe=>hn (T.R.b+i * T.R.size) (by have:=E.seg.long (by omega); have:i * T.R.size<=(T.R.n - 1) * T.R.size:=Nat.mul_le_mul_right _ (by omega); omega) (by rw [<- h.head]; exact e.symm)
   show (DiskD.saved T.D n b t wv).bytes _=_/\((DiskD.saved T.D n b t wv).find _).isSome=true;rw [ahz _ I,abe _ I];exact E.ok i F
  . show (DiskD.saved T.D n b t wv).find _=none
    rw [abe _ (λe=>hn p hp (by rw [<- h.head]; exact e.symm))];exact E.only p hp F
structure TabD where
 blk:Nat
 dk:Nat
 v:Value
 l:List (List UInt8×Nat)
def TabD.foot (X:TabD) (k:Nat):Prop:=k=X.blk\/X.v.ownBlock=some k
structure TabAt (base:Nat) (w:World) (X:TabD):Prop where
 cells:w.heap[X.blk]?=some (.cells #[.pointer (some ⟨X.dk,0,none⟩),X.v] 115 (0,0))
 row:w.ownsRow base 113 2 X.v X.l.length (ja X.l)
 low:base<=X.blk
theorem TabAt.lt {base:Nat} {w:World} {X:TabD} (h:TabAt base w X) {k:Nat} (hk:X.foot k):k < w.heap.size:=by
 rcases hk with hk | hk
 . rw [hk]; exact (Array.getElem?_eq_some_iff.1 h.cells).1
 . rcases h.row.2 with ⟨e,_⟩ | ⟨g,cap,cur,e,_,hg,_⟩
   . rw [e] at hk; cases hk
   . rw [e] at hk; cases hk; exact (Array.getElem?_eq_some_iff.1 hg).1
theorem TabAt.mod {base:Nat} {w w':World} {X:TabD} {M:Nat->Prop} (h:TabAt base w X) (hm:Mod M w w') (hM:∀ k,X.foot k->¬ M k):TabAt base w' X :=
 ⟨(hm.block _ (h.lt (.inl rfl)) (hM _ (.inl rfl))).trans h.cells,SegW.ownsRow_mod h.row hm (λk hk=>hM k (.inr hk)),h.low⟩
theorem TabAt.below {base:Nat} {w w':World} {X:TabD} (h:TabAt base w X) (hb:Below w.heap.size w w'):TabAt base w' X :=
 h.mod (M:=λ_=>False) (Mod.of_below hb) (λ_ _ h=>h)
structure StoTab (base:Nat) (w:World) (S:StoD) (X:TabD):Prop where
 sto:StoAt base w S
 tab:TabAt base w X
 top:S.top=.pointer (some ⟨X.blk,0,none⟩)
 dk:X.dk=S.T.D.blk
 away:∀ k,S.foot k->¬ X.foot k
theorem StoTab.mod {base:Nat} {w w':World} {S:StoD} {X:TabD} {M:Nat->Prop} (h:StoTab base w S X) (hm:Mod M w w') (h1:∀ k,S.foot k->¬ M k) (h2:∀ k,X.foot k->¬ M k):StoTab base w' S X :=
 { h with sto:=h.sto.mod hm h1,tab:=h.tab.mod hm h2 }
theorem StoTab.below {base:Nat} {w w':World} {S:StoD} {X:TabD} (h:StoTab base w S X) (hb:Below w.heap.size w w'):StoTab base w' S X :=
 h.mod (M:=λ_=>False) (Mod.of_below hb) (λ_ _ h=>h) (λ_ _ h=>h)
def StoD.disk (S:StoD) (D:DiskD):StoD:={ S with T:={ S.T with D:=D } }
theorem StoTab.add {base m:Nat} {w w':World} {S:StoD} {X:TabD} {v:Value} {l:List (List UInt8×Nat)} {n t:List UInt8} {b:Nat} {wv:Value} (h:StoTab base w S X) (hn:∀ p,p<=99999999->n≠ah qf p) (hwt:S.T.D.waits=[]) (hd:DiskAt base w' (DiskD.saved S.T.D n b t wv)) (ht:TabAt base w' ⟨X.blk,S.T.D.blk,v,l⟩)
 (hm:Mod (λk=>S.T.D.foot k\/k=X.blk) w w') (hz:w.heap.size<=m) (hb:m<=b) (hv:∀ k,wv.ownBlock=some k->S.T.D.wv.ownBlock=some k\/m<=k) (hv2:∀ k,v.ownBlock=some k->w.heap.size<=k/\k < m) :
 StoTab base w' (S.disk (DiskD.saved S.T.D n b t wv)) ⟨X.blk,S.T.D.blk,v,l⟩/\∀ k,(S.disk (DiskD.saved S.T.D n b t wv)).foot k->S.foot k\/w.heap.size<=k:=by
 have J:¬ S.foot X.blk:=λB=>h.away _ B (.inl rfl)
 have N:=abf (D:=S.T.D) (n:=n) (t:=t) hb hv;have E:∀ k,S.T.D.foot k->S.T.foot k:=λk hk=>.inr (.inl hk)
 have F:∀ k,TapeD.foot { S.T with D:=DiskD.saved S.T.D n b t wv } k->S.T.foot k\/m<=k:=λk hk=>by
  rcases hk with h1 | h1 | h1
  . exact .inl (.inl h1)
  . exact (N k h1).imp (E k) λh=>h
  . exact .inl (.inr (.inr h1))
 have O:=h.sto.tape.saved hn hwt hd hm (λk hk=>hk.imp (λh=>h) λe B=>J (by subst e; exact .inr (.inl B))) (Nat.le_trans hz hb) (λk hk=>(hv k hk).imp (λh=>h) λh=>Nat.le_trans hz h);have R:=h.sto.pend.mod hm (λk hk B=>B.elim (λA=>(h.sto.away.1 k (E k A)).2 hk) λe=>J (by subst e; exact .inr (.inr hk)));have M:¬ (S.T.D.foot S.blk\/S.blk=X.blk):=λB=>B.elim (λA=>(h.sto.away.1 _ (E _ A)).1 rfl) λe=>J (by rw [<- e]; exact .inl rfl)
 have I:∀ k,(S.disk (DiskD.saved S.T.D n b t wv)).foot k->S.foot k\/m<=k:=λk hk=>by
  rcases hk with h1 | h1 | h1
  . exact .inl (.inl h1)
  . exact (F k h1).imp (λh=>.inr (.inl h)) λh=>h
  . exact .inl (.inr (.inr h1))
 refine ⟨⟨⟨(hm.block _ (h.sto.lt (.inl rfl)) M).trans h.sto.cells,O,R,h.sto.low,λk hk=>?_,h.sto.away.2⟩,ht,h.top,rfl,λk hk B=>?_⟩,λk hk=>(I k hk).imp (λh=>h) λh=>Nat.le_trans hz h⟩
 ·
  rcases F k hk with h1 | h1
  . exact h.sto.away.1 k h1
  . have A:=h.sto.lt (.inl rfl)
    exact ⟨by show k≠S.blk; omega,λU=>by have:=h.sto.pend.lt U; omega⟩
 ·
  rcases I k hk with h1 | h1
  . rcases B with A | A
    . exact J (by rw [<- (A:k=X.blk)]; exact h1)
    . have:=(hv2 k A).1; have:=h.sto.lt h1; omega
  . rcases B with A | A
    . have:=h.tab.lt (.inl rfl); have A:k=X.blk:=A; omega
    . have:=(hv2 k A).2; omega
end StoW
section
open Go.RowKit
section
variable {P:Program} {w:World}
theorem ac8 (t ty e:TypeId) (i:TypeInfo) (ht:P.underlying t=some (.slice e)) (hi:P.info? e=some i) (b a:Option Addr) (c:Nat) :
 (Builtin.append_ #[t,t] ty #[.slice b 0 0,.slice a 0 c]).run P w=.ok (.slice b 0 0) w:=by
 cases a <;> cases b <;> simp [Builtin.append_,run_underlying ht,sizeOf,typeInfo,hi,Builtin.lenOf,Builtin.firstCells,storeCells,loadCells,loadCellsFrom]
end
end
namespace TopW
open Go.RowKit Go.MapKept OctMath RecMath RecW DskW SegW CacheW StoW
open OctW (gy cz ll)
def ww (l:List (List UInt8×Nat)):List UInt8:=l.flatMap λx=>gy x.1++be 1 x.2
def ve (l:List (List UInt8×Nat)):List UInt8:=be 1 l.length++ww l
theorem ath (x:Nat) (h:x < 256):OctW.ol 1 [(x:Int)]=(be 1 x,0):=by
 have h1:OctW.ol ((1:Nat):Int) [(x:Int)]=_:=abu 1 [(x:Int)] (by omega) (by omega) (λy A=>by
  rw [List.mem_singleton.1 A]; exact ⟨by omega,by show (x:Int) < ((256 ^ 1:Nat):Int); omega⟩)
 rw [show ((1:Nat):Int)=1 from rfl] at h1;rw [h1]; simp [OctW.numsL]
theorem asv (t:List UInt8) (h:t.length<=1000):ll [t]=(gy t,0):=by
 unfold OctW.ll;rw [if_pos (λx A=>by rw [List.mem_singleton.1 A]; omega)];simp [cz]
theorem acp (l:List (List UInt8×Nat)) (h:∀ x∈l,x.1.length<=1000/\x.2<=255):(ww l).length<=l.length * 1003:=by
 induction l with
 | nil=>simp [ww]
 | cons x l ih =>
   have h1:=h x (.head _);have E:=ih λy A=>h y (.tail _ A)
   have B:ww (x :: l)=(gy x.1++be 1 x.2)++ww l:=rfl;rw [B,List.length_append,List.length_append,OctW.jh,bn,List.length_cons,Nat.add_mul];omega
theorem ao4 (a:Option Addr) (cp:Nat) (l:List (List UInt8×Nat)) (hl:l.length<=255) (hn:∀ x∈l,x.1.length<=1000/\x.2<=255) (W:World) (hr:RowT W a l) :
 Calls Tryz.prog 43 #[.slice a l.length cp] W λe w'=>e=.returned (.string (S (ve l)))/\Below W.heap.size W w':=by
 have HR:=zq hr;have M:=zq hn
 have N:Zq (∀ (w:World) (x:Nat),x < 256->Calls Tryz.prog 106 #[.int .i64 1,.slice (some ⟨w.heap.size,0,none⟩) 1 1] (w.alloc (.cells #[.int .i64 (x:Int)] 3)) λe w'=>e=.returned (.tuple #[.string (S (be 1 x)),.int .i64 0])/\Below w.heap.size w w'):=λw x h=>by
  have h1:=OctW.nums_any 1 (by omega) (by omega) (some ⟨w.heap.size,0,none⟩) 1 [(x:Int)] (by simp) (λy hy=>by simp at hy; omega) _ (aaf w [(x:Int)] 3);rw [ath x h] at h1;exact h1.mono λe w' ⟨he,hb⟩=>⟨he,((Below.refl _ w).alloc (Nat.le_refl _) _).trans (hb.mono (by rw [World.size_alloc]; omega))⟩
 have am:Zq (∀ (w:World) (t:List UInt8),t.length<=1000->Calls Tryz.prog 107 #[.slice (some ⟨w.heap.size,0,none⟩) 1 1] (w.alloc (.cells #[.string (S t)] 9)) λe w'=>e=.returned (.tuple #[.string (S (gy t)),.int .i64 0])/\Below w.heap.size w w'):=λw t h=>by
  have h1:=OctW.ab9 (some ⟨w.heap.size,0,none⟩) 1 [t] (by simp) (by simp [cz,OctW.jh]; omega) _ (ag2 w [S t] 9);rw [asv t h] at h1;exact h1.mono λe w' ⟨he,hb⟩=>⟨he,((Below.refl _ w).alloc (Nat.le_refl _) _).trans (hb.mono (by rw [World.size_alloc]; omega))⟩
 have a1:=zq (acp l hn);clear hr hn;go_enter Tryz.func43,Tryz.ntmps43;go_wp2_with fail;refine (N.o W l.length (by omega)).mono ?_;rintro e w1 ⟨rfl,O⟩;have R:=zq O;clear O;have U:Zq (S (be 1 l.length)=S (be 1 l.length++ww (l.take 0))):=by show _=_; simp [ww]
 go_wp2_with fail;go_loopw [20,3] (λi s wr=>∃ k:Nat,k<=l.length/\i=.int .i64 (k:Int)/\s=.string (S (be 1 l.length++ww (l.take k)))/\Zq (Below W.heap.size W wr)) (λi _ _=>l.length+1 - (intOf i).toNat)
 case atStart=>exact ⟨0,by omega,rfl,by rw [U.o],R.o⟩
 case round =>
  obtain ⟨k,hk,rfl,rfl,X⟩:=hrel;clear R U
  by_cases hlt:k < l.length
  ·
   obtain ⟨g,rfl,a6,h1,h2⟩:=(HR.o.below X.o) k hlt;have E:=M.o l[k] (List.getElem_mem hlt);have Y:l.take (k+1)=l.take k++[l[k]]:=List.take_succ_eq_append_getElem hlt
   have an:(ww (l.take k)).length<=255 * 1003:=by
    have h3:=acp (l.take k) λx E=>M.o x (List.mem_of_mem_take E)
    have h4:(l.take k).length<=255:=by rw [List.length_take]; omega
    have h5:(l.take k).length * 1003<=255 * 1003:=Nat.mul_le_mul_right _ h4;omega
   have z1:(S (be 1 l.length++ww (l.take k))).size<=300000:=by rw [au,List.length_append,bn]; omega
   generalize l[k]=x at *
   obtain ⟨n,q⟩:=x;dsimp only at E;have z2:(S (gy n)).size<=2000:=by rw [au,OctW.jh]; have:=E.1; omega
   have z3:(S (be 1 q)).size<=10:=by rw [au,bn]; omega
   have HS:Zq (S (be 1 l.length++ww (l.take k))++(S (gy n)++S (be 1 q))=S (be 1 l.length++ww (l.take (k+1)))):=by
    show _=_;rw [Y,gu,gu];simp [ww]
   have Z:=zq (λw=>am.o w n E.1);have ab:=zq (λw=>N.o w q (by have:=E.2; omega));clear Y an E;generalize S (be 1 l.length++ww (l.take k))=s1 at *
   generalize S (gy n)=s2 at *
   generalize S (be 1 q)=s3 at *
   have ac:Zq (Below wr.heap.size wr (wr.alloc (.cells #[.string (S n),.int .i64 (q:Int)] 113))):=(Below.refl _ _).alloc (Nat.le_refl _) _;have B:=heap_alloc_new wr (.cells #[.string (S n),.int .i64 (q:Int)] 113);go_upto_region 5 with fail
   generalize wr.alloc (.cells #[.string (S n),.int .i64 (q:Int)] 113)=w2 at *
   obtain ⟨A,hA⟩:∃ A,wr.heap.size=A:=⟨_,rfl⟩;have F:Zq (Below W.heap.size W w2):=X.o.trans (ac.o.mono X.o.size);rw [hA] at B ⊢;have ad:=zq B;have c0:w2.cell? ⟨A,0,none⟩=some (.string (S n)):=by rw [Lib.cell_of_heap B]; rfl
   clear hA B ac X h1 h2;go_wp2_with fail;refine (Z.o _).mono ?_;rintro e w3 ⟨rfl,I⟩;have J:Zq (Below W.heap.size W w3):=F.o.trans (I.mono F.o.size)
   have c1:w3.cell? ⟨A,1,none⟩=some (.int .i64 (q:Int)):=by
    rw [Lib.cell_of_heap ((I.block A (Array.getElem?_eq_some_iff.1 ad.o).1).trans ad.o)]; rfl
   clear I Z F c0;go_wp2_with fail;refine (ab.o _).mono ?_;rintro e w4 ⟨rfl,ak⟩;have ao:Zq (Below W.heap.size W w4):=J.o.trans (ak.mono J.o.size);clear ak ab J c1;go_wp2_with fail;go_roundw
   case rel=>exact ⟨k+1,by omega,by go_num,by rw [<- HS.o],ao⟩
   case measure=>simp [intOf]; omega
  ·
   obtain rfl:k=l.length:=by omega
   go_wp2_with fail;go_ret;rw [List.take_length];exact ⟨rfl,X.o⟩
theorem aei:∃ i,Tryz.prog.info? 113=some i/\i.zero=some (.agg #[.string ⟨#[]⟩,.int .i64 0])/\i.size=2/\i.bytes=24:=by
 have:=(show (Tryz.prog.info? 113).map (λi=>(i.zero,i.size,i.bytes))=some (some (.agg #[.string ⟨#[]⟩,.int .i64 0]),2,24) by kernel_rfl)
 cases hh:Tryz.prog.info? 113 with
 | none=>rw [hh] at this; cases this
 | some i=>rw [hh] at this; have A:=Option.some.inj this; exact ⟨i,rfl,congrArg (·.1) A,congrArg (·.2.1) A,congrArg (·.2.2) A⟩
theorem aez {base:Nat} {w:World} {v:Value} {l:List (List UInt8×Nat)} (h:w.ownsRow base 113 2 v l.length (ja l)) (hl:l.length<=1048576) (bb:Addr) :
 ∃ a B F E,v=.slice a l.length B/\(Builtin.append_ #[59,59] 59 #[.slice (some bb) 0 0,.slice a l.length B]).run Tryz.prog w=.ok F E /\
  (l=[]->F=.slice (some bb) 0 0/\E=w)/\(l≠[]->E.ownsRow w.heap.size 113 2 F l.length (ja l)/\Below w.heap.size w E):=by
 obtain ⟨i0,I,N,O,R⟩:=aei;obtain ⟨a,B,X,J⟩:=RowT.own h;subst X
 cases l with
 | nil=>exact ⟨a,B,_,w,rfl,ac8 _ _ _ i0 Tryz.underlying59 I _ a B,λ_=>⟨rfl,rfl⟩,λh=>absurd rfl h⟩
 | cons x l =>
   obtain ⟨g,rfl,_⟩:=J 0 (by simp)
   rcases h.2 with ⟨e,_⟩ | ⟨g2,cap,cur,e,hb,hg,hn,hm,hc,ht⟩
   . cases e
   ·
    cases e
    obtain ⟨F,E,Y,A,U⟩:=run_append_arg_grows (P:=Tryz.prog) (w:=w) 59 59 113 i0 (.agg #[.string ⟨#[]⟩,.int .i64 0]) 2 24 Tryz.underlying59 I N O R rfl (by omega) bb 0 0 [] rfl (by simp)
     ⟨g,0,none⟩ (x :: l).length B (ja (x :: l)) (ajp _) (λj u hu=>by
      have M:(⟨g,0,none⟩:Addr).add j=⟨g,j,none⟩:=by unfold Addr.add; split <;> simp_all
      rw [M,Lib.cell_of_heap hg];rw [<- ht] at hu;rw [List.getElem?_take] at hu
      split at hu
      . simpa using hu
      . cases hu) (by simp) (by unfold maxLen; simp at hl ⊢; omega) (by simp at hl ⊢; omega)
    rw [Nat.zero_add,List.nil_append] at A;exact ⟨_,B,F,E,rfl,Y,λh=>absurd h (by simp),λ_=>⟨A,(Below.refl _ _).grown U (Nat.le_refl _) (by simp)⟩⟩
theorem ah0 (a:Option Addr) (n c:Nat) (w:World):Sem.run Tryz.prog (binOp .eql 59 (.slice a n c) (.slice none 0 0)) w=.ok (.bool a.isNone) w :=
 Lib.run_eql_slice_nil w _ 113 a n c 0 0 Tryz.underlying59
theorem aej {base:Nat} (v:Value) (l:List (List UInt8×Nat)) (w:World) (h:w.ownsRow base 113 2 v l.length (ja l)) (hl:l.length<=1048576) :
 Calls Tryz.prog 40 #[v] w λe w'=>∃ B,e=.returned B/\w'.ownsRow w.heap.size 113 2 B l.length (ja l)/\Below w.heap.size w w':=by
 rcases h.2 with ⟨hv,h0⟩ | ⟨g,cap,cur,hv,_⟩
 ·
  subst hv;obtain rfl:l=[]:=List.eq_nil_of_length_eq_zero h0;have E:Sem.run Tryz.prog (binOp .eql 59 (.slice none 0 0) (.slice none 0 0)) w=.ok (.bool true) w:=ah0 none 0 0 w;go_enter Tryz.func40,Tryz.ntmps40;go_wp2_with fail;go_ret;exact ⟨_,rfl,⟨rfl,.inl ⟨rfl,rfl⟩⟩,Below.refl _ _⟩
 ·
  have A:Zq (Below w.heap.size w (w.alloc (.cells #[] 113))):=(Below.refl _ _).alloc (Nat.le_refl _) _;have J:(w.alloc (.cells #[] 113)).ownsRow base 113 2 v l.length (ja l):=OctW.ownsRow_mod h (Mod.of_below (M:=λ_=>False) A.o) (λ_ x=>x.elim);obtain ⟨a,cp,B,N,F,O,R,U⟩:=aez J hl ⟨w.heap.size,0,none⟩;have X:(w.alloc (.cells #[] 113)).ownsRow w.heap.size 113 2 (.slice (some ⟨w.heap.size,0,none⟩) 0 0) 0 []:=⟨rfl,.inr ⟨w.heap.size,0,#[],rfl,Nat.le_refl _,heap_alloc_new w _,Nat.le_refl _,by unfold maxLen; omega,rfl,rfl⟩⟩
  have Z:Zq (N.ownsRow w.heap.size 113 2 B l.length (ja l)/\Below w.heap.size w N):=by
   by_cases hl0:l=[]
   . obtain ⟨rfl,rfl⟩:=R hl0
     subst hl0;exact ⟨X,A.o⟩
   . obtain ⟨Y,h4⟩:=U hl0
     refine ⟨⟨Y.1,Y.2.imp (λh=>h) λ⟨g,cap,cur,e1,e2,rest⟩=>⟨g,cap,cur,e1,by rw [World.size_alloc] at e2; omega,rest⟩⟩,A.o.trans (h4.mono (by rw [World.size_alloc]; omega))⟩
  have I:=zq O;subst hv
  cases F
  have E:Sem.run Tryz.prog (binOp .eql 59 (.slice (some ⟨g,0,none⟩) l.length cap) (.slice none 0 0)) w=.ok (.bool false) w:=ah0 _ _ _ w;clear h J O R U X A;go_enter Tryz.func40,Tryz.ntmps40;go_wp2_with (at_builtin; refine Lib.wpList_append_run _ rfl (.tmp 5) (.tmp 6) 59 59 rfl _ _ rfl rfl _ _ I.o ?_);go_ret;exact ⟨B,rfl,Z.o⟩
open Go.RowKit Go.MapKept OctMath RecMath RecW DskW SegW CacheW StoW NameMath
theorem ao5 {base:Nat} {X:TabD} (w:World) (h:TabAt base w X) (hl:X.l.length<=1000) :
 Calls Tryz.prog 16 #[.pointer (some ⟨X.blk,0,none⟩)] w λe w'=>∃ A,e=.returned A/\w'.ownsRow w.heap.size 113 2 A X.l.length (ja X.l)/\Below w.heap.size w w':=by
 have c1:w.cell? ⟨X.blk,1,none⟩=some X.v:=by rw [Lib.cell_of_heap h.cells]; rfl
 have B:=zq (aej X.v X.l w h.row (by omega));generalize X.v=v at *
 clear h;go_enter Tryz.func16,Tryz.ntmps16;go_wp2_with fail;refine B.o.mono ?_;rintro e w2 ⟨A,rfl,E,hb⟩;have F:=zq E;have I:=zq hb;clear E hb B c1;go_wp2_with fail;go_ret;exact ⟨A,rfl,F.o,I.o⟩
def qp (l:List (List UInt8×Nat)) (n:List UInt8):Nat:=if (ofL n).isEmpty=true then ((l.find? λx=>decide (x.1=n)).map (·.2)).getD 0 else 1
theorem ao6 (n:List UInt8) (l:List (List UInt8×Nat)) (k:Nat) (h:k < l.length) (hn:∀ x∈l.take k,x.1≠n) (he:l[k].1=n):(l.find? λx=>decide (x.1=n))=some l[k]:=by
 have h1:(l.take k++l.drop k).find? (λx=>decide (x.1=n))=some l[k]:=by
  rw [List.find?_append,List.find?_eq_none.2 (λx A=>by simpa using hn x A),Option.none_or,List.drop_eq_getElem_cons h,List.find?_cons_of_pos (by simpa using he)]
 rw [List.take_append_drop] at h1;exact h1
theorem ao7 (n:List UInt8) (l:List (List UInt8×Nat)) (hn:∀ x∈l,x.1≠n):(l.find? λx=>decide (x.1=n))=none:=List.find?_eq_none.2 (λx A=>by simpa using hn x A)
theorem ah1 {base:Nat} {X:TabD} (n:List UInt8) (hn:n.length<=1099511627776) (W:World) (h:TabAt base W X) (hl:X.l.length<=1000) :
 Calls Tryz.prog 109 #[.pointer (some ⟨X.blk,0,none⟩),.string (S n)] W λe w'=>e=.returned (.int .i64 (qp X.l n:Int))/\Below W.heap.size W w':=by
 obtain ⟨tb,dk,v,l⟩:=X;have HC:=zq h.cells;obtain ⟨a,cp,hv,B⟩:=RowT.own h.row;dsimp only at hv B HC hl ⊢;subst hv;have HR:=zq B;have HO:=zq (λw=>NameW.of_any n hn w);have HQ:Zq (qp l n=if (ofL n).isEmpty=true then ((l.find? λx=>decide (x.1=n)).map (·.2)).getD 0 else 1):=rfl;generalize hob:(ofL n).isEmpty=ob at *
 clear h B hob;go_enter Tryz.func109,Tryz.ntmps109;go_wp2_with fail;refine (HO.o W).mono ?_;rintro e w1 ⟨rfl,I⟩;have J:=zq I;have N:Zq (w1.heap[tb]?=_):=(I.block tb (Array.getElem?_eq_some_iff.1 HC.o).1).trans HC.o;have c1:w1.cell? ⟨tb,1,none⟩=some (.slice a l.length cp):=by rw [Lib.cell_of_heap N.o]; rfl
 clear I HO
 cases ob with
 | false =>
   go_wp2_with fail;go_ret;rw [HQ.o];exact ⟨rfl,J.o⟩
 | true =>
   go_wp2_with fail;go_loopw [22] (λi wr=>∃ k:Nat,k<=l.length/\i=.int .i64 (k:Int)/\Zq (∀ x∈l.take k,x.1≠n)/\Zq (Below W.heap.size W wr)) (λi _=>l.length+1 - (intOf i).toNat)
   case atStart=>exact ⟨0,by omega,rfl,λx Z=>by simp at Z,J.o⟩
   case round =>
    obtain ⟨k,hk,rfl,HA,O⟩:=hrel;clear J N c1
    by_cases hlt:k < l.length
    ·
     obtain ⟨g,rfl,a1,h1,h2⟩:=(HR.o.below O.o) k hlt;have R:l.take (k+1)=l.take k++[l[k]]:=List.take_succ_eq_append_getElem hlt;have U:Zq (Below wr.heap.size wr (wr.alloc (.cells #[.string (S l[k].1),.int .i64 (l[k].2:Int)] 113))):=(Below.refl _ _).alloc (Nat.le_refl _) _;have F:=heap_alloc_new wr (.cells #[.string (S l[k].1),.int .i64 (l[k].2:Int)] 113);have HF:Zq (l[k].1=n->qp l n=l[k].2):=λE=>by rw [HQ.o,if_pos trivial,ao6 n l k hlt HA.o E]; rfl
     have HN:Zq (l[k].1≠n->∀ x∈l.take (k+1),x.1≠n):=λE x Z=>by
      rw [R] at Z
      rcases List.mem_append.1 Z with h | h
      . exact HA.o x h
      . rw [List.mem_singleton] at h; subst h; exact E
     clear R;generalize l[k]=x at *
     obtain ⟨m,q⟩:=x;dsimp only at *
     go_upto_region 9 with fail
     generalize wr.alloc (.cells #[.string (S m),.int .i64 (q:Int)] 113)=w2 at *
     obtain ⟨A,hA⟩:∃ A,wr.heap.size=A:=⟨_,rfl⟩;have Y:Zq (Below W.heap.size W w2):=O.o.trans (U.o.mono O.o.size);rw [hA] at F ⊢;have c0:w2.cell? ⟨A,0,none⟩=some (.string (S m)):=by rw [Lib.cell_of_heap F]; rfl
     have d1:w2.cell? ⟨A,1,none⟩=some (.int .i64 (q:Int)):=by rw [Lib.cell_of_heap F]; rfl
     clear hA F U O h1 h2
     by_cases E:m=n
     . have M:=zq (HF.o E)
       subst E;clear HF HN;go_wp2_with fail;go_ret;rw [M.o];exact ⟨rfl,Y.o⟩
     ·
      have a7:((S m).toList == (S n).toList)=false:=by rw [DskW.S_toList,DskW.S_toList]; simp [E]
      have am:=zq (HN.o E);clear HF HN;have HE:=zq E;clear E;go_wp2_with fail;go_roundw
      case rel=>exact ⟨k+1,by omega,by go_num,am,Y⟩
      case measure=>simp [intOf]; omega
    ·
     obtain rfl:k=l.length:=by omega
     have M:Zq (qp l n=0):=by
      have h1:=HA.o;rw [List.take_length] at h1;show _=_;rw [HQ.o,if_pos trivial,ao7 n l h1]; rfl
     go_wp2_with fail;go_ret;rw [M.o];exact ⟨rfl,O.o⟩
def nu (l:List (List UInt8×Nat)) (n:List UInt8) (q:Int):Int:=if qp l n=0 then 12 else if q < 0\/(qp l n:Int)<=q then 13 else 0
theorem aek {base:Nat} {X:TabD} (n:List UInt8) (hn:n.length<=1099511627776) (q:Int) (W:World) (h:TabAt base W X) (hl:X.l.length<=1000) :
 Calls Tryz.prog 45 #[.pointer (some ⟨X.blk,0,none⟩),.string (S n),.int .i64 q] W λe w'=>e=.returned (.int .i64 (nu X.l n q))/\Below W.heap.size W w':=by
 have J:=zq (ah1 n hn W h hl);have E:Zq (nu X.l n q=if qp X.l n=0 then 12 else if q < 0\/(qp X.l n:Int)<=q then 13 else 0):=rfl;generalize qp X.l n=m at *
 clear h;go_enter Tryz.func45,Tryz.ntmps45;go_wp2_with fail;refine J.o.mono ?_;rintro e w1 ⟨rfl,F⟩;have B:=zq F;clear F J
 by_cases h0:m=0
 ·
  have A:Zq (nu X.l n q=12):=by show _=_; rw [E.o,if_pos h0]
  subst h0;clear E;go_wp2_with fail;go_ret;rw [A.o];exact ⟨rfl,B.o⟩
 have M:((m:Int) == 0)=false:=beq_eq_false_iff_ne.2 (by omega)
 by_cases h1:q < 0
 ·
  have A:Zq (nu X.l n q=13):=by show _=_; rw [E.o,if_neg h0,if_pos (.inl h1)]
  have hd:decide (q < 0)=true:=decide_eq_true h1;clear E h1;go_wp2_with fail;go_ret;rw [A.o];exact ⟨rfl,B.o⟩
 have hd:decide (q < 0)=false:=decide_eq_false h1
 by_cases h2:(m:Int)<=q
 ·
  have A:Zq (nu X.l n q=13):=by show _=_; rw [E.o,if_neg h0,if_pos (.inr h2)]
  have I:decide ((m:Int)<=q)=true:=decide_eq_true h2;clear E h1 h2;go_wp2_with fail;go_ret;rw [A.o];exact ⟨rfl,B.o⟩
 ·
  have A:Zq (nu X.l n q=0):=by show _=_; rw [E.o,if_neg h0,if_neg (by omega)]
  have I:decide ((m:Int)<=q)=false:=decide_eq_false h2;clear E h1 h2;go_wp2_with fail;go_ret;rw [A.o];exact ⟨rfl,B.o⟩
end TopW
namespace SndW
open Go.RowKit Go.MapKept OctMath RecMath RecW DskW SegW TapeW TapeMath PendW CacheW StoW TopW NameMath
theorem ah2 (a:Option Addr) (cap:Nat) (ts:List (List UInt8)) (hx:ts.length<=1048576) (W:World) (hS:Strs W a (ts.map S)) :
 Calls Tryz.prog 49 #[.slice a ts.length cap] W λe w'=>e=.returned (.bool (decide ts.Nodup))/\Below W.heap.size W w':=by
 have N:=zq (TagW.ad4 a ts.length cap W);have B:Zq (Below W.heap.size W (W.alloc (.cells #[.slice a ts.length cap] 32))):=(Below.refl _ _).alloc (Nat.le_refl _) _;have F:=zq (SeqW.aa1 W.heap.size cap a ts hx (W.alloc (.cells #[.slice a ts.length cap] 32)) (Strs.below hS B.o) (by simp) (by rw [World.cell?_alloc_new]; rfl));have A:(ts.mergeSort (λx y=>decide (x<=y))).length=ts.length:=List.length_mergeSort _
 have I:Zq (decide ts.Nodup=!decide ((Lib.compact (ts.mergeSort (λx y=>decide (x<=y)))).length < ts.length)):=by
  have h1:=DupMath.afj ts;unfold TagW.aql at h1;rw [decide_eq_true_eq] at h1;show _=_
  by_cases h:ts.Nodup
  . rw [decide_eq_true h,decide_eq_false (λR=>h1.1 R h)]; rfl
  . rw [decide_eq_false h,decide_eq_true (h1.2 h)]; rfl
 have U:(Lib.compact (ts.mergeSort (λx y=>decide (x<=y)))).length<=ts.length:=by
  rw [<- A];unfold Lib.compact Lib.compactUpTo;rw [List.length_map];exact Nat.le_trans (List.length_filter_le _ _) (by simp)
 generalize ts.mergeSort (λx y=>decide (x<=y))=ss at *
 clear hS;go_enter Tryz.func49,Tryz.ntmps49;go_wp2_with fail;refine N.o.mono ?_;rintro e w2 ⟨rfl,rfl⟩;clear N;go_wp2_with fail;refine F.o.mono ?_;rintro e w3 ⟨v,rfl,E,hb⟩;have M:=zq (B.o.trans (hb.mono B.o.size));have O:=zq (TagW.acx W.heap.size v ss (by omega) W w3 M.o (by rw [A]; exact SeqW.own_base E B.o.size));generalize (Lib.compact ss).length=cn at *
 generalize ts.length=tn at *
 clear E hb F A;go_wp2_with fail;refine O.o.mono ?_;rintro e w4 ⟨⟨a4,c4,rfl⟩,hb⟩;have J:=zq hb;clear hb O
 by_cases h:cn=tn
 ·
  subst h;go_wp2_with fail;go_ret;exact ⟨bf (by rw [I.o]; simp),J.o⟩
 ·
  have X:¬ (cn:Int)=(tn:Int):=by omega
  go_wp2_with fail;go_ret;exact ⟨bf (by rw [I.o,decide_eq_true (by omega:cn < tn)]; first | rfl | (simp; omega)),J.o⟩
structure lu where
 topic:List UInt8
 queue:Int
 tag:List UInt8
 keys:List (List UInt8)
 body:List UInt8
def j4 (x:lu) (a:Option Addr) (c:Nat):Array Value:=#[.string (S x.topic),.int .i64 x.queue,.string (S x.tag),.slice a x.keys.length c,.string (S x.body)]
structure zg (x:lu):Prop where
 queue:inI x.queue
 topic:x.topic.length<=1073741824
 tag:x.tag.length<=1073741824
 body:x.body.length<=1073741824
 keys:x.keys.length<=1048576
 key:∀ t∈x.keys,t.length<=1073741824
def xh (l:List (List UInt8×Nat)) (x:lu):Int :=
 if (ofL x.topic).isEmpty=false then 12 else if nu l x.topic x.queue≠0 then nu l x.topic x.queue else
 if (aqa x.tag && x.keys.all qc)=false then 11 else if 3 < x.keys.length\/200 < x.body.length then 6 else if x.keys.Nodup then 0 else 10
theorem aj0 {base:Nat} {S0:StoD} {X:TabD} (x:lu) (hx:zg x) (a:Option Addr) (c:Nat) (W:World) (h:StoTab base W S0 X) (hl:X.l.length<=1000) (hS:Strs W a (x.keys.map S)) :
 Calls Tryz.prog 18 #[.pointer (some ⟨S0.blk,0,none⟩),.agg (j4 x a c)] W λe w'=>e=.returned (.int .i64 (xh X.l x))/\Below W.heap.size W w':=by
 have Z:Zq (Below W.heap.size W (W.alloc (.cells (j4 x a c) 34))):=(Below.refl _ W).alloc (Nat.le_refl _) _;have ab:Zq (RecW.Boxed (W.alloc (.cells (j4 x a c) 34)) W.heap.size (j4 x a c)):=RecW.Boxed.new W _ _;have a1:=zq (h.below Z.o);have a6:=zq (Strs.below hS Z.o);have bs:(j4 x a c).size=5:=rfl;have HO:=zq (λw=>NameW.of_any x.topic (by have:=hx.topic; omega) w);have a7:=zq (λw (hw:StoTab base w S0 X)=>aek x.topic (by have:=hx.topic; omega) x.queue w hw.tab hl);have ba:=zq (λw=>NameW.akf x.tag (by have:=hx.tag; omega) w);have bb:=zq (λw (hs:Strs w a (x.keys.map S))=>ag1 a c x.keys hx.keys (λt ht=>by have:=hx.key t ht; omega) w hs);have bc:=zq (λw (hs:Strs w a (x.keys.map S))=>ah2 a c x.keys hx.keys w hs)
 have ac:Zq (xh X.l x=if (ofL x.topic).isEmpty=false then 12 else if nu X.l x.topic x.queue≠0 then nu X.l x.topic x.queue else
  if ((x.tag.isEmpty || ik x.tag) && x.keys.all qc)=false then 11 else if 3 < x.keys.length\/200 < x.body.length then 6 else if x.keys.Nodup then 0 else 10):=rfl
 have bd:=au x.body;have b7:=hx.body;have b8:=hx.keys;generalize xh X.l x=R at *
 generalize (ofL x.topic).isEmpty=ob at *
 generalize nu X.l x.topic x.queue=ct at *
 generalize (x.tag.isEmpty || ik x.tag)=tg at *
 generalize x.keys.all qc=ak at *
 clear h hS hx;go_enter Tryz.func18,Tryz.ntmps18;go_upto_region 1 with fail
 generalize W.alloc (.cells (j4 x a c) 34)=w1 at *
 clear bs;obtain ⟨A,hA⟩:∃ A,W.heap.size=A:=⟨_,rfl⟩;rw [hA] at ab ⊢;have b9:=zq hA;clear hA;have k0:w1.cell? ⟨A,0,none⟩=some (.string (S x.topic)):=ab.o 0 _ rfl;go_wp2_with fail;refine (HO.o w1).mono ?_;rintro e w2 ⟨rfl,hb⟩;have I:Zq (Below W.heap.size W w2):=Z.o.trans (hb.mono Z.o.size);have O:=zq (ab.o.below hb);have U:=zq (a1.o.below hb);have ad:=zq (Strs.below a6.o hb);clear hb HO k0 ab a1 a6 Z
 cases ob with
 | false =>
   have J:R=12:=by rw [ac.o,if_pos rfl]
   clear ac;go_wp2_with fail;go_ret;rw [J];exact ⟨rfl,I.o⟩
 | true =>
 have M:Zq (R=if ct≠0 then ct else if (tg && ak)=false then 11 else if 3 < x.keys.length\/200 < x.body.length then 6 else if x.keys.Nodup then 0 else 10):=by
  show _=_; rw [ac.o,if_neg (by decide)]
 clear ac;have al:w2.cell? ⟨S0.blk,3,none⟩=some S0.top:=U.o.sto.cell 3 _ rfl;rw [U.o.top] at al;have k0:w2.cell? ⟨A,0,none⟩=some (.string (S x.topic)):=O.o 0 _ rfl;have k1:w2.cell? ⟨A,1,none⟩=some (.int .i64 x.queue):=O.o 1 _ rfl
 have HK:Zq (∀ w,RecW.ExtR w2.drew w->w.cell? ⟨S0.blk,3,none⟩=some (.pointer (some ⟨X.blk,0,none⟩))/\w.cell? ⟨A,0,none⟩=some (.string (S x.topic))/\w.cell? ⟨A,1,none⟩=some (.int .i64 x.queue)/\Below w2.heap.size w2 w):=λw hw=>by
  have hb:Below w2.heap.size w2 w:=((Below.refl _ w2).drew).trans hw;exact ⟨by rw [hb.cell (ay al)]; exact al,by rw [hb.cell (ay k0)]; exact k0,by rw [hb.cell (ay k1)]; exact k1,hb⟩
 clear k0 k1 al;go_upto_region 6 with fail
 refine GrowN.aj 8 [none,none,none,none,none,none,none,none] RecW.ExtR (by kernel_rfl) (by kernel_rfl) (by kernel_rfl) RecW.ExtR.refl (λ_ _ _=>RecW.ExtR.trans) ?_ ?_
 . exact GrowN.jg rfl
 simp only [List.take_succ_cons,List.take_zero,List.drop_succ_cons,List.drop_zero]
 iterate 8
  refine GrowN.g_det rfl ?_;apply Exists.intro;refine ⟨λw hw hF=>?_,?_⟩
  . clear hF
    obtain ⟨k1,k2,k3,_⟩:=HK.o w hw;go_simp;exact ⟨rfl,RecW.ExtR.refl _⟩
  go_frame
 refine GrowN.g_nil λbj bk hF=>?_
 clear hF;obtain ⟨_,_,_,F⟩:=HK.o bj bk;have I:Zq (Below W.heap.size W bj):=I.o.trans (F.mono I.o.size);have O:=zq (O.o.below F);have U:=zq (U.o.below F);have ad:=zq (Strs.below ad.o F);clear F bk HK;go_wp2_with fail;refine (a7.o _ U.o).mono ?_;rintro e w3 ⟨rfl,hb⟩;have am:Zq (Below W.heap.size W w3):=I.o.trans (hb.mono I.o.size);have ao:=zq (O.o.below hb);have bl:=zq (Strs.below ad.o hb);clear hb a7 O U ad I
 by_cases h0:ct=0
 case neg =>
  have J:R=ct:=by rw [M.o,if_pos h0]
  have ca:(ct != 0)=true:=bne_iff_ne.2 h0;clear M h0;go_wp2_with fail;go_ret;rw [J];exact ⟨rfl,am.o⟩
 case pos =>
 have B:Zq (R=if (tg && ak)=false then 11 else if 3 < x.keys.length\/200 < x.body.length then 6 else if x.keys.Nodup then 0 else 10):=by
  show _=_; rw [M.o,if_neg (by simpa using h0)]
 clear M;subst h0;have k2:w3.cell? ⟨A,2,none⟩=some (.string (S x.tag)):=ao.o 2 _ rfl;go_wp2_with fail;refine (ba.o w3).mono ?_;rintro e w4 ⟨rfl,hb⟩;have an:Zq (Below W.heap.size W w4):=am.o.trans (hb.mono am.o.size);have ap:=zq (ao.o.below hb);have ar:=zq (Strs.below bl.o hb);clear hb ba k2 ao bl am;have k3:w4.cell? ⟨A,3,none⟩=some (.slice a x.keys.length c):=ap.o 3 _ rfl
 cases tg with
 | false =>
   have J:R=11:=by rw [B.o,if_pos (by simp)]
   clear B;go_wp2_with fail;go_ret;rw [J];exact ⟨rfl,an.o⟩
 | true =>
 go_wp2_with fail;refine (bb.o w4 ar.o).mono ?_;rintro e w5 ⟨rfl,hb⟩;have Y:Zq (Below W.heap.size W w5):=an.o.trans (hb.mono an.o.size);have av:=zq (ap.o.below hb);have bm:=zq (Strs.below ar.o hb);clear hb bb k3 ap ar an
 cases ak with
 | false =>
   have J:R=11:=by rw [B.o,if_pos (by simp)]
   clear B;go_wp2_with fail;go_ret;rw [J];exact ⟨rfl,Y.o⟩
 | true =>
 have E:Zq (R=if 3 < x.keys.length\/200 < x.body.length then 6 else if x.keys.Nodup then 0 else 10):=by
  show _=_; rw [B.o,if_neg (by simp)]
 clear B;have k3:w5.cell? ⟨A,3,none⟩=some (.slice a x.keys.length c):=av.o 3 _ rfl;have k4:w5.cell? ⟨A,4,none⟩=some (.string (S x.body)):=av.o 4 _ rfl
 by_cases h3:3 < x.keys.length
 ·
  have J:R=6:=by rw [E.o,if_pos (.inl h3)]
  have b2:(3:Int) < (x.keys.length:Int):=by omega
  clear E h3;go_wp2_with fail;go_ret;rw [J];exact ⟨rfl,Y.o⟩
 have b2:(x.keys.length:Int)<=(3:Int):=by omega
 by_cases h4:200 < x.body.length
 ·
  have J:R=6:=by rw [E.o,if_pos (.inr h4)]
  have b3:(200:Int) < ((S x.body).size:Int):=by omega
  clear E h3 h4 bd;go_wp2_with fail;go_ret;rw [J];exact ⟨rfl,Y.o⟩
 have b3:((S x.body).size:Int)<=(200:Int):=by omega
 have N:Zq (R=if x.keys.Nodup then 0 else 10):=by
  show _=_; rw [E.o,if_neg (by omega)]
 clear E h3 h4 bd;go_wp2_with fail;refine (bc.o w5 bm.o).mono ?_;rintro e w6 ⟨rfl,hb⟩;have bo:Zq (Below W.heap.size W w6):=Y.o.trans (hb.mono Y.o.size);clear hb bc k3 k4 av bm Y
 by_cases hn:x.keys.Nodup
 ·
  have J:R=0:=by rw [N.o,if_pos hn]
  rw [decide_eq_true hn];clear N hn;go_wp2_with fail;go_ret;rw [J];exact ⟨rfl,bo.o⟩
 ·
  have J:R=10:=by rw [N.o,if_neg hn]
  rw [decide_eq_false hn];clear N hn;go_wp2_with fail;go_ret;rw [J];exact ⟨rfl,bo.o⟩
end SndW
namespace TopW
open Go.RowKit Go.MapKept OctMath RecMath RecW DskW SegW CacheW StoW NameMath TapeW
theorem ae0 {base:Nat} {w:World} {v:Value} {l:List (List UInt8×Nat)} (h:w.ownsRow base 113 2 v l.length (ja l)) (n:List UInt8) (q b:Nat) (hb:w.heap[b]?=some (.cells #[.string (S n),.int .i64 (q:Int)] 113 (0,0))) (hl:l.length<=1048576) (hbase:base<=w.heap.size) :
 ∃ F A,(Builtin.append_ #[59,59] 59 #[v,.slice (some ⟨b,0,none⟩) 1 1]).run Tryz.prog w=.ok F A /\
  A.ownsRow base 113 2 F (l.length+1) (ja (l++[(n,q)]))/\w.grownBy A v.ownBlock:=by
 obtain ⟨i0,I,J,M,N⟩:=aei
 obtain ⟨F,A,U,B,O,_,X⟩:=run_append_own_at (P:=Tryz.prog) _ base 59 59 113 i0 (.agg #[.string ⟨#[]⟩,.int .i64 0]) 2 24 Tryz.underlying59 I J M N rfl (by omega) _ _ _ h
  ⟨b,0,none⟩ 1 1 [.string (S n),.int .i64 (q:Int)] rfl (λj u hu=>by
   have E:(⟨b,0,none⟩:Addr).add j=⟨b,j,none⟩:=by unfold Addr.add; split <;> simp_all
   rw [E,Lib.cell_of_heap hb]
   match j,hu with
   | 0,hu=>exact hu
   | 1,hu=>exact hu
   | j+2,hu=>cases hu) (λu hu=>by
   simp only [List.mem_cons,List.not_mem_nil,or_false] at hu
   rcases hu with rfl | rfl <;> rfl) (by unfold maxLen; omega) (by omega) hbase
 have R:ja l++[.string (S n),.int .i64 (q:Int)]=ja (l++[(n,q)]):=by unfold ja; simp
 exact ⟨F,A,U,by rw [<- R]; exact B,O⟩
theorem ao8 {l:List (List UInt8×Nat)} {n:List UInt8} {q:Int} (h:qo l n q=0):1<=q/\q<=3:=by
 unfold qo at h
 split at h
 . cases h
 . split at h
   . cases h
   . rename_i h1 A; omega
theorem asw {base tb:Nat} {D:DiskD} {v:Value} {l:List (List UInt8×Nat)} (n:List UInt8) (q:Nat) (W:World) (h:TabAt base W ⟨tb,D.blk,v,l⟩) (hD:DiskAt base W D)
 (haw:∀ k,D.foot k->k≠tb) (hq:Quiet D) (E:D.waits=[]) (hno:∀ x∈D.files.map (·.1),Lib.hasPrefix x (xg jk)=false) (hfl:D.files.length<=1048576) (hnl:∀ p∈D.files,p.1.length<=maxLen)
 (hok:qo l n q=0) (hn:n.length<=1000) (hl:∀ x∈l,x.1.length<=1000/\x.2<=255) (hroom:((CrcMath.ai (ve (l++[(n,q)]))).length:Int)<=D.room) (hbase:base<=W.heap.size) :
 Calls Tryz.prog 17 #[.pointer (some ⟨tb,0,none⟩),.string (S n),.int .i64 (q:Int)] W λe w'=>e=.returned (.int .i64 0)/\∃ v' b wv m,TabAt base w' ⟨tb,D.blk,v',l++[(n,q)]⟩/\DiskAt base w' (DiskD.saved D jk b (CrcMath.ai (ve (l++[(n,q)]))) wv) /\
  Mod (λk=>D.foot k\/k=tb) W w'/\W.heap.size<=m/\m<=b/\(∀ k,wv.ownBlock=some k->D.wv.ownBlock=some k\/m<=k)/\∀ k,v'.ownBlock=some k->W.heap.size<=k/\k < m:=by
 obtain ⟨a,Z,hv,b6⟩:=RowT.own h.row;dsimp only at hv;subst hv;have dv:l.length < 6:=ahn hok;have cv:=ao8 hok;have J:Zq (Below W.heap.size W (W.alloc (.cells #[.string (S n),.int .i64 (q:Int)] 113))):=(Below.refl _ W).alloc (Nat.le_refl _) _;have I:Zq ((W.alloc (.cells #[.string (S n),.int .i64 (q:Int)] 113)).heap[W.heap.size]?=_):=heap_alloc_new W (.cells #[.string (S n),.int .i64 (q:Int)] 113);have HX:=zq h;have HD:=zq hD
 have bl:∀ x∈l++[(n,q)],x.1.length<=1000/\x.2<=255:=λx hx=>by
  rcases List.mem_append.1 hx with h1 | h1
  . exact hl x h1
  . rw [List.mem_singleton.1 h1]; exact ⟨hn,by omega⟩
 have bm:=zq (λ(w:World) (hr:RowT w a l)=>right_any a Z l (by omega) n (by omega) (q:Int) w hr);rw [hok] at bm;have b7:=zq (λ(w:World) (h:w.ownsRow base 113 2 (.slice a l.length Z) l.length (ja l))=>aej _ l w h (by omega));have b8:=zq (λ(a:Option Addr) (Z:Nat) (w:World) (h:RowT w a (l++[(n,q)]))=>ao4 a Z (l++[(n,q)]) (by simp; omega) bl w h)
 have b9:(ve (l++[(n,q)])).length<=100000:=by
  have h1:=acp _ bl;have h2:(l++[(n,q)]).length * 1003<=6 * 1003:=Nat.mul_le_mul_right _ (by simp; omega);unfold ve;rw [List.length_append,bn];omega
 have bp:=zq (λ(w:World) (hd:DiskAt base w D) (hb:base<=w.heap.size)=>asu jk (ve (l++[(n,q)])) w hd hq E hno hfl hnl (by decide) b9 hroom hb);rw [show S jk=⟨#[116,111,112,105,99,115]⟩ from rfl] at bp;have cx:=zq haw;have ca:=zq hbase;have cb:=zq (λ(v:Value) (s b:Nat) (w:World) (h:w.ownsRow s 113 2 v l.length (ja l)) (hb:w.heap[b]?=some (.cells #[.string (S n),.int .i64 (q:Int)] 113 (0,0))) (hz:s<=w.heap.size)=>ae0 h n q b hb (by omega) hz);have bd:(l++[(n,q)]).length=l.length+1:=by simp
 clear h hD haw hq E hno hfl hnl hok hn hl hroom hbase b6 bl cv b9;generalize ve (l++[(n,q)])=pt at *
 generalize l++[(n,q)]=l2 at *
 have cy:=zq bd;clear bd;go_enter Tryz.func17,Tryz.ntmps17;go_upto_region 4 with fail
 generalize W.alloc (.cells #[.string (S n),.int .i64 (q:Int)] 113)=w1 at *
 have X:Zq (TabAt base w1 ⟨tb,D.blk,.slice a l.length Z,l⟩):=HX.o.below J.o;obtain ⟨A,hA⟩:∃ A,W.heap.size=A:=⟨_,rfl⟩;rw [hA] at I ⊢;have dz:=zq hA;clear hA;have c1:w1.cell? ⟨tb,1,none⟩=some (.slice a l.length Z):=by rw [Lib.cell_of_heap X.o.cells]; rfl
 have d0:w1.cell? ⟨A,0,none⟩=some (.string (S n)):=by rw [Lib.cell_of_heap I.o]; rfl
 have d1:w1.cell? ⟨A,1,none⟩=some (.int .i64 (q:Int)):=by rw [Lib.cell_of_heap I.o]; rfl
 have av:Zq (RowT w1 a l):=by
  obtain ⟨a2,d5,e2,h2⟩:=RowT.own X.o.row
  cases e2
  exact h2
 have br:Zq (∀ w,RecW.ExtR w1.drew w->w.cell? ⟨tb,1,none⟩=some (.slice a l.length Z)/\w.cell? ⟨A,0,none⟩=some (.string (S n))/\w.cell? ⟨A,1,none⟩=some (.int .i64 (q:Int))/\Below w1.heap.size w1 w):=λw E=>by
  have hb:Below w1.heap.size w1 w:=((Below.refl _ w1).drew).trans E;exact ⟨by rw [hb.cell (ay c1)]; exact c1,by rw [hb.cell (ay d0)]; exact d0,by rw [hb.cell (ay d1)]; exact d1,hb⟩
 refine GrowN.aj 5 [none,none,none,none,none] RecW.ExtR (by kernel_rfl) (by kernel_rfl) (by kernel_rfl) RecW.ExtR.refl (λ_ _ _=>RecW.ExtR.trans) ?_ ?_
 . exact GrowN.jg rfl
 simp only [List.take_succ_cons,List.take_zero,List.drop_succ_cons,List.drop_zero]
 iterate 5
  refine GrowN.g_det rfl ?_;apply Exists.intro;refine ⟨λw E F=>?_,?_⟩
  . clear F
    obtain ⟨k1,k2,k3,_⟩:=br.o w E;go_simp;exact ⟨rfl,RecW.ExtR.refl _⟩
  go_frame
 refine GrowN.g_nil λab cc F=>?_
 clear F;obtain ⟨_,_,_,ac⟩:=br.o ab cc;have J:Zq (Below W.heap.size W ab):=J.o.trans (ac.mono J.o.size);have X:Zq (TabAt base ab ⟨tb,D.blk,.slice a l.length Z,l⟩):=X.o.below ac;have I:Zq (ab.heap[A]?=_):=(ac.block A (Array.getElem?_eq_some_iff.1 I.o).1).trans I.o;have av:Zq (RowT ab a l):=av.o.below ac;clear c1 d0 d1 ac cc br;go_wp2_with fail;refine (bm.o _ (av.o)).mono ?_;rintro e w2 ⟨rfl,hb⟩;have bs:Zq (Below W.heap.size W w2):=J.o.trans (hb.mono J.o.size);have cd:Zq (TabAt base w2 ⟨tb,D.blk,.slice a l.length Z,l⟩):=X.o.below hb;have ce:Zq (w2.heap[A]?=_):=(hb.block A (Array.getElem?_eq_some_iff.1 I.o).1).trans I.o;clear hb bm av X I J;go_upto_region 7 with fail
 have HK:Zq (∀ w,RecW.ExtR w2.drew w->w.cell? ⟨tb,1,none⟩=some (.slice a l.length Z)/\w.cell? ⟨A,0,none⟩=some (.string (S n))/\w.cell? ⟨A,1,none⟩=some (.int .i64 (q:Int))/\TabAt base w ⟨tb,D.blk,.slice a l.length Z,l⟩/\w2.heap.size<=w.heap.size):=λw E=>by
  have hb:Below w2.heap.size w2 w:=((Below.refl _ w2).drew).trans E;have hx:=cd.o.below hb;have hc:w.heap[A]?=_:=(hb.block A (Array.getElem?_eq_some_iff.1 ce.o).1).trans ce.o;exact ⟨by rw [Lib.cell_of_heap hx.cells]; rfl,by rw [Lib.cell_of_heap hc]; rfl,by rw [Lib.cell_of_heap hc]; rfl,hx,hb.size⟩
 refine GrowN.aj 7 [none,none,none,none,some (.inr (λ_ v w=>w.ownsRow w2.heap.size 113 2 v l.length (ja l))),none,some (.inr (λ_ v w=>∃ b,v=.slice (some ⟨b,0,none⟩) 1 1/\w.heap[b]?=some (.cells #[.string (S n),.int .i64 (q:Int)] 113 (0,0))))] RecW.ExtR (by kernel_rfl) (by kernel_rfl) (by kernel_rfl) RecW.ExtR.refl (λ_ _ _=>RecW.ExtR.trans) ?_ ?_
 ·
  intro K hK Y hY l v w w' hR h;simp only [List.mem_cons,List.not_mem_nil,or_false] at hK
  rcases hK with rfl | rfl | rfl | rfl | rfl | rfl | rfl <;> simp only [reduceCtorEq,Option.some.injEq,Sum.inr.injEq] at hY
  . subst hY; exact OctW.ownsRow_mod h (Mod.of_below (M:=λ_=>False) hR) (λ_ x=>x.elim)
  . subst hY; obtain ⟨b,e,hh⟩:=h; exact ⟨b,e,(hR.block b (Array.getElem?_eq_some_iff.1 hh).1).trans hh⟩
 simp only [List.take_succ_cons,List.take_zero,List.drop_succ_cons,List.drop_zero]
 iterate 4
  refine GrowN.g_det rfl ?_;apply Exists.intro;refine ⟨λw E F=>?_,?_⟩
  . clear F
    obtain ⟨k1,k2,k3,_,_⟩:=HK.o w E;go_simp;exact ⟨rfl,RecW.ExtR.refl _⟩
  go_frame
 refine GrowN.g_new rfl (λw E F=>?_) (λv4=>?_)
 ·
  clear F;obtain ⟨_,_,_,k4,k5⟩:=HK.o w E;have da:=zq (b7.o w k4.row);have K5:=zq k5;clear k4 k5;go_simp;exact da.o.mono λe w3 ⟨v,h1,h2,h3⟩=>⟨_,h1,ahb h2 K5.o,h3⟩
 go_frame;refine GrowN.g_det rfl ?_;apply Exists.intro;refine ⟨λw E F=>?_,?_⟩
 ·
  clear F;obtain ⟨k1,k2,k3,_,_⟩:=HK.o w E;go_simp;exact ⟨rfl,RecW.ExtR.refl _⟩
 go_frame;refine GrowN.g_new rfl (λw E F=>?_) (λv6=>?_)
 . clear F
   go_simp;exact ⟨⟨_,rfl,heap_alloc_new w _⟩,(Below.refl _ w).alloc (Nat.le_refl _) _⟩
 go_frame;refine GrowN.g_nil λw3 a1 F=>?_
 obtain ⟨b,rfl,bw⟩:=F _ (.head _);have a6:=F _ (.tail _ (.head _));clear F;dsimp only at a6 bw;obtain ⟨v8,w8,cf,cg,ci⟩:=cb.o v4 _ b w3 a6 bw (HK.o w3 a1).2.2.2.2;have cj:=zq cf;have ck:Zq (Below w2.heap.size w2 w8):=(((Below.refl _ w2).drew).trans a1).trans ((Below.refl _ w3).grown ci (HK.o w3 a1).2.2.2.2 (az a6));have bz:Zq (w8.ownsRow w2.heap.size 113 2 v8 l2.length (ja l2)):=by rw [cy.o]; exact cg
 clear a6 bw cf cg ci a1 HK cb b7;go_wp2_with (at_builtin; refine Lib.wpList_append_run _ rfl (.tmp 29) (.tmp 31) 59 59 rfl _ _ rfl rfl _ _ cj.o ?_);obtain ⟨a8,ad,db,ak⟩:=RowT.own bz.o;subst db;have cm:=zq ak;clear ak cj;have b0:Zq (Below W.heap.size W w8):=bs.o.trans (ck.o.mono bs.o.size);have b1:=zq (cd.o.below ck.o)
 have ba:Zq (∀ w,RecW.ExtR w8.drew w->w.cell? ⟨tb,0,none⟩=some (.pointer (some ⟨D.blk,0,none⟩))/\RowT w a8 l2/\Below w8.heap.size w8 w):=λw E=>by
  have hb:Below w8.heap.size w8 w:=((Below.refl _ w8).drew).trans E;exact ⟨by rw [Lib.cell_of_heap (b1.o.below hb).cells]; rfl,cm.o.below hb,hb⟩
 refine GrowN.aj 6 [none,none,none,none,none,some (.inl (.string (S pt)))] RecW.ExtR (by kernel_rfl) (by kernel_rfl) (by kernel_rfl) RecW.ExtR.refl (λ_ _ _=>RecW.ExtR.trans) ?_ ?_
 . exact GrowN.jg rfl
 simp only [List.take_succ_cons,List.take_zero,List.drop_succ_cons,List.drop_zero]
 iterate 5
  refine GrowN.g_det rfl ?_;apply Exists.intro;refine ⟨λw E F=>?_,?_⟩
  . clear F
    obtain ⟨k1,_,_⟩:=ba.o w E;go_simp;exact ⟨rfl,RecW.ExtR.refl _⟩
  go_frame
 refine GrowN.g_con rfl (λw E F=>?_) ?_
 ·
  clear F;have dc:=zq (b8.o a8 ad w (ba.o w E).2.1);go_simp;exact dc.o.mono λe w3 ⟨h1,h2⟩=>⟨_,h1,rfl,h2⟩
 go_frame;refine GrowN.g_nil λw9 cn F=>?_
 clear F;obtain ⟨_,_,bc⟩:=ba.o w9 cn;have O:Zq (Below W.heap.size W w9):=b0.o.trans (bc.mono b0.o.size);have co:=zq (b1.o.below bc);have b2:Zq (w9.ownsRow w2.heap.size 113 2 (.slice a8 l2.length ad) l2.length (ja l2)):=OctW.ownsRow_mod bz.o (Mod.of_below (M:=λ_=>False) bc) (λ_ x=>x.elim);clear cn bc ba b0 b1 bz b8 cm;go_wp2_with fail;refine (bp.o w9 (HD.o.below O.o) (Nat.le_trans ca.o O.o.size)).mono ?_;rintro e al ⟨rfl,b,wv,bh,am,bj,an⟩;have b3:tb < W.heap.size:=HX.o.lt (.inl rfl);have ao:¬ D.foot tb:=λh=>cx.o tb h rfl
 have R:al.heap[tb]?=_:=(am.block tb (co.o.lt (.inl rfl)) ao).trans co.o.cells;have cq:=zq R;have cr:=zq bh;have bk:=zq am;have U:Zq (w9.heap.size<=b/\∀ k,wv.ownBlock=some k->D.wv.ownBlock=some k\/w9.heap.size<=k):=⟨bj,an⟩;have HZ:Zq (tb < W.heap.size/\¬ D.foot tb):=⟨b3,ao⟩;have k1:al.cell? ⟨tb,1,none⟩=some (.slice a l.length Z):=by rw [Lib.cell_of_heap R]; rfl
 have f1:al.frozen? ⟨tb,1,none⟩=false:=Lib.frozen_of_heap R 1;clear R bh am bj an bp b3 ao;go_wp2_with fail;go_ret;obtain ⟨b3,ao⟩:=HZ.o;have ap:Mod (λk=>k=tb) al (al.setCell ⟨tb,1,none⟩ (.slice a8 l2.length ad)):=jv _ _ _ _;have dd:=O.o.size;have de:=bs.o.size;have ar:∀ k,(Value.slice a8 l2.length ad).ownBlock=some k->w2.heap.size<=k:=az b2.o
 have dj:∀ k,(Value.slice a8 l2.length ad).ownBlock=some k->k < w9.heap.size:=λk hk=>by
  rcases b2.o.2 with ⟨e,_⟩ | ⟨g,cap,cur,e,_,hg,_⟩
  . rw [e] at hk; cases hk
  . rw [e] at hk; cases hk; exact (Array.getElem?_eq_some_iff.1 hg).1
 refine ⟨rfl,_,b,wv,w9.heap.size,⟨DskW.heap_set1 cq.o _ rfl,ahb (SegW.ownsRow_mod (SegW.ownsRow_mod b2.o bk.o (λk hk h=>by have h1:=ar k hk; have h2:=HD.o.lt h; omega)) ap (λk hk h=>by have h1:=ar k hk; omega)) (Nat.le_trans ca.o de),HX.o.low⟩,
  cr.o.mod ap (λk hk e=>by
   subst e
   rcases abf (B:=w9.heap.size) U.o.1 U.o.2 _ hk with h | h
   . exact ao h
   . omega),?_,dd,U.o.1,U.o.2,λk hk=>⟨by have:=ar k hk; omega,dj k hk⟩⟩
 exact ((Mod.of_below O.o).trans (bk.o.mono (N:=λk=>D.foot k\/k=tb) λk _ h=>.inl h)).trans (ap.mono λk _ h=>.inr h)
end TopW
namespace SndW
open Go.RowKit Go.MapKept Go.Sort OctMath RecMath RecW DskW SegW TapeW TapeMath PendW CacheW StoW TopW NameMath
def jm (x:lu) (ki due now:Int):Msg:=⟨ki,x.queue,due,0,0,now,x.topic,x.tag,x.body,x.keys⟩
theorem aks (ts:List (List UInt8)):ts.map encStr=(ts.map S).map Value.string:=by rw [List.map_map]; rfl
theorem aj1 (x:lu) (hx:zg x) (ki due now:Int) (a:Option Addr) (c:Nat) (W:World) (hS:Strs W a (x.keys.map S)) :
 Calls Tryz.prog 20 #[.agg (j4 x a c),.int .i64 ki,.int .i64 due,.int .i64 now] W λe w'=>∃ a' c',e=.returned (.agg (af (jm x ki due now) a' c'))/\Strs w' a' (x.keys.map S)/\Below W.heap.size W w':=by
 have O:Below W.heap.size W ((W.alloc (.cells (j4 x a c) 34)).alloc (.cells #[.int .i64 0,.int .i64 0,.int .i64 0,.int .i64 0,.int .i64 0,.int .i64 0,.string ⟨#[]⟩,.string ⟨#[]⟩,.string ⟨#[]⟩,.slice none 0 0] 71)):=((Below.refl _ W).alloc (Nat.le_refl _) _).alloc (by rw [World.size_alloc]; omega) _;have ac:((W.alloc (.cells (j4 x a c) 34)).alloc (.cells #[.int .i64 0,.int .i64 0,.int .i64 0,.int .i64 0,.int .i64 0,.int .i64 0,.string ⟨#[]⟩,.string ⟨#[]⟩,.string ⟨#[]⟩,.slice none 0 0] 71)).heap[W.heap.size]?=some (.cells (j4 x a c) 34 (0,0)):=ag ((Below.refl _ _).alloc (Nat.le_refl _) _) (heap_alloc_new W _)
 have B:((W.alloc (.cells (j4 x a c) 34)).alloc (.cells #[.int .i64 0,.int .i64 0,.int .i64 0,.int .i64 0,.int .i64 0,.int .i64 0,.string ⟨#[]⟩,.string ⟨#[]⟩,.string ⟨#[]⟩,.slice none 0 0] 71)).heap[W.heap.size+1]?=some (.cells #[.int .i64 0,.int .i64 0,.int .i64 0,.int .i64 0,.int .i64 0,.int .i64 0,.string ⟨#[]⟩,.string ⟨#[]⟩,.string ⟨#[]⟩,.slice none 0 0] 71 (0,0)):=by
  have:=heap_alloc_new (W.alloc (.cells (j4 x a c) 34)) (.cells #[.int .i64 0,.int .i64 0,.int .i64 0,.int .i64 0,.int .i64 0,.int .i64 0,.string ⟨#[]⟩,.string ⟨#[]⟩,.string ⟨#[]⟩,.slice none 0 0] 71);rw [World.size_alloc] at this;exact this
 have R:=zq O;have U:=zq ac;have J:=zq B;have ak:=zq (Strs.below hS O);have a1:(j4 x a c).size=5:=rfl;have al:=zq (λw (hs:Strs w a (x.keys.map S))=>TagW.afi a c x.keys hx.keys w hs);clear O ac B hS hx;go_enter Tryz.func20,Tryz.ntmps20;go_upto_region 1 with fail
 generalize (W.alloc (.cells (j4 x a c) 34)).alloc (.cells #[.int .i64 0,.int .i64 0,.int .i64 0,.int .i64 0,.int .i64 0,.int .i64 0,.string ⟨#[]⟩,.string ⟨#[]⟩,.string ⟨#[]⟩,.slice none 0 0] 71)=w1 at *
 clear a1;obtain ⟨A,hA⟩:∃ A,W.heap.size=A:=⟨_,rfl⟩;rw [hA] at U J ⊢;have a7:=zq hA;clear hA
 have HK:Zq (∀ w,RecW.ExtR w1.drew w->w.cell? ⟨A,0,none⟩=some (.string (S x.topic))/\w.cell? ⟨A,1,none⟩=some (.int .i64 x.queue)/\w.cell? ⟨A,2,none⟩=some (.string (S x.tag))/\w.cell? ⟨A,3,none⟩=some (.slice a x.keys.length c)/\w.cell? ⟨A,4,none⟩=some (.string (S x.body))/\Below w1.heap.size w1 w):=λw hw=>by
  have hb:Below w1.heap.size w1 w:=((Below.refl _ w1).drew).trans hw;have hc:=ag hb U.o;exact ⟨aa hc 0 _ rfl,aa hc 1 _ rfl,aa hc 2 _ rfl,aa hc 3 _ rfl,aa hc 4 _ rfl,hb⟩
 refine GrowN.aj 14 [none,none,none,none,none,none,none,none,none,none,none,none,none,some (.inr (λ_ v w=>w.ownsRow w1.heap.size 9 1 v x.keys.length (x.keys.map encStr)))] RecW.ExtR (by kernel_rfl) (by kernel_rfl) (by kernel_rfl) RecW.ExtR.refl (λ_ _ _=>RecW.ExtR.trans) ?_ ?_
 ·
  intro K hK Y hY l v w w' hR h;simp only [List.mem_cons,List.not_mem_nil,or_false] at hK
  rcases hK with rfl | rfl | rfl | rfl | rfl | rfl | rfl | rfl | rfl | rfl | rfl | rfl | rfl | rfl <;> simp only [reduceCtorEq,Option.some.injEq,Sum.inr.injEq] at hY
  subst hY; exact OctW.ownsRow_mod h (Mod.of_below (M:=λ_=>False) hR) (λ_ x=>x.elim)
 simp only [List.take_succ_cons,List.take_zero,List.drop_succ_cons,List.drop_zero]
 iterate 13
  refine GrowN.g_det rfl ?_;apply Exists.intro;refine ⟨λw hw Z=>?_,?_⟩
  . clear Z
    obtain ⟨k0,k1,k2,k3,k4,_⟩:=HK.o w hw;go_simp;exact ⟨rfl,RecW.ExtR.refl _⟩
  go_frame
 refine GrowN.g_new rfl (λw hw Z=>?_) (λv13=>?_)
 ·
  clear Z;obtain ⟨_,_,_,_,_,hb⟩:=HK.o w hw;have a8:=zq (al.o w (Strs.below ak.o hb));have K5:Zq (w1.heap.size<=w.heap.size):=hb.size;clear hb;go_simp;exact a8.o.mono λe w3 ⟨v,h1,h2,h3⟩=>⟨_,h1,ahb h2 K5.o,h3⟩
 go_frame;refine GrowN.g_nil λw2 an Z=>?_
 have N:=Z _ (.head _);clear Z;dsimp only at N;obtain ⟨a2,I,hv,F,_⟩:=Row1.of_own N;subst hv;rw [aks] at F;obtain ⟨_,_,_,_,_,X⟩:=HK.o w2 an;have bp:=zq (Row1.to_strs F);have ao:Zq (Below W.heap.size W w2):=R.o.trans (X.mono R.o.size);have B:=ag X J.o;have HH:=zq (kw rfl B (.int .i64 ki) (.int .i64 x.queue) (.int .i64 due) (.int .i64 0) (.int .i64 0) (.int .i64 now) (.string (S x.topic)) (.string (S x.tag)) (.string (S x.body)) (.slice a2 x.keys.length I));have ap:=zq (mf w2 (A+1) (.int .i64 ki) (.int .i64 x.queue) (.int .i64 due) (.int .i64 0) (.int .i64 0) (.int .i64 now) (.string (S x.topic)) (.string (S x.tag)) (.string (S x.body)) (.slice a2 x.keys.length I));have ar:Zq ((∀ ad,a2=some ad->w1.heap.size<=ad.block)/\A+2<=w1.heap.size):=⟨λad e=>az N ad.block (by subst e; rfl),(Array.getElem?_eq_some_iff.1 J.o).1⟩;have ba:=zq F;have y0:=aa B 0 _ rfl;have z0:=ae B 0;have y1:=aa B 1 _ rfl;have z1:=ae B 1;have y2:=aa B 2 _ rfl;have z2:=ae B 2;have y3:=aa B 3 _ rfl;have z3:=ae B 3;have y4:=aa B 4 _ rfl;have z4:=ae B 4;have y5:=aa B 5 _ rfl;have z5:=ae B 5;have y6:=aa B 6 _ rfl;have z6:=ae B 6;have y7:=aa B 7 _ rfl;have z7:=ae B 7;have y8:=aa B 8 _ rfl;have z8:=ae B 8;have y9:=aa B 9 _ rfl;have z9:=ae B 9;clear B N F X an HK al ak U J R;go_wp2_with fail;clear y0 y1 y2 y3 y4 y5 y6 y7 y8 y9 z0 z1 z2 z3 z4 z5 z6 z7 z8 z9;change bodyPost _ _ _ _ _ (o9 w2 (A+1) (.int .i64 ki) (.int .i64 x.queue) (.int .i64 due) (.int .i64 0) (.int .i64 0) (.int .i64 now) (.string (S x.topic)) (.string (S x.tag)) (.string (S x.body)) (.slice a2 x.keys.length I));generalize o9 w2 (A+1) (.int .i64 ki) (.int .i64 x.queue) (.int .i64 due) (.int .i64 0) (.int .i64 0) (.int .i64 now) (.string (S x.topic)) (.string (S x.tag)) (.string (S x.body)) (.slice a2 x.keys.length I)=w9 at *
 have E:=HH.o;have c0:=aa E 0 _ rfl;have c1:=aa E 1 _ rfl;have c2:=aa E 2 _ rfl;have c3:=aa E 3 _ rfl;have c4:=aa E 4 _ rfl;have c5:=aa E 5 _ rfl;have c6:=aa E 6 _ rfl;have c7:=aa E 7 _ rfl;have c8:=aa E 8 _ rfl;have c9:=aa E 9 _ rfl;have bb:Below W.heap.size W w9:=ao.o.trans (ap.o.to_below _ ao.o.size (λk e=>by have:=a7.o; omega));have bc:Strs w9 a2 (x.keys.map S):=Row1.to_strs (Row1.mod ba.o ap.o λad e h=>by have h1:=ar.o.1 ad e; have h2:=ar.o.2; omega);refine bodyPost_ret (v:=.agg (af (jm x ki due now) a2 I)) ?_ rfl ⟨a2,I,rfl,bc,bb⟩;clear E;simp [results,Tryz.results20,go_sem,af,jm,c0,c1,c2,c3,c4,c5,c6,c7,c8,c9]
theorem Put.mono {B B2:Nat} {S0 S1:StoD} {m:Msg} {sy:Bool} (h:Put B S0 S1 m sy) (hb:B2<=B):Put B2 S0 S1 m sy :=
 { h with foot:=λk hk=>(h.foot k hk).imp (λh=>h) λh=>by omega }
theorem StoTab.put {base B:Nat} {w w':World} {S0 S1:StoD} {X:TabD} {m:Msg} {sy:Bool} (h:StoTab base w S0 X) (h1:StoAt base w' S1) (hp:Put B S0 S1 m sy) (hm:Mod S0.foot w w') (hb:w.heap.size<=B):StoTab base w' S1 X :=
 ⟨h1,h.tab.mod hm (λk hk A=>h.away k A hk),by rw [hp.same]; exact h.top,by rw [h.dk,hp.dblk],λk hk A=>(hp.foot k hk).elim (λE=>h.away k E A) λE=>by have:=h.tab.lt A; omega⟩
theorem ah3 {l:List (List UInt8×Nat)} {n:List UInt8} {q:Int} (hp:∀ y∈l,ik y.1=true/\y.2<=3) (h0:(ofL n).isEmpty=true) (h:nu l n q=0):ik n=true/\0<=q/\q < 3:=by
 unfold nu at h
 split at h
 . cases h
 ·
  rename_i h1
  split at h
  . cases h
  ·
   rename_i A
   unfold qp at h1 A;rw [if_pos h0] at h1 A
   cases hf:l.find? λx=>decide (x.1=n) with
   | none=>rw [hf] at h1; exact absurd rfl h1
   | some y =>
     have B:=hp y (List.mem_of_find?_eq_some hf);have E:y.1=n:=by simpa using List.find?_some hf
     rw [hf] at A;have F:¬ (q < 0\/(y.2:Int)<=q):=A;exact ⟨E ▸ B.1,by omega,by omega⟩
theorem aal {l:List (List UInt8×Nat)} {x:lu} (hp:∀ y∈l,ik y.1=true/\y.2<=3) (h:xh l x=0) {ki due now:Int} (hk:ki=1/\due=0\/ki=2) (hd:gm due=false) (hn:gm now=false):bq (jm x ki due now)=true:=by
 unfold xh at h
 split at h
 . cases h
 ·
  rename_i h1
  have A:(ofL x.topic).isEmpty=true:=by simpa using h1
  split at h
  . rename_i B; exact absurd h B
  ·
   rename_i B
   split at h
   . cases h
   ·
    rename_i N
    split at h
    . cases h
    ·
     rename_i X
     split at h
     ·
      rename_i O
      obtain ⟨g1,g2,g3⟩:=ah3 hp A (by simpa using B);have E:(aqa x.tag && x.keys.all qc)=true:=by simpa using N
      have F:bu (jm x ki due now)=true:=by
       unfold bu jq;obtain ⟨R,U⟩:=Bool.and_eq_true_iff.1 E;simp only [jm,g1,R,U,O,Bool.true_or,Bool.true_and,Bool.and_true,decide_true];simp only [Bool.and_eq_true,decide_eq_true_eq];exact ⟨⟨⟨⟨⟨decide_eq_true g2,decide_eq_true g3⟩,rfl⟩,rfl⟩,decide_eq_true (by omega)⟩,decide_eq_true (by omega)⟩
      unfold bq;have I:gm (jm x ki due now).ref=false:=rfl;have J:gm (jm x ki due now).due=false:=hd;have M:gm (jm x ki due now).born=false:=hn;rw [I,J,M,F]
      rcases hk with ⟨rfl,rfl⟩ | rfl
      . rfl
      . rfl
     . cases h
theorem akt {x:lu} (hx:zg x) {ki due now:Int} (h1:inI ki) (h2:inI due) (h3:inI now):uq (jm x ki due now) :=
 ⟨h1,hx.queue,h2,ace,ace,h3,hx.topic,hx.tag,hx.body,hx.keys,hx.key⟩
end SndW
namespace LitMap
open Go Go.MapKept Go.RowKit
section
variable {P:Program} {w:World} {mty kt et:TypeId} {b N:Nat}
end
/-! a row of cells that is filled in any order -/
def ary (B:Nat) (ty:TypeId) (n:Nat) (w:World):Prop:=∃ cs,w.heap[B]?=some (.cells cs ty (0,0))/\cs.size=n
def At (B:Nat) (ty:TypeId) (T:Array Value) (f:Nat) (w:World):Prop:=∃ cs,w.heap[B]?=some (.cells cs ty (0,0))/\cs.size=T.size/\cs[f]?=T[f]?
structure Sets (B:Nat) (ty:TypeId) (T:Array Value) (u v:World):Prop where
 below:Below B u v
 row:∀ cs,u.heap[B]?=some (.cells cs ty (0,0))->cs.size=T.size->∃ cs',v.heap[B]?=some (.cells cs' ty (0,0))/\cs'.size=T.size/\∀ i:Nat,cs'[i]?=cs[i]?\/cs'[i]?=T[i]?
theorem Sets.refl (B:Nat) (ty:TypeId) (T:Array Value) (w:World):Sets B ty T w w:=⟨Below.refl _ _,λA h E=>⟨A,h,E,λ_=>.inl rfl⟩⟩
theorem Sets.trans {B:Nat} {ty:TypeId} {T:Array Value} {u v w:World} (h:Sets B ty T u v) (g:Sets B ty T v w):Sets B ty T u w:=by
 refine ⟨h.below.trans g.below,λA hc E=>?_⟩;obtain ⟨c1,h1,s1,F⟩:=h.row A hc E;obtain ⟨c2,I,s2,J⟩:=g.row c1 h1 s1;refine ⟨c2,I,s2,λi=>?_⟩
 rcases J i with e | e
 . rcases F i with e1 | e1
   . exact .inl (e.trans e1)
   . exact .inr (e.trans e1)
 . exact .inr e
theorem At.lasts {B:Nat} {ty:TypeId} {T:Array Value} {f:Nat} {u v:World} (h:At B ty T f u) (hR:Sets B ty T u v):At B ty T f v:=by
 obtain ⟨A,h1,E,F⟩:=h;obtain ⟨c1,g1,g2,g3⟩:=hR.row A h1 E;exact ⟨c1,g1,g2,(g3 f).elim (λe=>e.trans F) id⟩
theorem Sets.store {B:Nat} {ty:TypeId} {T:Array Value} {w1 w:World} (hw:Sets B ty T w1 w) (hrow:ary B ty T.size w1) (f:Nat) (x:Value) (hx:T[f]?=some x) :
 ∃ old,w.cell? ⟨B,f,none⟩=some old/\w.frozen? ⟨B,f,none⟩=false/\Sets B ty T w (w.setCell ⟨B,f,none⟩ x)/\At B ty T f (w.setCell ⟨B,f,none⟩ x):=by
 obtain ⟨c0,h0,s0⟩:=hrow;obtain ⟨I,hc,J,_⟩:=hw.row c0 h0 s0;have M:f < I.size:=by rw [J]; exact (Array.getElem?_eq_some_iff.1 hx).1
 have E:=heap_setCell_same w B f I ty x hc;have A:(I.setIfInBounds f x)[f]?=T[f]?:=by rw [hx]; simp [M]
 refine ⟨I[f],?_,?_,⟨(Below.refl B w).setCell (p:=⟨B,f,none⟩) (Nat.le_refl _) _,λc F N=>?_⟩,⟨_,E,by simp [J],A⟩⟩
 . unfold World.cell?; rw [show w.heap[(⟨B,f,none⟩:Addr).block]?=_ from hc]; simp [M]
 . unfold World.frozen?; rw [show w.heap[(⟨B,f,none⟩:Addr).block]?=_ from hc]; rfl
 ·
  rw [hc] at F; cases F;refine ⟨_,E,by simp [J],λi=>?_⟩
  by_cases e:f=i
  . subst e; exact .inr A
  . exact .inl (Array.getElem?_setIfInBounds_ne e)
theorem Sets.done {B:Nat} {ty:TypeId} {T c0:Array Value} {w1 w:World} (hw:Sets B ty T w1 w) (h0:w1.heap[B]?=some (.cells c0 ty (0,0))) (hs:c0.size=T.size)
 (hall:∀ i,i < T.size->c0[i]?=T[i]?\/At B ty T i w):w.heap[B]?=some (.cells T ty (0,0)):=by
 obtain ⟨A,hc,E,F⟩:=hw.row c0 h0 hs
 have:A=T:=by
  apply Array.ext_getElem?;intro i
  by_cases hi:i < T.size
  ·
   rcases hall i hi with e | ⟨c2,g1,g2,g3⟩
   . rcases F i with e2 | e2
     . exact e2.trans e
     . exact e2
   . rw [hc] at g1; cases g1; exact g3
  . rw [Array.getElem?_eq_none (by omega),Array.getElem?_eq_none (by omega)]
 rw [<- this]; exact hc
end LitMap
namespace RetW
open Go.RowKit Go.MapKept Go.Sort OctMath RecMath RecW DskW SegW TapeW TapeMath PendW CacheW StoW TopW NameMath SndW
theorem aq9 (p g:List UInt8) (hg:iq g=true) (hl:g.length<=100) (hp:p.length<=100) (W:World) :
 Calls Tryz.prog 148 #[.string (S p),.string (S g)] W λe w'=>e=.returned (.string (S (p++g)))/\Below W.heap.size W w':=by
 have A:=zq (NameW.tq g (by omega) W);rw [hg] at A;have B:Zq (S p++S g=S (p++g)):=by show _=_; rw [gu]
 have E:(S p).size<=100:=by rw [au]; exact hp
 have F:(S g).size<=100:=by rw [au]; exact hl
 clear hg hl hp;go_enter Tryz.func148,Tryz.ntmps148;go_wp2_with fail;refine A.o.mono ?_;rintro e w2 ⟨rfl,hb⟩;have I:=zq hb;clear hb A;go_wp2_with fail;go_ret;rw [<- B.o];exact ⟨rfl,I.o⟩
theorem amu (g:List UInt8) (hg:iq g=true) (hl:g.length<=100) (W:World) :
 Calls Tryz.prog 77 #[.string (S g)] W λe w'=>e=.returned (.string (S (lw++g)))/\Below W.heap.size W w':=by
 have A:=zq (aq9 lw g hg hl (by decide) W);change Zq (Calls _ _ #[.string ⟨#[37,114,101,116,114,121,37]⟩,_] _ _) at A;clear hg hl;go_enter Tryz.func77,Tryz.ntmps77;go_wp2_with fail;refine A.o.mono ?_;rintro e w2 ⟨rfl,hb⟩;have B:=zq hb;clear hb A;go_wp2_with fail;go_ret;exact ⟨rfl,B.o⟩
theorem amv (w:World):Calls Tryz.prog 78 #[.int .i64 1] w λe w'=>e=.returned (.int .i64 2)/\w'=w:=by
 go_enter Tryz.func78,Tryz.ntmps78;go_wp2_with fail;go_ret;exact ⟨rfl,rfl⟩
theorem ao9 (n m:Int) (h1:0<=n) (h2:n<=1099511626776) (h3:0<=m) (h4:m<=1099511626776) (g c:Nat) (w:World) (hc:w.cell? ⟨g,0,none⟩=some (.int .i64 n)) (hd:w.cell? ⟨g,1,none⟩=some (.int .i64 m)) :
 Calls Tryz.prog 74 #[.slice (some ⟨g,0,none⟩) 2 c] w λe w'=>e=.returned (.bool true)/\w'=w:=by
 have d1:decide (n < 0)=false:=decide_eq_false (by omega);have d2:decide (1099511626776 < n)=false:=decide_eq_false (by omega);have A:¬ n < 0:=by omega
 have B:¬ (1099511626776:Int) < n:=by omega
 have d3:decide (m < 0)=false:=decide_eq_false (by omega);have d4:decide (1099511626776 < m)=false:=decide_eq_false (by omega);have n3:¬ m < 0:=by omega
 have n4:¬ (1099511626776:Int) < m:=by omega
 clear h1 h2 h3 h4;go_enter Tryz.func74,Tryz.ntmps74;go_wp2_with fail;go_loopw [7] (λi wr=>∃ k:Nat,k<=2/\i=.int .i64 (k:Int)/\wr=w) (λi _=>2 - (intOf i).toNat)
 case atStart=>exact ⟨0,by omega,rfl,rfl⟩
 case round =>
  obtain ⟨k,hk,rfl,rfl⟩:=hrel
  rcases (show k=0\/k=1\/k=2 by omega) with rfl | rfl | rfl
  . go_wp2_with fail
    go_roundw
    case rel=>exact ⟨1,by omega,by go_num,trivial⟩
    case measure=>simp [intOf]
  . go_wp2_with fail
    go_roundw
    case rel=>exact ⟨2,by omega,by go_num,trivial⟩
    case measure=>simp [intOf]
  . go_wp2_with fail
    go_ret;exact ⟨rfl,rfl⟩
theorem apa (m:Msg) (hk:m.keys.length<=1048576) (a:Option Addr) (c:Nat) (W:World) (hS:Strs W a (m.keys.map S)) :
 Calls Tryz.prog 75 #[.agg (af m a c)] W λe w'=>∃ a2 I,e=.returned (.agg (af m a2 I))/\Strs w' a2 (m.keys.map S)/\Below W.heap.size W w'/\∀ M,a2=some M->W.heap.size<=M.block:=by
 change Calls _ _ #[.agg #[.int .i64 m.kind,.int .i64 m.queue,.int .i64 m.due,.int .i64 m.retry,.int .i64 m.ref,.int .i64 m.born,.string (S m.topic),.string (S m.tag),.string (S m.body),.slice a m.keys.length c]] _ _;have Z:Below W.heap.size W ((W.alloc (.cells #[.int .i64 m.kind,.int .i64 m.queue,.int .i64 m.due,.int .i64 m.retry,.int .i64 m.ref,.int .i64 m.born,.string (S m.topic),.string (S m.tag),.string (S m.body),.slice a m.keys.length c] 71)).alloc (.cells #[.int .i64 0,.int .i64 0,.int .i64 0,.int .i64 0,.int .i64 0,.int .i64 0,.string ⟨#[]⟩,.string ⟨#[]⟩,.string ⟨#[]⟩,.slice none 0 0] 71)):=((Below.refl _ W).alloc (Nat.le_refl _) _).alloc (by rw [World.size_alloc]; omega) _;have F:((W.alloc (.cells #[.int .i64 m.kind,.int .i64 m.queue,.int .i64 m.due,.int .i64 m.retry,.int .i64 m.ref,.int .i64 m.born,.string (S m.topic),.string (S m.tag),.string (S m.body),.slice a m.keys.length c] 71)).alloc (.cells #[.int .i64 0,.int .i64 0,.int .i64 0,.int .i64 0,.int .i64 0,.int .i64 0,.string ⟨#[]⟩,.string ⟨#[]⟩,.string ⟨#[]⟩,.slice none 0 0] 71)).heap[W.heap.size]?=some (.cells #[.int .i64 m.kind,.int .i64 m.queue,.int .i64 m.due,.int .i64 m.retry,.int .i64 m.ref,.int .i64 m.born,.string (S m.topic),.string (S m.tag),.string (S m.body),.slice a m.keys.length c] 71 (0,0)):=ag ((Below.refl _ _).alloc (Nat.le_refl _) _) (heap_alloc_new W _)
 have N:((W.alloc (.cells #[.int .i64 m.kind,.int .i64 m.queue,.int .i64 m.due,.int .i64 m.retry,.int .i64 m.ref,.int .i64 m.born,.string (S m.topic),.string (S m.tag),.string (S m.body),.slice a m.keys.length c] 71)).alloc (.cells #[.int .i64 0,.int .i64 0,.int .i64 0,.int .i64 0,.int .i64 0,.int .i64 0,.string ⟨#[]⟩,.string ⟨#[]⟩,.string ⟨#[]⟩,.slice none 0 0] 71)).heap[W.heap.size+1]?=some (.cells #[.int .i64 0,.int .i64 0,.int .i64 0,.int .i64 0,.int .i64 0,.int .i64 0,.string ⟨#[]⟩,.string ⟨#[]⟩,.string ⟨#[]⟩,.slice none 0 0] 71 (0,0)):=by
  have:=heap_alloc_new (W.alloc (.cells #[.int .i64 m.kind,.int .i64 m.queue,.int .i64 m.due,.int .i64 m.retry,.int .i64 m.ref,.int .i64 m.born,.string (S m.topic),.string (S m.tag),.string (S m.body),.slice a m.keys.length c] 71)) (.cells #[.int .i64 0,.int .i64 0,.int .i64 0,.int .i64 0,.int .i64 0,.int .i64 0,.string ⟨#[]⟩,.string ⟨#[]⟩,.string ⟨#[]⟩,.slice none 0 0] 71);rw [World.size_alloc] at this;exact this
 have ab:=zq Z;have U:=zq F;have X:=zq N;have ak:=zq (Strs.below hS Z);have al:=zq (λw (hs:Strs w a (m.keys.map S))=>TagW.afi a c m.keys hk w hs);clear Z F N hS hk;go_enter Tryz.func75,Tryz.ntmps75;go_upto_region 1 with fail
 generalize (W.alloc (.cells #[.int .i64 m.kind,.int .i64 m.queue,.int .i64 m.due,.int .i64 m.retry,.int .i64 m.ref,.int .i64 m.born,.string (S m.topic),.string (S m.tag),.string (S m.body),.slice a m.keys.length c] 71)).alloc (.cells #[.int .i64 0,.int .i64 0,.int .i64 0,.int .i64 0,.int .i64 0,.int .i64 0,.string ⟨#[]⟩,.string ⟨#[]⟩,.string ⟨#[]⟩,.slice none 0 0] 71)=w1 at *
 obtain ⟨A,hA⟩:∃ A,W.heap.size=A:=⟨_,rfl⟩;rw [hA] at U X ⊢;have am:=zq hA;clear hA;have k9:w1.cell? ⟨A,9,none⟩=_:=aa U.o 9 _ rfl;go_wp2_with fail;refine (al.o w1 ak.o).mono ?_;rintro e w2 ⟨v,rfl,R,hb⟩;obtain ⟨a2,I,hv,ac,_⟩:=Row1.of_own R;subst hv;rw [aks] at ac;have F:=ag hb U.o;have N:=ag hb X.o;have an:Zq (Below W.heap.size W w2):=ab.o.trans (hb.mono ab.o.size);have O:Zq ((∀ M,a2=some M->w1.heap.size<=M.block)/\A+2<=w1.heap.size):=⟨λM e=>az R M.block (by subst e; rfl),(Array.getElem?_eq_some_iff.1 X.o).1⟩;have y9:=aa F 9 _ rfl;have z9:=ae F 9;have J:(w2.setCell ⟨A,9,none⟩ (.slice a2 m.keys.length I)).heap[A]?=some (.cells #[.int .i64 m.kind,.int .i64 m.queue,.int .i64 m.due,.int .i64 m.retry,.int .i64 m.ref,.int .i64 m.born,.string (S m.topic),.string (S m.tag),.string (S m.body),.slice a2 m.keys.length I] 71 (0,0)):=heap_setCell_same w2 A 9 _ _ _ F;have Y:Mod (λk=>k=A) w2 (w2.setCell ⟨A,9,none⟩ (.slice a2 m.keys.length I)):=(Mod.refl (λk=>k=A) w2).setCell (a:=⟨A,9,none⟩) (.inl rfl) _;have B:(w2.setCell ⟨A,9,none⟩ (.slice a2 m.keys.length I)).heap[A+1]?=some (.cells #[.int .i64 0,.int .i64 0,.int .i64 0,.int .i64 0,.int .i64 0,.int .i64 0,.string ⟨#[]⟩,.string ⟨#[]⟩,.string ⟨#[]⟩,.slice none 0 0] 71 (0,0)):=(Y.block (A+1) (Array.getElem?_eq_some_iff.1 N).1 (λe=>by omega)).trans N;have H3:=zq J;have H4:=zq B;have av:=zq Y;have a1:Zq (Row1 (w2.setCell ⟨A,9,none⟩ (.slice a2 m.keys.length I)) a2 ((m.keys.map S).map .string)):=Row1.mod ac Y λM e h=>by have h1:=O.o.1 M e; have h2:=O.o.2; omega
 clear R ac hb F N J B Y k9 al ak U X ab;go_upto_region 2 with fail
 clear y9 z9;generalize w2.setCell ⟨A,9,none⟩ (.slice a2 m.keys.length I)=w3 at *
 have J:=H3.o;have B:=H4.o;have k0:w3.cell? ⟨A,0,none⟩=_:=aa J 0 _ rfl;have k1:w3.cell? ⟨A,1,none⟩=_:=aa J 1 _ rfl;have k2:w3.cell? ⟨A,2,none⟩=_:=aa J 2 _ rfl;have k3:w3.cell? ⟨A,3,none⟩=_:=aa J 3 _ rfl;have k4:w3.cell? ⟨A,4,none⟩=_:=aa J 4 _ rfl;have k5:w3.cell? ⟨A,5,none⟩=_:=aa J 5 _ rfl;have k6:w3.cell? ⟨A,6,none⟩=_:=aa J 6 _ rfl;have k7:w3.cell? ⟨A,7,none⟩=_:=aa J 7 _ rfl;have k8:w3.cell? ⟨A,8,none⟩=_:=aa J 8 _ rfl;have k9:w3.cell? ⟨A,9,none⟩=_:=aa J 9 _ rfl;have n0:w3.cell? ⟨A+1,0,none⟩=_:=aa B 0 _ rfl;have n1:w3.cell? ⟨A+1,1,none⟩=_:=aa B 1 _ rfl;have n2:w3.cell? ⟨A+1,2,none⟩=_:=aa B 2 _ rfl;have n3:w3.cell? ⟨A+1,3,none⟩=_:=aa B 3 _ rfl;have n4:w3.cell? ⟨A+1,4,none⟩=_:=aa B 4 _ rfl;have n5:w3.cell? ⟨A+1,5,none⟩=_:=aa B 5 _ rfl;have n6:w3.cell? ⟨A+1,6,none⟩=_:=aa B 6 _ rfl;have n7:w3.cell? ⟨A+1,7,none⟩=_:=aa B 7 _ rfl;have n8:w3.cell? ⟨A+1,8,none⟩=_:=aa B 8 _ rfl;have n9:w3.cell? ⟨A+1,9,none⟩=_:=aa B 9 _ rfl;have z0:=ae B 0;have z1:=ae B 1;have z2:=ae B 2;have z3:=ae B 3;have z4:=ae B 4;have z5:=ae B 5;have z6:=ae B 6;have z7:=ae B 7;have z8:=ae B 8;have z9:=ae B 9;have HH:=zq (kw rfl B (.int .i64 m.kind) (.int .i64 m.queue) (.int .i64 m.due) (.int .i64 m.retry) (.int .i64 m.ref) (.int .i64 m.born) (.string (S m.topic)) (.string (S m.tag)) (.string (S m.body)) (.slice a2 m.keys.length I));have ao:=zq (mf w3 (A+1) (.int .i64 m.kind) (.int .i64 m.queue) (.int .i64 m.due) (.int .i64 m.retry) (.int .i64 m.ref) (.int .i64 m.born) (.string (S m.topic)) (.string (S m.tag)) (.string (S m.body)) (.slice a2 m.keys.length I));clear J B;go_wp2_with fail;clear k0 k1 k2 k3 k4 k5 k6 k7 k8 k9 n0 n1 n2 n3 n4 n5 n6 n7 n8 n9 z0 z1 z2 z3 z4 z5 z6 z7 z8 z9;change bodyPost _ _ _ _ _ (o9 w3 (A+1) (.int .i64 m.kind) (.int .i64 m.queue) (.int .i64 m.due) (.int .i64 m.retry) (.int .i64 m.ref) (.int .i64 m.born) (.string (S m.topic)) (.string (S m.tag)) (.string (S m.body)) (.slice a2 m.keys.length I));generalize o9 w3 (A+1) (.int .i64 m.kind) (.int .i64 m.queue) (.int .i64 m.due) (.int .i64 m.retry) (.int .i64 m.ref) (.int .i64 m.born) (.string (S m.topic)) (.string (S m.tag)) (.string (S m.body)) (.slice a2 m.keys.length I)=w9 at *
 have E:=HH.o;have c0:w9.cell? ⟨A+1,0,none⟩=_:=aa E 0 _ rfl;have c1:w9.cell? ⟨A+1,1,none⟩=_:=aa E 1 _ rfl;have c2:w9.cell? ⟨A+1,2,none⟩=_:=aa E 2 _ rfl;have c3:w9.cell? ⟨A+1,3,none⟩=_:=aa E 3 _ rfl;have c4:w9.cell? ⟨A+1,4,none⟩=_:=aa E 4 _ rfl;have c5:w9.cell? ⟨A+1,5,none⟩=_:=aa E 5 _ rfl;have c6:w9.cell? ⟨A+1,6,none⟩=_:=aa E 6 _ rfl;have c7:w9.cell? ⟨A+1,7,none⟩=_:=aa E 7 _ rfl;have c8:w9.cell? ⟨A+1,8,none⟩=_:=aa E 8 _ rfl;have c9:w9.cell? ⟨A+1,9,none⟩=_:=aa E 9 _ rfl;have a6:Mod (λk=>k=A\/k=A+1) w2 w9:=(av.o.mono λk _ e=>.inl e).trans (ao.o.mono λk _ e=>.inr e);have a7:Below W.heap.size W w9:=an.o.trans (a6.to_below _ an.o.size (λk e=>by have:=am.o; omega));have a8:Strs w9 a2 (m.keys.map S):=Row1.to_strs (Row1.mod a1.o ao.o λM e h=>by have h1:=O.o.1 M e; have h2:=O.o.2; omega);refine bodyPost_ret (v:=.agg #[.int .i64 m.kind,.int .i64 m.queue,.int .i64 m.due,.int .i64 m.retry,.int .i64 m.ref,.int .i64 m.born,.string (S m.topic),.string (S m.tag),.string (S m.body),.slice a2 m.keys.length I]) ?_ rfl ⟨a2,I,rfl,a8,a7,λM e=>by have h1:=O.o.1 M e; have h2:=O.o.2; have:=am.o; omega⟩;clear E;simp [results,Tryz.results75,go_sem,c0,c1,c2,c3,c4,c5,c6,c7,c8,c9]
theorem aj2 {B:Nat} {ty:TypeId} {T:Array Value} {u v:World} (h:Below u.heap.size u v) (hB:B < u.heap.size):LitMap.Sets B ty T u v :=
 ⟨h.mono (Nat.le_of_lt hB),λA hc E=>⟨A,ag h hc,E,λ_=>.inl rfl⟩⟩
def lc (x:lu) (id:Nat) (now:Int) (g:List UInt8):Msg:=⟨2,0,now+2,1,id,now,lw++g,x.tag,x.body,x.keys⟩
theorem amw (x:lu) (hx:zg x) (b now:Int) (idn:Nat) (g:List UInt8) (hg:iq g=true) (hgl:g.length<=100) (hr:bq (jm x 1 0 b)=true) (hid:idn<=99999999) (hn:0<=now/\now<=1000000) (hb:inI b) (a:Option Addr) (c:Nat) (W:World) (hS:Strs W a (x.keys.map S)) :
 Calls Tryz.prog 34 #[.agg (af (jm x 1 0 b) a c),.int .i64 (idn:Int),.string (S g),.int .i64 now] W λe w'=>∃ a2 F,e=.returned (.tuple #[.agg (af (lc x idn now g) a2 F),.int .i64 0])/\Strs w' a2 (x.keys.map S)/\Below W.heap.size W w':=by
 change Calls _ _ #[.agg #[.int .i64 1,.int .i64 x.queue,.int .i64 0,.int .i64 0,.int .i64 0,.int .i64 b,.string (S x.topic),.string (S x.tag),.string (S x.body),.slice a x.keys.length c],_,_,_] _ _;have HG:Zq (∀ w,Calls Tryz.prog 58 #[.string (S g)] w λe w'=>e=.returned (.bool true)/\Below w.heap.size w w'):=λw=>by have:=NameW.tq g (by omega) w; rw [hg] at this; exact this
 have HR:Zq (∀ w,Strs w a (x.keys.map S)->Calls Tryz.prog 73 #[.agg #[.int .i64 1,.int .i64 x.queue,.int .i64 0,.int .i64 0,.int .i64 0,.int .i64 b,.string (S x.topic),.string (S x.tag),.string (S x.body),.slice a x.keys.length c]] w λe w'=>e=.returned (.bool true)/\Below w.heap.size w w'):=λw hs=>by have:=RecW.right_any (jm x 1 0 b) (akt hx (by unfold inI; omega) (by unfold inI; omega) hb) a c w hs; rw [hr] at this; exact this
 have HT:Zq (∀ (w:World) (g0 c0:Nat),w.cell? ⟨g0,0,none⟩=some (.int .i64 (idn:Int))->w.cell? ⟨g0,1,none⟩=some (.int .i64 now)->Calls Tryz.prog 74 #[.slice (some ⟨g0,0,none⟩) 2 c0] w λe w'=>e=.returned (.bool true)/\w'=w):=λw g0 c0 h1 U=>ao9 (idn:Int) now (by omega) (by omega) (by omega) (by omega) g0 c0 w h1 U
 have HC:Zq (∀ w,Strs w a (x.keys.map S)->Calls Tryz.prog 75 #[.agg #[.int .i64 1,.int .i64 x.queue,.int .i64 0,.int .i64 0,.int .i64 0,.int .i64 b,.string (S x.topic),.string (S x.tag),.string (S x.body),.slice a x.keys.length c]] w λe w'=>∃ a2 F,e=.returned (.agg #[.int .i64 1,.int .i64 x.queue,.int .i64 0,.int .i64 0,.int .i64 0,.int .i64 b,.string (S x.topic),.string (S x.tag),.string (S x.body),.slice a2 x.keys.length F])/\Strs w' a2 (x.keys.map S)/\Below w.heap.size w w'/\∀ ad,a2=some ad->w.heap.size<=ad.block):=λw hs=>apa (jm x 1 0 b) hx.keys a c w hs
 have HO:=zq (λw=>amu g hg hgl w);have HD:=zq (λw=>amv w);have b0:IntKind.i64.wrap (now+2)=now+2:=IntWalk.i64_in _ (by omega);have dd:=zq b0;have HE:Zq (∀ a2 F,af (lc x idn now g) a2 F=#[.int .i64 2,.int .i64 0,.int .i64 (now+2),.int .i64 1,.int .i64 (idn:Int),.int .i64 now,.string (S (lw++g)),.string (S x.tag),.string (S x.body),.slice a2 x.keys.length F]):=λa2 F=>rfl
 have b1:Below W.heap.size W ((W.alloc (.cells #[.int .i64 1,.int .i64 x.queue,.int .i64 0,.int .i64 0,.int .i64 0,.int .i64 b,.string (S x.topic),.string (S x.tag),.string (S x.body),.slice a x.keys.length c] 71)).alloc (.cells #[.int .i64 0,.int .i64 0,.int .i64 0,.int .i64 0,.int .i64 0,.int .i64 0,.string ⟨#[]⟩,.string ⟨#[]⟩,.string ⟨#[]⟩,.slice none 0 0] 71)):=((Below.refl _ W).alloc (Nat.le_refl _) _).alloc (by rw [World.size_alloc]; omega) _;have cc:((W.alloc (.cells #[.int .i64 1,.int .i64 x.queue,.int .i64 0,.int .i64 0,.int .i64 0,.int .i64 b,.string (S x.topic),.string (S x.tag),.string (S x.body),.slice a x.keys.length c] 71)).alloc (.cells #[.int .i64 0,.int .i64 0,.int .i64 0,.int .i64 0,.int .i64 0,.int .i64 0,.string ⟨#[]⟩,.string ⟨#[]⟩,.string ⟨#[]⟩,.slice none 0 0] 71)).heap[W.heap.size]?=some (.cells #[.int .i64 1,.int .i64 x.queue,.int .i64 0,.int .i64 0,.int .i64 0,.int .i64 b,.string (S x.topic),.string (S x.tag),.string (S x.body),.slice a x.keys.length c] 71 (0,0)):=ag ((Below.refl _ _).alloc (Nat.le_refl _) _) (heap_alloc_new W _)
 have cd:((W.alloc (.cells #[.int .i64 1,.int .i64 x.queue,.int .i64 0,.int .i64 0,.int .i64 0,.int .i64 b,.string (S x.topic),.string (S x.tag),.string (S x.body),.slice a x.keys.length c] 71)).alloc (.cells #[.int .i64 0,.int .i64 0,.int .i64 0,.int .i64 0,.int .i64 0,.int .i64 0,.string ⟨#[]⟩,.string ⟨#[]⟩,.string ⟨#[]⟩,.slice none 0 0] 71)).heap[W.heap.size+1]?=some (.cells #[.int .i64 0,.int .i64 0,.int .i64 0,.int .i64 0,.int .i64 0,.int .i64 0,.string ⟨#[]⟩,.string ⟨#[]⟩,.string ⟨#[]⟩,.slice none 0 0] 71 (0,0)):=by
  have:=heap_alloc_new (W.alloc (.cells #[.int .i64 1,.int .i64 x.queue,.int .i64 0,.int .i64 0,.int .i64 0,.int .i64 b,.string (S x.topic),.string (S x.tag),.string (S x.body),.slice a x.keys.length c] 71)) (.cells #[.int .i64 0,.int .i64 0,.int .i64 0,.int .i64 0,.int .i64 0,.int .i64 0,.string ⟨#[]⟩,.string ⟨#[]⟩,.string ⟨#[]⟩,.slice none 0 0] 71);rw [World.size_alloc] at this;exact this
 have ce:=zq b1;have al:=zq cc;have a8:=zq cd;have de:=zq (Strs.below hS b1);clear b1 cc cd hS hg hgl hr hid hn hb b0 hx;generalize lw++g=rg at *
 generalize (idn:Int)=id at *
 generalize S g=sg at *
 go_enter Tryz.func34,Tryz.ntmps34;go_upto_region 1 with fail
 generalize (W.alloc (.cells #[.int .i64 1,.int .i64 x.queue,.int .i64 0,.int .i64 0,.int .i64 0,.int .i64 b,.string (S x.topic),.string (S x.tag),.string (S x.body),.slice a x.keys.length c] 71)).alloc (.cells #[.int .i64 0,.int .i64 0,.int .i64 0,.int .i64 0,.int .i64 0,.int .i64 0,.string ⟨#[]⟩,.string ⟨#[]⟩,.string ⟨#[]⟩,.slice none 0 0] 71)=w1 at *
 obtain ⟨A,hA⟩:∃ A,W.heap.size=A:=⟨_,rfl⟩;rw [hA] at al a8 ⊢;have cf:=zq hA;clear hA;go_wp2_with fail;refine (HG.o w1).mono ?_;rintro e w2 ⟨rfl,ba⟩;have b2:=zq ba;have U:=ag ba al.o;have b3:=zq (Strs.below de.o ba);clear ba;have k0:w2.cell? ⟨A,0,none⟩=_:=aa U 0 _ rfl;have k1:w2.cell? ⟨A,1,none⟩=_:=aa U 1 _ rfl;have k2:w2.cell? ⟨A,2,none⟩=_:=aa U 2 _ rfl;have k3:w2.cell? ⟨A,3,none⟩=_:=aa U 3 _ rfl;have k4:w2.cell? ⟨A,4,none⟩=_:=aa U 4 _ rfl;have k5:w2.cell? ⟨A,5,none⟩=_:=aa U 5 _ rfl;have k6:w2.cell? ⟨A,6,none⟩=_:=aa U 6 _ rfl;have k7:w2.cell? ⟨A,7,none⟩=_:=aa U 7 _ rfl;have k8:w2.cell? ⟨A,8,none⟩=_:=aa U 8 _ rfl;have k9:w2.cell? ⟨A,9,none⟩=_:=aa U 9 _ rfl;clear U;go_wp2_with fail;refine (HR.o w2 b3.o).mono ?_;rintro e w3 ⟨rfl,b4⟩;have bp:=zq (b2.o.trans (b4.mono b2.o.size));have cg:=zq (Strs.below b3.o b4);have Z:=ag bp.o al.o;clear b4 b2 b3;clear k0 k1 k2 k3 k4 k5 k6 k7 k8 k9;have k0:w3.cell? ⟨A,0,none⟩=_:=aa Z 0 _ rfl;have k1:w3.cell? ⟨A,1,none⟩=_:=aa Z 1 _ rfl;have k2:w3.cell? ⟨A,2,none⟩=_:=aa Z 2 _ rfl;have k3:w3.cell? ⟨A,3,none⟩=_:=aa Z 3 _ rfl;have k4:w3.cell? ⟨A,4,none⟩=_:=aa Z 4 _ rfl;have k5:w3.cell? ⟨A,5,none⟩=_:=aa Z 5 _ rfl;have k6:w3.cell? ⟨A,6,none⟩=_:=aa Z 6 _ rfl;have k7:w3.cell? ⟨A,7,none⟩=_:=aa Z 7 _ rfl;have k8:w3.cell? ⟨A,8,none⟩=_:=aa Z 8 _ rfl;have k9:w3.cell? ⟨A,9,none⟩=_:=aa Z 9 _ rfl;clear Z;go_wp2_with fail;refine (HT.o _ _ _ (by rw [World.cell?_alloc_new]; rfl) (by rw [World.cell?_alloc_new]; rfl)).mono ?_;rintro e w4 ⟨rfl,he⟩;obtain rfl:=he.symm;have b5:Below w3.heap.size w3 (w3.alloc (.cells #[.int .i64 id,.int .i64 now] 3)):=(Below.refl _ w3).alloc (Nat.le_refl _) _;have ap:=zq (bp.o.trans (b5.mono bp.o.size));have ci:=zq (Strs.below cg.o b5);clear b5 bp cg;generalize w3.alloc (.cells #[.int .i64 id,.int .i64 now] 3)=w4 at *
 have h4:=ag ap.o al.o;clear k0 k1 k2 k3 k4 k5 k6 k7 k8 k9;have k0:w4.cell? ⟨A,0,none⟩=_:=aa h4 0 _ rfl;have k1:w4.cell? ⟨A,1,none⟩=_:=aa h4 1 _ rfl;have k2:w4.cell? ⟨A,2,none⟩=_:=aa h4 2 _ rfl;have k3:w4.cell? ⟨A,3,none⟩=_:=aa h4 3 _ rfl;have k4:w4.cell? ⟨A,4,none⟩=_:=aa h4 4 _ rfl;have k5:w4.cell? ⟨A,5,none⟩=_:=aa h4 5 _ rfl;have k6:w4.cell? ⟨A,6,none⟩=_:=aa h4 6 _ rfl;have k7:w4.cell? ⟨A,7,none⟩=_:=aa h4 7 _ rfl;have k8:w4.cell? ⟨A,8,none⟩=_:=aa h4 8 _ rfl;have k9:w4.cell? ⟨A,9,none⟩=_:=aa h4 9 _ rfl;clear h4;go_wp2_with fail;refine (HC.o w4 ci.o).mono ?_;rintro e w5 ⟨a2,F,rfl,b6,cj,bz⟩;have b7:Below w5.heap.size w5 (w5.alloc (.cells #[.int .i64 1,.int .i64 x.queue,.int .i64 0,.int .i64 0,.int .i64 0,.int .i64 b,.string (S x.topic),.string (S x.tag),.string (S x.body),.slice a2 x.keys.length F] 71)):=(Below.refl _ w5).alloc (Nat.le_refl _) _;have J:=heap_alloc_new w5 (.cells #[.int .i64 1,.int .i64 x.queue,.int .i64 0,.int .i64 0,.int .i64 0,.int .i64 b,.string (S x.topic),.string (S x.tag),.string (S x.body),.slice a2 x.keys.length F] 71);have bs:=zq (ap.o.trans (cj.mono ap.o.size));have bw:=zq (bs.o.trans (b7.mono bs.o.size));have dk:=zq (Strs.below b6 b7)
 have av:Zq (A+2<=w5.heap.size):=by
  have h1:=(Array.getElem?_eq_some_iff.1 a8.o).1;have U:=bs.o.size;show _<=_;omega
 have ck:Zq (∀ ad,a2=some ad->x.keys.map S≠[]->ad.block < w5.heap.size):=λad e dl=>by
  obtain ⟨bb,off,e2,hc⟩:=b6 0 (List.length_pos_iff.2 dl);rw [e] at e2; injection e2 with e2; rw [e2]
  exact ay hc
 have dn:Zq (∀ ad,a2=some ad->A+2<=ad.block):=λad e=>by
  have h1:=(Array.getElem?_eq_some_iff.1 a8.o).1;have U:=ap.o.size;have Z:=bz ad e;omega
 clear cj b7 ap ci b6 bz;go_upto_region 6 with fail
 generalize w5.alloc (.cells #[.int .i64 1,.int .i64 x.queue,.int .i64 0,.int .i64 0,.int .i64 0,.int .i64 b,.string (S x.topic),.string (S x.tag),.string (S x.body),.slice a2 x.keys.length F] 71)=w6 at *
 obtain ⟨B,hB⟩:∃ B,w5.heap.size=B:=⟨_,rfl⟩;rw [hB] at J av ck ⊢;clear hB bs;have H6:=zq J;have M:=ag bw.o al.o;clear k0 k1 k2 k3 k4 k5 k6 k7 k8 k9;have k0:w6.cell? ⟨A,0,none⟩=_:=aa M 0 _ rfl;have k1:w6.cell? ⟨A,1,none⟩=_:=aa M 1 _ rfl;have k2:w6.cell? ⟨A,2,none⟩=_:=aa M 2 _ rfl;have k3:w6.cell? ⟨A,3,none⟩=_:=aa M 3 _ rfl;have k4:w6.cell? ⟨A,4,none⟩=_:=aa M 4 _ rfl;have k5:w6.cell? ⟨A,5,none⟩=_:=aa M 5 _ rfl;have k6:w6.cell? ⟨A,6,none⟩=_:=aa M 6 _ rfl;have k7:w6.cell? ⟨A,7,none⟩=_:=aa M 7 _ rfl;have k8:w6.cell? ⟨A,8,none⟩=_:=aa M 8 _ rfl;have k9:w6.cell? ⟨A,9,none⟩=_:=aa M 9 _ rfl;have u0:w6.cell? ⟨B,0,none⟩=_:=aa J 0 _ rfl;have u1:w6.cell? ⟨B,1,none⟩=_:=aa J 1 _ rfl;have u2:w6.cell? ⟨B,2,none⟩=_:=aa J 2 _ rfl;have u3:w6.cell? ⟨B,3,none⟩=_:=aa J 3 _ rfl;have u4:w6.cell? ⟨B,4,none⟩=_:=aa J 4 _ rfl;have u5:w6.cell? ⟨B,5,none⟩=_:=aa J 5 _ rfl;have u6:w6.cell? ⟨B,6,none⟩=_:=aa J 6 _ rfl;have u7:w6.cell? ⟨B,7,none⟩=_:=aa J 7 _ rfl;have u8:w6.cell? ⟨B,8,none⟩=_:=aa J 8 _ rfl;have u9:w6.cell? ⟨B,9,none⟩=_:=aa J 9 _ rfl;have z0:=ae J 0;have z1:=ae J 1;have z2:=ae J 2;have z3:=ae J 3;have z4:=ae J 4;have z5:=ae J 5;have z6:=ae J 6;have z7:=ae J 7;have z8:=ae J 8;have z9:=ae J 9;have h7:((w6.setCell ⟨B,1,none⟩ (.int .i64 0)).setCell ⟨B,5,none⟩ (.int .i64 now)).heap[B]?=some (.cells #[.int .i64 1,.int .i64 0,.int .i64 0,.int .i64 0,.int .i64 0,.int .i64 now,.string (S x.topic),.string (S x.tag),.string (S x.body),.slice a2 x.keys.length F] 71 (0,0)):=heap_setCell_same _ B 5 _ _ _ (heap_setCell_same w6 B 1 _ _ _ J);have am:Mod (λk=>k=B) w6 ((w6.setCell ⟨B,1,none⟩ (.int .i64 0)).setCell ⟨B,5,none⟩ (.int .i64 now)):=(((Mod.refl (λk=>k=B) w6).setCell (a:=⟨B,1,none⟩) (.inl rfl) _).setCell (a:=⟨B,5,none⟩) (.inl rfl) _);have H7:=zq h7;have cm:=zq am;clear J h7 am M;go_upto_region 7 with fail
 clear k0 k1 k2 k3 k4 k5 k6 k7 k8 k9;clear u0 u1 u2 u3 u4 u5 u6 u7 u8 u9;clear z0 z1 z2 z3 z4 z5 z6 z7 z8 z9;generalize (w6.setCell ⟨B,1,none⟩ (.int .i64 0)).setCell ⟨B,5,none⟩ (.int .i64 now)=w7 at *
 have h7:=H7.o;have am:=cm.o;have cn:w7.heap[A]?=_:=(am.block A (by have h1:=(Array.getElem?_eq_some_iff.1 H6.o).1; have U:=av.o; omega) (λe=>by have U:=av.o; omega)).trans (ag bw.o al.o);have k3:=aa cn 3 _ rfl;have u3:=aa h7 3 _ rfl;have z3:=ae h7 3;have h8:(w7.setCell ⟨B,3,none⟩ (.int .i64 1)).heap[B]?=some (.cells #[.int .i64 1,.int .i64 0,.int .i64 0,.int .i64 1,.int .i64 0,.int .i64 now,.string (S x.topic),.string (S x.tag),.string (S x.body),.slice a2 x.keys.length F] 71 (0,0)):=heap_setCell_same w7 B 3 _ _ _ h7;have co:Mod (λk=>k=B) w6 (w7.setCell ⟨B,3,none⟩ (.int .i64 1)):=am.trans ((Mod.refl (λk=>k=B) w7).setCell (a:=⟨B,3,none⟩) (.inl rfl) _);have H8:=zq h8;have dt:=zq co;clear h7 am cn h8 co H7 cm;go_upto_region 11 with fail
 clear k3 u3 z3;generalize w7.setCell ⟨B,3,none⟩ (.int .i64 1)=w8 at *
 have du:Zq (B < w8.heap.size):=(Array.getElem?_eq_some_iff.1 H8.o).1;have ab:LitMap.ary B 71 10 w8.drew:=⟨_,H8.o,rfl⟩;refine GrowN.aj 16 [none,some (.inl (.string (S rg))),none,none,some (.inl (.int .i64 1)),some (.inl (.int .i64 2)),some (.inl (.int .i64 (now+2))),none,none,some (.inr λ_ _ w=>LitMap.At B 71 #[.int .i64 2,.int .i64 0,.int .i64 (now+2),.int .i64 1,.int .i64 id,.int .i64 now,.string (S rg),.string (S x.tag),.string (S x.body),.slice a2 x.keys.length F] 0 w),none,some (.inr λ_ _ w=>LitMap.At B 71 #[.int .i64 2,.int .i64 0,.int .i64 (now+2),.int .i64 1,.int .i64 id,.int .i64 now,.string (S rg),.string (S x.tag),.string (S x.body),.slice a2 x.keys.length F] 6 w),none,some (.inr λ_ _ w=>LitMap.At B 71 #[.int .i64 2,.int .i64 0,.int .i64 (now+2),.int .i64 1,.int .i64 id,.int .i64 now,.string (S rg),.string (S x.tag),.string (S x.body),.slice a2 x.keys.length F] 2 w),none,some (.inr λ_ _ w=>LitMap.At B 71 #[.int .i64 2,.int .i64 0,.int .i64 (now+2),.int .i64 1,.int .i64 id,.int .i64 now,.string (S rg),.string (S x.tag),.string (S x.body),.slice a2 x.keys.length F] 4 w)] (LitMap.Sets B 71 #[.int .i64 2,.int .i64 0,.int .i64 (now+2),.int .i64 1,.int .i64 id,.int .i64 now,.string (S rg),.string (S x.tag),.string (S x.body),.slice a2 x.keys.length F]) (by kernel_rfl) (by kernel_rfl) (by kernel_rfl) (LitMap.Sets.refl _ _ _) (λ_ _ _=>LitMap.Sets.trans) ?_ ?_
 ·
  intro K hK Y hY l v w w' hR h;simp only [List.mem_cons,List.not_mem_nil,or_false] at hK
  rcases hK with rfl | rfl | rfl | rfl | rfl | rfl | rfl | rfl | rfl | rfl | rfl | rfl | rfl | rfl | rfl | rfl <;> simp only [reduceCtorEq,Option.some.injEq,Sum.inr.injEq] at hY
  all_goals (subst hY; exact LitMap.At.lasts h hR)
 simp only [List.take_succ_cons,List.take_zero,List.drop_succ_cons,List.drop_zero];refine GrowN.g_det rfl ?_;apply Exists.intro;refine ⟨λw X E=>?_,?_⟩
 . clear E
   go_simp;exact ⟨rfl,LitMap.Sets.refl _ _ _ _⟩
 go_frame;refine GrowN.g_con rfl (λw X E=>?_) ?_
 . clear E
   go_simp;exact (HO.o w).mono λe w3 h=>⟨_,h.1,rfl,aj2 h.2 (Nat.lt_of_lt_of_le du.o X.below.size)⟩
 iterate 2
  go_frame;refine GrowN.g_det rfl ?_;apply Exists.intro;refine ⟨λw X E=>?_,?_⟩
  . clear E
    go_simp;exact ⟨rfl,LitMap.Sets.refl _ _ _ _⟩
 go_frame;refine GrowN.g_con rfl (λw X E=>?_) ?_
 ·
  clear E;obtain ⟨cs,cp,_,hq⟩:=X.row _ H8.o rfl;have Z:cs[3]?=some (.int .i64 1):=(hq 3).elim (λe=>e.trans rfl) λe=>e.trans rfl
  have c3:=aa cp 3 _ Z;clear cp hq Z;go_simp
  all_goals exact LitMap.Sets.refl _ _ _ _
 go_frame;refine GrowN.g_con rfl (λw X E=>?_) ?_
 . clear E
   go_simp;exact (HD.o w).mono λe w3 h=>⟨_,h.1,rfl,h.2 ▸ LitMap.Sets.refl _ _ _ _⟩
 go_frame;refine GrowN.g_con rfl (λw X E=>?_) ?_
 ·
  clear E;have b0:=dd.o;go_simp
  all_goals exact LitMap.Sets.refl _ _ _ _
 iterate 2
  go_frame;refine GrowN.g_det rfl ?_;apply Exists.intro;refine ⟨λw X E=>?_,?_⟩
  . clear E
    go_simp;exact ⟨rfl,LitMap.Sets.refl _ _ _ _⟩
 go_frame;refine GrowN.g_new rfl (λw X E=>?_) (λ_=>?_)
 ·
  clear E;obtain ⟨a1,ac,b9,N,ak⟩:=LitMap.Sets.store X ab 0 (.int .i64 2) rfl;go_simp
  all_goals exact ⟨ak,N⟩
 go_frame;refine GrowN.g_det rfl ?_;apply Exists.intro;refine ⟨λw X E=>?_,?_⟩
 . clear E
   go_simp;exact ⟨rfl,LitMap.Sets.refl _ _ _ _⟩
 go_frame;refine GrowN.g_new rfl (λw X E=>?_) (λ_=>?_)
 ·
  clear E;obtain ⟨a1,ac,b9,N,ak⟩:=LitMap.Sets.store X ab 6 (.string (S rg)) rfl;go_simp
  all_goals exact ⟨ak,N⟩
 go_frame;refine GrowN.g_det rfl ?_;apply Exists.intro;refine ⟨λw X E=>?_,?_⟩
 . clear E
   go_simp;exact ⟨rfl,LitMap.Sets.refl _ _ _ _⟩
 go_frame;refine GrowN.g_new rfl (λw X E=>?_) (λ_=>?_)
 ·
  clear E;obtain ⟨a1,ac,b9,N,ak⟩:=LitMap.Sets.store X ab 2 (.int .i64 (now+2)) rfl;go_simp
  all_goals exact ⟨ak,N⟩
 go_frame;refine GrowN.g_det rfl ?_;apply Exists.intro;refine ⟨λw X E=>?_,?_⟩
 . clear E
   go_simp;exact ⟨rfl,LitMap.Sets.refl _ _ _ _⟩
 go_frame;refine GrowN.g_new rfl (λw X E=>?_) (λ_=>?_)
 ·
  clear E;obtain ⟨a1,ac,b9,N,ak⟩:=LitMap.Sets.store X ab 4 (.int .i64 id) rfl;go_simp
  all_goals exact ⟨ak,N⟩
 go_frame;refine GrowN.g_nil λI ca E=>?_
 have dv:Zq (I.heap[B]?=some (.cells #[.int .i64 2,.int .i64 0,.int .i64 (now+2),.int .i64 1,.int .i64 id,.int .i64 now,.string (S rg),.string (S x.tag),.string (S x.body),.slice a2 x.keys.length F] 71 (0,0))):=LitMap.Sets.done ca H8.o rfl (λi hi=>match i,hi with
  | 0,_=>.inr (E (9,LitMap.At B 71 #[.int .i64 2,.int .i64 0,.int .i64 (now+2),.int .i64 1,.int .i64 id,.int .i64 now,.string (S rg),.string (S x.tag),.string (S x.body),.slice a2 x.keys.length F] 0) (by simp only [List.mem_cons,true_or,or_true]))
  | 1,_=>.inl rfl
  | 2,_=>.inr (E (13,LitMap.At B 71 #[.int .i64 2,.int .i64 0,.int .i64 (now+2),.int .i64 1,.int .i64 id,.int .i64 now,.string (S rg),.string (S x.tag),.string (S x.body),.slice a2 x.keys.length F] 2) (by simp only [List.mem_cons,true_or,or_true]))
  | 3,_=>.inl rfl
  | 4,_=>.inr (E (15,LitMap.At B 71 #[.int .i64 2,.int .i64 0,.int .i64 (now+2),.int .i64 1,.int .i64 id,.int .i64 now,.string (S rg),.string (S x.tag),.string (S x.body),.slice a2 x.keys.length F] 4) (by simp only [List.mem_cons,true_or,or_true]))
  | 5,_=>.inl rfl
  | 6,_=>.inr (E (11,LitMap.At B 71 #[.int .i64 2,.int .i64 0,.int .i64 (now+2),.int .i64 1,.int .i64 id,.int .i64 now,.string (S rg),.string (S x.tag),.string (S x.body),.slice a2 x.keys.length F] 6) (by simp only [List.mem_cons,true_or,or_true]))
  | 7,_=>.inl rfl
  | 8,_=>.inl rfl
  | 9,_=>.inl rfl
  | i+10,h=>absurd h (by simp))
 have cr:Below B w8 I:=((Below.refl B w8).drew).trans ca.below;have cv:Below B w6 I:=(dt.o.to_below B (Nat.le_of_lt (Array.getElem?_eq_some_iff.1 H6.o).1) (λk e=>by omega)).trans cr;have cb:=zq cv;clear E ca ab cr cv;have h9:=dv.o;have R:I.heap[A+1]?=some (.cells #[.int .i64 0,.int .i64 0,.int .i64 0,.int .i64 0,.int .i64 0,.int .i64 0,.string ⟨#[]⟩,.string ⟨#[]⟩,.string ⟨#[]⟩,.slice none 0 0] 71 (0,0)):=(cb.o.block (A+1) (by have:=av.o; omega)).trans (ag bw.o a8.o);have k0:I.cell? ⟨B,0,none⟩=_:=aa h9 0 _ rfl;have k1:I.cell? ⟨B,1,none⟩=_:=aa h9 1 _ rfl;have k2:I.cell? ⟨B,2,none⟩=_:=aa h9 2 _ rfl;have k3:I.cell? ⟨B,3,none⟩=_:=aa h9 3 _ rfl;have k4:I.cell? ⟨B,4,none⟩=_:=aa h9 4 _ rfl;have k5:I.cell? ⟨B,5,none⟩=_:=aa h9 5 _ rfl;have k6:I.cell? ⟨B,6,none⟩=_:=aa h9 6 _ rfl;have k7:I.cell? ⟨B,7,none⟩=_:=aa h9 7 _ rfl;have k8:I.cell? ⟨B,8,none⟩=_:=aa h9 8 _ rfl;have k9:I.cell? ⟨B,9,none⟩=_:=aa h9 9 _ rfl;have n0:I.cell? ⟨A+1,0,none⟩=_:=aa R 0 _ rfl;have n1:I.cell? ⟨A+1,1,none⟩=_:=aa R 1 _ rfl;have n2:I.cell? ⟨A+1,2,none⟩=_:=aa R 2 _ rfl;have n3:I.cell? ⟨A+1,3,none⟩=_:=aa R 3 _ rfl;have n4:I.cell? ⟨A+1,4,none⟩=_:=aa R 4 _ rfl;have n5:I.cell? ⟨A+1,5,none⟩=_:=aa R 5 _ rfl;have n6:I.cell? ⟨A+1,6,none⟩=_:=aa R 6 _ rfl;have n7:I.cell? ⟨A+1,7,none⟩=_:=aa R 7 _ rfl;have n8:I.cell? ⟨A+1,8,none⟩=_:=aa R 8 _ rfl;have n9:I.cell? ⟨A+1,9,none⟩=_:=aa R 9 _ rfl;have z0:=ae R 0;have z1:=ae R 1;have z2:=ae R 2;have z3:=ae R 3;have z4:=ae R 4;have z5:=ae R 5;have z6:=ae R 6;have z7:=ae R 7;have z8:=ae R 8;have z9:=ae R 9;have HH:=zq (kw rfl R (.int .i64 2) (.int .i64 0) (.int .i64 (now+2)) (.int .i64 1) (.int .i64 id) (.int .i64 now) (.string (S rg)) (.string (S x.tag)) (.string (S x.body)) (.slice a2 x.keys.length F));have cw:=zq (mf I (A+1) (.int .i64 2) (.int .i64 0) (.int .i64 (now+2)) (.int .i64 1) (.int .i64 id) (.int .i64 now) (.string (S rg)) (.string (S x.tag)) (.string (S x.body)) (.slice a2 x.keys.length F));clear h9 R;go_wp2_with fail;clear k0 k1 k2 k3 k4 k5 k6 k7 k8 k9 n0 n1 n2 n3 n4 n5 n6 n7 n8 n9 z0 z1 z2 z3 z4 z5 z6 z7 z8 z9;change bodyPost _ _ _ _ _ (o9 I (A+1) (.int .i64 2) (.int .i64 0) (.int .i64 (now+2)) (.int .i64 1) (.int .i64 id) (.int .i64 now) (.string (S rg)) (.string (S x.tag)) (.string (S x.body)) (.slice a2 x.keys.length F));generalize o9 I (A+1) (.int .i64 2) (.int .i64 0) (.int .i64 (now+2)) (.int .i64 1) (.int .i64 id) (.int .i64 now) (.string (S rg)) (.string (S x.tag)) (.string (S x.body)) (.slice a2 x.keys.length F)=w9 at *
 have O:=HH.o;have c0:w9.cell? ⟨A+1,0,none⟩=_:=aa O 0 _ rfl;have c1:w9.cell? ⟨A+1,1,none⟩=_:=aa O 1 _ rfl;have c2:w9.cell? ⟨A+1,2,none⟩=_:=aa O 2 _ rfl;have c3:w9.cell? ⟨A+1,3,none⟩=_:=aa O 3 _ rfl;have c4:w9.cell? ⟨A+1,4,none⟩=_:=aa O 4 _ rfl;have c5:w9.cell? ⟨A+1,5,none⟩=_:=aa O 5 _ rfl;have c6:w9.cell? ⟨A+1,6,none⟩=_:=aa O 6 _ rfl;have c7:w9.cell? ⟨A+1,7,none⟩=_:=aa O 7 _ rfl;have c8:w9.cell? ⟨A+1,8,none⟩=_:=aa O 8 _ rfl;have c9:w9.cell? ⟨A+1,9,none⟩=_:=aa O 9 _ rfl
 have dx:Below W.heap.size W w9:=by
  have h1:Below W.heap.size W w6:=ce.o.trans (bw.o.mono ce.o.size);have U:Below W.heap.size w6 I:=cb.o.mono (by have:=av.o; have:=cf.o; omega);have Z:=h1.trans U;exact Z.trans (cw.o.to_below _ Z.size (λk e=>by have:=cf.o; omega))
 have dy:Strs w9 a2 (x.keys.map S):=by
  intro i hi;obtain ⟨bb,off,e,hc⟩:=dk.o i hi;refine ⟨bb,off,e,?_⟩;have dz:bb < B:=ck.o ⟨bb,off,none⟩ e (λh=>by rw [h] at hi; exact absurd hi (by simp));have cx:I.cell? ⟨bb,off+i,none⟩=some (.string (x.keys.map S)[i]):=by rw [cb.o.cell (p:=⟨bb,off+i,none⟩) dz]; exact hc
  have hq:bb≠A+1:=λh=>by have U:A+2<=bb:=dn.o ⟨bb,off,none⟩ e; omega
  rw [cw.o.cell (p:=⟨bb,off+i,none⟩) (ay cx) hq]; exact cx
 refine bodyPost_ret (v:=.tuple #[.agg #[.int .i64 2,.int .i64 0,.int .i64 (now+2),.int .i64 1,.int .i64 id,.int .i64 now,.string (S rg),.string (S x.tag),.string (S x.body),.slice a2 x.keys.length F],.int .i64 0]) ?_ rfl ⟨a2,F,by rw [HE.o],dy,dx⟩;clear O;simp [results,Tryz.results34,go_sem,c0,c1,c2,c3,c4,c5,c6,c7,c8,c9]
end RetW
end Go.Proofs.YtckjigopecocaaaGreatDoor
