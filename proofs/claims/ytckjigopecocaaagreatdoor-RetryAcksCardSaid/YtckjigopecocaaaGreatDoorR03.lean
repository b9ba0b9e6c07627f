/- disk: a file's bytes are written anew; the row of writes that wait grows. And what follows. -/
import Derived.Test.YtckjigopecocaaaGreatDoorR02
import Derived.Maps.AppendAt
import Derived.LaidEqlPtr
import Derived.Deep.RegionHeld3
import Derived.Lib.AppendZeros
set_option linter.unusedVariables false
set_option linter.unusedSimpArgs false
set_option maxHeartbeats 25600000
set_option maxRecDepth 100000
namespace Go.Proofs.YtckjigopecocaaaGreatDoor
namespace DskW
open Go.RowKit Go.MapKept Go.ChangeMaps OctMath
def fe (l:List (List UInt8×FileD)) (n:List UInt8) (t:List UInt8):List (List UInt8×FileD):=l.map λp=>if p.1=n then (p.1,{ p.2 with now:=t }) else p
theorem aa7 (l:List (List UInt8×FileD)) (n t:List UInt8):(fe l n t).map (·.1)=l.map (·.1):=by
 unfold fe; rw [List.map_map]; apply List.map_congr_left; intro p _; show (if p.1=n then _ else p).1=_; split <;> rfl
theorem aiq (l:List (List UInt8×FileD)) (n t:List UInt8):(fe l n t).map (·.2.blk)=l.map (·.2.blk):=by
 unfold fe; rw [List.map_map]; apply List.map_congr_left; intro p _; show (if p.1=n then _ else p).2.blk=_; split <;> rfl
theorem air (l:List (List UInt8×FileD)) (n t:List UInt8):(fe l n t).map (λp=>(Value.string (S p.1),Value.pointer (some ⟨p.2.blk,0,none⟩)))=l.map (λp=>(Value.string (S p.1),Value.pointer (some ⟨p.2.blk,0,none⟩))):=by
 unfold fe; rw [List.map_map]; apply List.map_congr_left; intro p _; show ((Value.string (S (if p.1=n then _ else p).1),Value.pointer (some ⟨(if p.1=n then _ else p).2.blk,0,none⟩)):Value×Value)=_; split <;> rfl
theorem ql {l:List (List UInt8×FileD)} {n t:List UInt8} {q:List UInt8×FileD} (h:q∈fe l n t):∃ p∈l,q.2.blk=p.2.blk/\q.1=p.1/\q.2.img=p.2.img/\(p.1=n->q.2.now=t)/\(p.1≠n->q=p):=by
 obtain ⟨p,hp,rfl⟩:=List.mem_map.1 h
 by_cases e:p.1=n
 . rw [if_pos e]; exact ⟨p,hp,rfl,rfl,rfl,λ_=>rfl,λh=>absurd e h⟩
 . rw [if_neg e]; exact ⟨p,hp,rfl,rfl,rfl,λh=>absurd h e,λ_=>rfl⟩
theorem ady {l:List (List UInt8×FileD)} {n t:List UInt8} {p:List UInt8×FileD} (h:p∈l):∃ q∈fe l n t,q.2.blk=p.2.blk :=
 ⟨_,List.mem_map.2 ⟨p,h,rfl⟩,by show (if p.1=n then _ else p).2.blk=_; split <;> rfl⟩
theorem aap:∀ (l:List (List UInt8×FileD)) (n t:List UInt8) (f:FileD),(l.map (·.1)).Nodup->(n,f)∈l->gp (fe l n t)+f.now.length=gp l+t.length:=by
 intro l
 induction l with
 | nil=>intro n t f _ h; cases h
 | cons x l ih =>
   intro n t f E F;simp only [List.map_cons,List.nodup_cons] at E;have A:∀ (y:List UInt8×FileD) (l:List (List UInt8×FileD)),gp (y :: l)=y.2.now.length+gp l:=λy l=>by unfold gp; simp
   have B:fe (x :: l) n t=(if x.1=n then (x.1,{ x.2 with now:=t }) else x) :: fe l n t:=rfl;rw [B,A,A]
   rcases List.mem_cons.1 F with e | F
   ·
    subst e;rw [if_pos rfl]
    have J:fe l n t=l:=by
     unfold fe
     conv=>rhs; rw [<- List.map_id l]
     apply List.map_congr_left;intro p hp;rw [if_neg (λe=>E.1 (by rw [<- e]; exact List.mem_map.2 ⟨p,hp,rfl⟩))]; rfl
    rw [J];show t.length+_+_=_;simp only;omega
   . have I:x.1≠n:=λe=>E.1 (by rw [e]; exact List.mem_map.2 ⟨_,F,rfl⟩)
     rw [if_neg I];have:=ih n t f E.2 F;omega
theorem DiskAt.set_now {base:Nat} {w:World} {D:DiskD} (h:DiskAt base w D) {n:List UInt8} {f:FileD} (hf:(n,f)∈D.files) (t:List UInt8) (hfit:((gp (fe D.files n t):Nat):Int)<=D.cap) :
 DiskAt base (w.setCell ⟨f.blk,1,none⟩ (.string (S t))) { D with files:=fe D.files n t }/\Mod D.foot w (w.setCell ⟨f.blk,1,none⟩ (.string (S t))):=by
 have Z:Mod (λk=>k=f.blk) w (w.setCell ⟨f.blk,1,none⟩ (.string (S t))):=jv _ _ _ _;have U:Mod D.foot w (w.setCell ⟨f.blk,1,none⟩ (.string (S t))):=Z.mono (λk _ hk=>.inr (.inr (.inl ⟨_,hf,hk⟩)));have key:∀ k,D.foot k->k≠f.blk->(w.setCell ⟨f.blk,1,none⟩ (.string (S t))).heap[k]?=w.heap[k]?:=λk hk B=>Z.block k (h.lt hk) B
 have E:(w.setCell ⟨f.blk,1,none⟩ (.string (S t))).heap[f.blk]?=some (.cells #[.string (S f.img),.string (S t)] 312 (0,0)):=heap_set1 (h.file _ hf) _ rfl;have J:=h.apart.2.1 _ hf;obtain ⟨es,c,m1,m2,m3⟩:=h.map;refine ⟨⟨(key _ (.inl rfl) (λe=>J.1 e.symm)).trans h.head,⟨es,c,(key _ (.inr (.inl rfl)) (λe=>J.2 e.symm)).trans m1,m2,by rw [m3]; exact (air _ _ _).symm⟩,λq F=>?_,?_,by show ((fe D.files n t).map (·.1)).Nodup; rw [aa7]; exact h.names,by show ((fe D.files n t).map (·.2.blk)).Nodup; rw [aiq]; exact h.blocks,⟨h.apart.1,λq F=>?_,λk hk=>⟨(h.apart.2.2 k hk).1,(h.apart.2.2 k hk).2.1,λq F=>?_⟩⟩,⟨h.above.1,h.above.2.1,λq F=>?_⟩,h.ints,hfit,λx hx=>by obtain ⟨p,hp,e⟩:=h.waitf x hx; rw [<- e]; exact ady hp⟩,U⟩
 ·
  obtain ⟨p,hp,hb,h1,M,h3,h4⟩:=ql F
  by_cases e:p.1=n
  ·
   have N:p=(n,f):=by
    have h5:=qz D.files h.blocks
    have:∀ (l:List (List UInt8×FileD)),(l.map (·.1)).Nodup->∀ a∈l,∀ b∈l,a.1=b.1->a=b:=by
     intro l
     induction l with
     | nil=>intro _ a X; cases X
     | cons x l ih =>
       intro R a X b hb I;simp only [List.map_cons,List.nodup_cons] at R
       rcases List.mem_cons.1 X with e1 | h1
       . rcases List.mem_cons.1 hb with O | M
         . rw [e1,O]
         . exact absurd (show x.1∈l.map (·.1) from List.mem_map.2 ⟨b,M,by rw [<- e1]; exact I.symm⟩) R.1
       . rcases List.mem_cons.1 hb with O | M
         . exact absurd (show x.1∈l.map (·.1) from List.mem_map.2 ⟨a,h1,by rw [<- O]; exact I⟩) R.1
         . exact ih R.2 a h1 b M I
    exact this _ h.names p hp _ hf e
   have Y:q.2.cells=#[.string (S f.img),.string (S t)]:=by
    show #[Value.string (S q.2.img),Value.string (S q.2.now)]=_;rw [M,h3 e,N]
   rw [hb,Y,N]; exact E
  ·
   rw [h4 e]
   have B:p.2.blk≠f.blk:=λO=>by
    have a1:=qz D.files h.blocks p hp;have a2:=qz D.files h.blocks _ hf;simp only at a2;rw [O,a2] at a1;have:(n,f)=p:=Option.some.inj a1;exact e (by rw [<- this])
   exact (key _ (.inr (.inr (.inl ⟨p,hp,rfl⟩))) B).trans (h.file p hp)
 ·
  refine ⟨h.row.1,?_⟩
  rcases h.row.2 with h0 | ⟨g,cap,cur,e,hb,hg,r⟩
  . exact .inl h0
  . have A:D.wv.ownBlock=some g:=by rw [e]; rfl
    exact .inr ⟨g,cap,cur,e,hb,(key g (.inr (.inr (.inr A))) ((h.apart.2.2 g A).2.2 _ hf)).trans hg,r⟩
 . obtain ⟨p,hp,hb,_⟩:=ql F
   rw [hb]; exact h.apart.2.1 p hp
 . obtain ⟨p,hp,hb,_⟩:=ql F
   rw [hb]; exact (h.apart.2.2 k hk).2.2 p hp
 . obtain ⟨p,hp,hb,_⟩:=ql F
   rw [hb]; exact h.above.2.2 p hp
theorem DiskAt.set_waits {base:Nat} {w w1:World} {D:DiskD} (h:DiskAt base w D) (wv:Value) (ws:List WriteD) (hg:w.grownBy w1 D.wv.ownBlock)
 (hrow:w1.ownsRow base 315 3 wv ws.length (dw ws)) (hfr:∀ k,wv.ownBlock=some k->D.wv.ownBlock=some k\/w.heap.size<=k) (hwf:∀ x∈ws,∃ p∈D.files,p.2.blk=x.blk) :
 DiskAt base (w1.setCell ⟨D.blk,3,none⟩ wv) { D with wv:=wv,waits:=ws }/\Mod D.foot w (w1.setCell ⟨D.blk,3,none⟩ wv):=by
 have A:∀ k,D.foot k->D.wv.ownBlock≠some k->w1.heap[k]?=w.heap[k]?:=λk hk F=>hg.block k (h.lt hk) (λe=>F e.symm)
 have B:∀ k,D.wv.ownBlock=some k->k≠D.blk/\k≠D.mB/\∀ p∈D.files,k≠p.2.blk:=h.apart.2.2;have I:w1.heap[D.blk]?=some (.cells D.head 67 (0,0)):=(A _ (.inl rfl) (λe=>(B _ e).1 rfl)).trans h.head
 have F:∀ k,wv.ownBlock=some k->k≠D.blk/\k≠D.mB/\∀ p∈D.files,k≠p.2.blk:=λk hk=>by
  rcases hfr k hk with e | e
  . exact B k e
  . refine ⟨λJ=>?_,λJ=>?_,λp hp J=>?_⟩
    . have:=h.lt (k:=k) (.inl J); omega
    . have:=h.lt (k:=k) (.inr (.inl J)); omega
    . have:=h.lt (k:=k) (.inr (.inr (.inl ⟨p,hp,J⟩))); omega
 have E:∀ k,k≠D.blk->(w1.setCell ⟨D.blk,3,none⟩ wv).heap[k]?=w1.heap[k]?:=λk hk=>Below.heap_setCell _ _ _ _ (λe=>hk e)
 obtain ⟨es,c,m1,m2,m3⟩:=h.map;refine ⟨⟨heap_set1 I _ rfl,⟨es,c,?_,m2,m3⟩,λp hp=>?_,?_,h.names,h.blocks,⟨h.apart.1,h.apart.2.1,F⟩,h.above,h.ints,h.fits,hwf⟩,?_⟩
 . exact ((E _ (λe=>h.apart.1 e.symm)).trans (A _ (.inr (.inl rfl)) (λe=>(B _ e).2.1 rfl))).trans m1
 . exact ((E _ (h.apart.2.1 p hp).1).trans (A _ (.inr (.inr (.inl ⟨p,hp,rfl⟩))) (λe=>(B _ e).2.2 p hp rfl))).trans (h.file p hp)
 ·
  refine ⟨hrow.1,?_⟩
  rcases hrow.2 with h0 | ⟨g,cap,cur,e,hb,hgg,r⟩
  . exact .inl h0
  . have N:wv.ownBlock=some g:=by rw [e]; rfl
    exact .inr ⟨g,cap,cur,e,hb,(E g (F g N).1).trans hgg,r⟩
 . have h1:Mod D.foot w w1:=⟨hg.os,hg.tape,hg.output,hg.size,λk hk M=>hg.block k hk (λe=>M (.inr (.inr (.inr e.symm))))⟩
   exact h1.setCell (.inl (.inl rfl)) _
theorem akd (D:DiskD):∃ L Dn,D.burn={ D with left:=L,down:=Dn }:=by
 unfold DiskD.burn
 split
 . exact ⟨-1,true,rfl⟩
 . split
   . exact ⟨D.left - 1,D.down,rfl⟩
   . exact ⟨D.left,D.down,rfl⟩
theorem lq {w:World} {base n sz:Nat} {e:TypeId} {v:Value} {xs:List Value} (h:w.ownsRow base e sz v n xs):∃ a cp,v=.slice a n cp:=by
 rcases h.2 with ⟨rfl,rfl⟩ | ⟨g,cap,cur,rfl,_⟩
 . exact ⟨none,0,rfl⟩
 . exact ⟨_,_,rfl⟩
theorem af2 {base:Nat} {w:World} {D:DiskD} (h:DiskAt base w D) (x:WriteD) (hx:∃ p∈D.files,p.2.blk=x.blk) (hwl:D.waits.length<=1048576) (hbase:base<=w.heap.size) :
 ∃ F A,(Builtin.append_ #[65,65] 65 #[D.wv,.slice (some ⟨w.heap.size,0,none⟩) 1 1]).run Tryz.prog (w.alloc (.cells #[.pointer (some ⟨x.blk,0,none⟩),.int .i64 (x.pos:Int),.string (S x.txt)] 315))=.ok F A /\
  DiskAt base (A.setCell ⟨D.blk,3,none⟩ F) { D with wv:=F,waits:=D.waits++[x] }/\Mod D.foot w (A.setCell ⟨D.blk,3,none⟩ F)/\(∃ a cp,F=.slice a (D.waits.length+1) cp) /\
  (∃ u,A.cell? ⟨D.blk,3,none⟩=some u)/\A.frozen? ⟨D.blk,3,none⟩=false/\∀ k,F.ownBlock=some k->D.foot k\/w.heap.size<=k:=by
 have J:Below w.heap.size w (w.alloc (.cells #[.pointer (some ⟨x.blk,0,none⟩),.int .i64 (x.pos:Int),.string (S x.txt)] 315)):=(Below.refl _ _).alloc (Nat.le_refl _) _;have B:=h.below J
 obtain ⟨i0,X,Y,Z,ab⟩:∃ i,Tryz.prog.info? 315=some i/\i.zero=some (.agg #[.pointer none,.int .i64 0,.string ⟨#[]⟩])/\i.size=3/\i.bytes=32:=by
  have:=(show (Tryz.prog.info? 315).map (λi=>(i.zero,i.size,i.bytes))=some (some (.agg #[.pointer none,.int .i64 0,.string ⟨#[]⟩]),3,32) by kernel_rfl)
  cases hh:Tryz.prog.info? 315 with
  | none=>rw [hh] at this; cases this
  | some i=>rw [hh] at this; have N:=Option.some.inj this; exact ⟨i,rfl,congrArg (·.1) N,congrArg (·.2.1) N,congrArg (·.2.2) N⟩
 obtain ⟨F,A,hr,I,O,_,R⟩:=run_append_own_at (P:=Tryz.prog) _ base 65 65 315 i0 (.agg #[.pointer none,.int .i64 0,.string ⟨#[]⟩]) 3 32 Tryz.underlying65 X Y Z ab rfl (by omega) _ _ _ B.row
  ⟨w.heap.size,0,none⟩ 1 1 x.cells rfl (λj u hu=>by
   have U:(⟨w.heap.size,0,none⟩:Addr).add j=⟨w.heap.size,j,none⟩:=by unfold Addr.add; split <;> simp_all
   rw [U,World.cell?_alloc_new]
   match j,hu with
   | 0,hu=>exact hu
   | 1,hu=>exact hu
   | 2,hu=>exact hu
   | j+3,hu=>cases hu) (λu hu=>by
   simp only [WriteD.cells,List.mem_cons,List.not_mem_nil,or_false] at hu
   rcases hu with rfl | rfl | rfl <;> rfl) (by unfold maxLen; omega) (by omega) (Nat.le_trans hbase J.size)
 have ac:dw D.waits++x.cells=dw (D.waits++[x]):=by unfold dw; simp
 have M:A.ownsRow base 315 3 F (D.waits++[x]).length (dw (D.waits++[x])):=by rw [<- ac,List.length_append]; exact I
 have ad:(w.alloc (.cells #[.pointer (some ⟨x.blk,0,none⟩),.int .i64 (x.pos:Int),.string (S x.txt)] 315)).heap.size=w.heap.size+1:=World.size_alloc _ _
 obtain ⟨h1,N⟩:=B.set_waits F (D.waits++[x]) O M (λk hk=>by
  rcases R with e | e
  . exact .inl (e ▸ hk)
  . rw [e] at hk; cases hk; exact .inr (Nat.le_refl _)) (λy hy=>by
  rcases List.mem_append.1 hy with h1 | h1
  . exact h.waitf y h1
  . rw [List.mem_singleton] at h1; subst h1; exact hx)
 have E:A.heap[D.blk]?=some (.cells D.head 67 (0,0)):=(O.block _ (B.lt (.inl rfl)) (λe=>(B.apart.2.2 _ e.symm).1 rfl)).trans B.head;refine ⟨F,A,hr,h1,(Mod.of_below J).trans N,lq I,⟨D.wv,?_⟩,?_,λk hk=>?_⟩
 . unfold World.cell?; rw [show A.heap[(⟨D.blk,3,none⟩:Addr).block]?=_ from E]; rfl
 . unfold World.frozen?; rw [show A.heap[(⟨D.blk,3,none⟩:Addr).block]?=_ from E]; rfl
 . rcases R with e | e
   . exact .inl (.inr (.inr (.inr (e ▸ hk))))
   . rw [e] at hk; cases hk; right; omega
def DiskD.fitB (D:DiskD) (f:FileD) (o:Int) (t:List UInt8):Int:=if o < 0\/(f.now.length:Int) < o then 2 else if D.room < o+(t.length:Int) - (f.now.length:Int) then 7 else 0
def DiskD.writeE (D:DiskD) (n:List UInt8) (o:Int) (t:List UInt8):Int :=
 if D.bars [n]=0 then (match D.find n with | none=>9 | some f=>if D.fitB f o t=0 then D.done else D.fitB f o t) else D.bars [n]
def DiskD.write (D:DiskD) (n:List UInt8) (o:Int) (t:List UInt8) (wv:Value):DiskD :=
 if D.bars [n]=0 then (match D.find n with
  | none=>D
  | some f=>if D.fitB f o t=0 then (if D.left=0\/t=[] then D.burn else { D.burn with files:=fe D.files n (laidL f.now o.toNat t),wv:=wv,waits:=D.waits++[⟨f.blk,o.toNat,t⟩] }) else D)
 else D
theorem aaq {base:Nat} {D:DiskD} (n:List UInt8) (o:Int) (ho : -9223372036854775808<=o/\o<=9223372036854775807) (t:List UInt8) (ht:t.length<=1099511627776) (hwl:D.waits.length<=1048576) (w:World) (h:DiskAt base w D) (hbase:base<=w.heap.size) :
 Calls Tryz.prog 160 #[.pointer (some ⟨D.blk,0,none⟩),.string (S n),.int .i64 o,.string (S t)] w λe w'=>∃ wv,e=.returned (.int .i64 (D.writeE n o t))/\DiskAt base w' (D.write n o t wv)/\Mod D.foot w w'/\∀ k,(D.write n o t wv).foot k->D.foot k\/w.heap.size<=k:=by
 have X:Zq (Below w.heap.size w (w.alloc (.cells #[.string (S n)] 9))):=(Below.refl _ _).alloc (Nat.le_refl _) _;have hd:=h.below X.o;have a7:=zq (bars_any (some ⟨w.heap.size,0,none⟩) 1 [n] (by simp) _ hd (row_one w n _));have Z:=kr hd n;have c2:(w.alloc (.cells #[.string (S n)] 9)).cell? ⟨D.blk,2,none⟩=some (.map (some D.mB)):=hd.cell 2 _ rfl;have E:=zq hd;have F:Zq (D.writeE n o t=if D.bars [n]=0 then (match D.find n with | none=>9 | some f=>if D.fitB f o t=0 then D.done else D.fitB f o t) else D.bars [n]):=rfl;have B:Zq (∀ wv,D.write n o t wv=if D.bars [n]=0 then (match D.find n with | none=>D | some f=>if D.fitB f o t=0 then (if D.left=0\/t=[] then D.burn else { D.burn with files:=fe D.files n (laidL f.now o.toNat t),wv:=wv,waits:=D.waits++[⟨f.blk,o.toNat,t⟩] }) else D) else D):=λ_=>rfl
 have cr:=au;have cs:=S_toList;rw [ul] at a7 F B;have bl:Zq (w.heap.size<=(w.alloc (.cells #[.string (S n)] 9)).heap.size):=X.o.size;clear h hd;go_enter Tryz.func160,Tryz.ntmps160;go_wp2_with fail;refine a7.o.mono ?_;rintro e w1 ⟨rfl,rfl⟩;clear a7;generalize hw1:w.alloc (.cells #[.string (S n)] 9)=w1 at *
 clear hw1
 cases hdn:D.down with
 | true =>
   rw [hdn] at F B;go_wp2_with fail;go_ret;exact ⟨D.wv,by rw [F.o]; rfl,by rw [B.o,if_neg (by simp)]; exact E.o,Mod.of_below X.o,λk hk=>by rw [B.o,if_neg (by simp)] at hk; exact .inl hk⟩
 | false =>
   rw [hdn] at F B;clear hdn
   cases hf:D.find n with
   | none =>
     rw [hf] at F B;go_wp2_with fail;go_ret;exact ⟨D.wv,by rw [F.o]; rfl,by rw [B.o,if_neg (by simp)]; exact E.o,Mod.of_below X.o,λk hk=>by rw [B.o,if_neg (by simp)] at hk; exact .inl hk⟩
   | some f =>
     have ap:=nz hf;have I:=zq ap;have bm:=E.o.now hf;have cv:f.now.length<=16777216:=by have:=E.o.small n; unfold DiskD.bytes at this; rw [hf] at this; exact this
     rw [hf] at F B Z;unfold uk at Z;simp only [Option.map_some] at Z;clear hf ap;replace F:Zq (D.writeE n o t=if D.fitB f o t=0 then D.done else D.fitB f o t):=by show _=_; rw [F.o,if_pos (by simp)]
     replace B:Zq (∀ wv,D.write n o t wv=if D.fitB f o t=0 then (if D.left=0\/t=[] then D.burn else { D.burn with files:=fe D.files n (laidL f.now o.toNat t),wv:=wv,waits:=D.waits++[⟨f.blk,o.toNat,t⟩] }) else D):=λwv=>by rw [B.o,if_pos (by simp)]
     have ab:Zq (D.fitB f o t=if o < 0\/(f.now.length:Int) < o then 2 else if D.room < o+(t.length:Int) - (f.now.length:Int) then 7 else 0):=rfl
     by_cases h1:o < 0
     . have J:D.fitB f o t=2:=by rw [ab.o,if_pos (.inl h1)]
       have d1:decide (o < 0)=true:=decide_eq_true h1;rw [J] at F B;clear J;go_wp2_with fail;go_ret;exact ⟨D.wv,by rw [F.o]; rfl,by rw [B.o,if_neg (by decide)]; exact E.o,Mod.of_below X.o,λk hk=>by rw [B.o,if_neg (by decide)] at hk; exact .inl hk⟩
     have d1:decide (o < 0)=false:=decide_eq_false h1
     by_cases h2:(f.now.length:Int) < o
     . have J:D.fitB f o t=2:=by rw [ab.o,if_pos (.inr h2)]
       have d2:decide ((f.now.length:Int) < o)=true:=decide_eq_true h2;rw [J] at F B;clear J;go_wp2_with fail;go_ret;exact ⟨D.wv,by rw [F.o]; rfl,by rw [B.o,if_neg (by decide)]; exact E.o,Mod.of_below X.o,λk hk=>by rw [B.o,if_neg (by decide)] at hk; exact .inl hk⟩
     obtain ⟨o,rfl⟩:=Int.eq_ofNat_of_zero_le (show 0<=o by omega);have cx:o<=f.now.length:=by omega
     have d2:decide (f.now.length < o)=false:=decide_eq_false (by omega);have cd:0<=D.room:=by have:=E.o.fits; show (0:Int)<=D.cap - (D.size:Int); omega
     have b8:D.room<=16777216:=by have:=E.o.ints; show D.cap - (D.size:Int)<=_; omega
     have cy:IntKind.i64.wrap ((o:Int)+(t.length:Int))=(o:Int)+(t.length:Int):=IntWalk.i64_in _ (by omega);have c6:IntKind.i64.wrap ((o:Int)+(t.length:Int) - (f.now.length:Int))=(o:Int)+(t.length:Int) - (f.now.length:Int):=IntWalk.i64_in _ (by omega)
     have ac:Zq (∀ w2,Ext w1.drew w2->w2.cell? ⟨f.blk,1,none⟩=some (.string (S f.now))):=λw2 N=>by
      have ce:=E.o.below ((Below.refl _ _).drew.trans N);have:=ce.file _ I.o;unfold World.cell?; rw [show w2.heap[(⟨f.blk,1,none⟩:Addr).block]?=_ from this]; rfl
     have ar:¬ ((o:Int) < 0\/(f.now.length:Int) < (o:Int)):=by omega
     by_cases h3:D.room < (o:Int)+(t.length:Int) - (f.now.length:Int)
     ·
      have J:D.fitB f o t=7:=by rw [ab.o,if_neg ar,if_pos h3]
      have d3:decide (D.room < (o:Int)+(t.length:Int) - (f.now.length:Int))=true:=decide_eq_true h3;have d4:decide ((f.now.length:Int) < (o:Int)+(t.length:Int))=true:=decide_eq_true (by omega);rw [J] at F B;clear J;go_upto_region 7 with fail
      refine Grow.jc 26 [none,none,none,none,none,none,none,some (.inl (.string (S f.now))),none,none,none,some (.inl (.int .i64 D.room)),some (.inl (.bool true)),some (.inl (.bool true)),none,none,none,none,none,none,none,some (.inl (.string (S f.now))),none,none,none,none] Ext (by kernel_rfl) (by kernel_rfl) (by kernel_rfl) Ext.refl (λ_ _ _=>Ext.trans) ?_ ?_
      . intro K hK Y hY v w w' hR h
        simp only [List.mem_cons,List.not_mem_nil,or_false] at hK
        rcases hK with rfl | rfl | rfl | rfl | rfl | rfl | rfl | rfl | rfl | rfl | rfl | rfl | rfl | rfl | rfl | rfl | rfl | rfl | rfl | rfl | rfl | rfl | rfl | rfl | rfl | rfl <;> simp only [reduceCtorEq,Option.some.injEq,Sum.inr.injEq] at hY
      simp only [List.take_succ_cons,List.take_zero,List.drop_succ_cons,List.drop_zero]
      iterate 7
       refine Grow.g_det rfl ?_;apply Exists.intro;refine ⟨λw2 N A=>?_,?_⟩
       . clear A
         go_simp;exact ⟨rfl,Ext.refl _⟩
       go_frame
      refine Grow.g_con rfl (λw2 N A=>?_) ?_
      . clear A
        have c1:=ac.o w2 N;go_simp
        all_goals exact Ext.refl _
      iterate 3
       go_frame;refine Grow.g_det rfl ?_;apply Exists.intro;refine ⟨λw2 N A=>?_,?_⟩
       . clear A
         go_simp;exact ⟨rfl,Ext.refl _⟩
      go_frame;refine Grow.g_con rfl (λw2 N A=>?_) ?_
      . clear A
        go_simp;exact (room_any w2 (E.o.below ((Below.refl _ _).drew.trans N))).mono λe w3 h=>⟨_,h.1,rfl,h.2⟩
      iterate 2
       go_frame;refine Grow.g_con rfl (λw2 N A=>?_) ?_
       . clear A
         go_simp
         all_goals exact Ext.refl _
      iterate 7
       go_frame;refine Grow.g_det rfl ?_;apply Exists.intro;refine ⟨λw2 N A=>?_,?_⟩
       . clear A
         go_simp;exact ⟨rfl,Ext.refl _⟩
      go_frame;refine Grow.g_con rfl (λw2 N A=>?_) ?_
      . clear A
        have c1:=ac.o w2 N;go_simp
        all_goals exact Ext.refl _
      iterate 4
       go_frame;refine Grow.g_det rfl ?_;apply Exists.intro;refine ⟨λw2 N A=>?_,?_⟩
       . clear A
         go_simp;exact ⟨rfl,Ext.refl _⟩
      go_frame;refine Grow.g_nil λw3 O A=>?_
      clear A;refine wpList_nil ?_;have ad:=zq (X.o.trans (((Below.refl w1.heap.size w1).drew.trans O).mono bl.o));have ak:=zq (E.o.below ((Below.refl _ _).drew.trans O));clear O;go_wp2_with fail;go_ret;exact ⟨D.wv,by rw [F.o]; rfl,by rw [B.o,if_neg (by decide)]; exact ak.o,Mod.of_below ad.o,λk hk=>by rw [B.o,if_neg (by decide)] at hk; exact .inl hk⟩
     ·
      have J:D.fitB f o t=0:=by rw [ab.o,if_neg ar,if_neg h3]
      have d3:decide (D.room < (o:Int)+(t.length:Int) - (f.now.length:Int))=false:=decide_eq_false h3;rw [J] at F B;clear J;have H3:=zq h3;clear h3;go_upto_region 7 with fail
      refine Grow.jc 26 [none,none,none,none,none,none,none,some (.inl (.string (S f.now))),none,none,none,some (.inl (.int .i64 D.room)),some (.inl (.bool false)),some (.inl (.bool false)),none,none,none,none,none,none,none,none,none,none,some (.inl (.bool false)),some (.inl (.bool false))] Ext (by kernel_rfl) (by kernel_rfl) (by kernel_rfl) Ext.refl (λ_ _ _=>Ext.trans) ?_ ?_
      . intro K hK Y hY v w w' hR h
        simp only [List.mem_cons,List.not_mem_nil,or_false] at hK
        rcases hK with rfl | rfl | rfl | rfl | rfl | rfl | rfl | rfl | rfl | rfl | rfl | rfl | rfl | rfl | rfl | rfl | rfl | rfl | rfl | rfl | rfl | rfl | rfl | rfl | rfl | rfl <;> simp only [reduceCtorEq,Option.some.injEq,Sum.inr.injEq] at hY
      simp only [List.take_succ_cons,List.take_zero,List.drop_succ_cons,List.drop_zero]
      iterate 7
       refine Grow.g_det rfl ?_;apply Exists.intro;refine ⟨λw2 N A=>?_,?_⟩
       . clear A
         go_simp;exact ⟨rfl,Ext.refl _⟩
       go_frame
      refine Grow.g_con rfl (λw2 N A=>?_) ?_
      . clear A
        have c1:=ac.o w2 N;go_simp
        all_goals exact Ext.refl _
      iterate 3
       go_frame;refine Grow.g_det rfl ?_;apply Exists.intro;refine ⟨λw2 N A=>?_,?_⟩
       . clear A
         go_simp;exact ⟨rfl,Ext.refl _⟩
      go_frame;refine Grow.g_con rfl (λw2 N A=>?_) ?_
      . clear A
        go_simp;exact (room_any w2 (E.o.below ((Below.refl _ _).drew.trans N))).mono λe w3 h=>⟨_,h.1,rfl,h.2⟩
      iterate 2
       go_frame;refine Grow.g_con rfl (λw2 N A=>?_) ?_
       . clear A
         go_simp
         all_goals exact Ext.refl _
      iterate 10
       go_frame;apply Grow.g_skip
       . kernel_rfl
      iterate 2
       go_frame;refine Grow.g_con rfl (λw2 N A=>?_) ?_
       . clear A
         go_simp
         all_goals exact Ext.refl _
      go_frame;refine Grow.g_nil λw3 O A=>?_
      clear A;refine wpList_nil ?_;have ad:=zq (X.o.trans (((Below.refl w1.heap.size w1).drew.trans O).mono bl.o));have ak:=zq (E.o.below ((Below.refl _ _).drew.trans O));clear O;have a8:=zq (abp w3 ak.o);replace F:Zq (D.writeE n (o:Int) t=D.done):=by show _=_; rw [F.o,if_pos (by simp)]
      replace B:Zq (∀ wv,D.write n (o:Int) t wv=if D.left=0\/t=[] then D.burn else { D.burn with files:=fe D.files n (laidL f.now o t),wv:=wv,waits:=D.waits++[⟨f.blk,o,t⟩] }):=λwv=>by rw [B.o,if_pos (by simp),Int.toNat_natCast]
      obtain ⟨L,Dn,ba⟩:=akd D;rw [ba] at a8 B;have da:=zq ba;clear ba;go_wp2_with fail;refine a8.o.mono ?_;rintro e w4 ⟨rfl,bp,br⟩;have U:=zq bp;have al:Zq (Mod D.foot w w4):=(Mod.of_below ad.o).trans ((Mod.below_foot br).mono (λ_ _ h=>h));have db:Zq (w.heap.size<=w4.heap.size):=al.o.size;clear bp br a8 ak ad ac
      by_cases h0:D.left=0
      . have M:D.done=8:=if_pos h0
        rw [M] at F ⊢;clear M;go_wp2_with fail;go_ret;exact ⟨D.wv,by rw [F.o]; rfl,by rw [B.o,if_pos (.inl h0)]; exact U.o,al.o,λk hk=>by rw [B.o,if_pos (.inl h0)] at hk; exact .inl hk⟩
      have M:D.done=0:=if_neg h0;rw [M] at F ⊢;clear M
      by_cases ht0:t=[]
      . subst ht0
        go_wp2_with fail;go_ret;exact ⟨D.wv,by rw [F.o]; rfl,by rw [B.o,if_pos (.inr trivial)]; exact U.o,al.o,λk hk=>by rw [B.o,if_pos (.inr trivial)] at hk; exact .inl hk⟩
      have dc:t.isEmpty=false:=by cases t with
       | nil=>exact absurd rfl ht0
       | cons _ _=>rfl
      have bs:¬ (D.left=0\/t=[]):=λh=>h.elim h0 ht0
      have bb:w4.cell? ⟨f.blk,1,none⟩=some (.string (S f.now)):=by
       have:=U.o.file (n,f) I.o;unfold World.cell?; rw [show w4.heap[(⟨f.blk,1,none⟩:Addr).block]?=_ from this]; rfl
      have bw:=zq (λw=>anp f.now o t (by omega) (by omega) ht w);clear bm Z c2 E X d1 d2 d3;go_wp2_with fail;refine (bw.o _).mono ?_;rintro e w5 ⟨rfl,bd⟩;clear bw bb;have am:=U.o.below bd;have cg:Zq (Mod D.foot w w5):=al.o.trans (Mod.of_below bd)
      have ci:Zq ((laidL f.now o t).length=max f.now.length (o+t.length)):=by
       show _=_;unfold laidL;rw [if_neg ht0,rq _ _ _ (by simp; omega)];simp; omega
      have a1:((gp (fe D.files n (laidL f.now o t)):Nat):Int)<=D.cap:=by
       have h1:=aap D.files n (laidL f.now o t) f U.o.names I.o;have h2:=ci.o;have h3:=H3.o;have h4:D.room=D.cap - (D.size:Int):=rfl;have h5:D.size=gp D.files:=rfl;rw [h4,h5] at h3;omega
      have bh:w5.cell? ⟨f.blk,1,none⟩=some (.string (S f.now)):=by
       have:=am.file (n,f) I.o;unfold World.cell?; rw [show w5.heap[(⟨f.blk,1,none⟩:Addr).block]?=_ from this]; rfl
      have bz:w5.frozen? ⟨f.blk,1,none⟩=false:=by
       have:=am.file (n,f) I.o;unfold World.frozen?; rw [show w5.heap[(⟨f.blk,1,none⟩:Addr).block]?=_ from this]; rfl
      obtain ⟨b0,b1⟩:=am.set_now (n:=n) (f:=f) I.o (laidL f.now o t) a1;have bj:Zq (Mod D.foot w (w5.setCell ⟨f.blk,1,none⟩ (.string (S (laidL f.now o t))))):=cg.o.trans b1;have an:=zq b0;clear b0 b1 am a1;go_upto_region 14 with fail
      clear bh bz bd;generalize w5.setCell ⟨f.blk,1,none⟩ (.string (S (laidL f.now o t)))=w6 at *
      obtain ⟨v',w8,hr,b2,b3,⟨a',b4,bk⟩,⟨u3,b5⟩,a6,b6⟩:=af2 an.o ⟨f.blk,o,t⟩ (ady I.o) hwl (Nat.le_trans hbase bj.o.size);obtain ⟨aw,cw,R⟩:=lq an.o.row;replace R:D.wv=.slice aw D.waits.length cw:=R
      have c3:(w6.alloc (.cells #[.pointer (some ⟨f.blk,0,none⟩),.int .i64 (o:Int),.string (S t)] 315)).cell? ⟨D.blk,3,none⟩=some (.slice aw D.waits.length cw):=by
       have h1:Below w6.heap.size w6 (w6.alloc (.cells #[.pointer (some ⟨f.blk,0,none⟩),.int .i64 (o:Int),.string (S t)] 315)):=(Below.refl w6.heap.size w6).alloc (Nat.le_refl _) _;exact (an.o.below h1).cell 3 _ (by show some D.wv=_; rw [R])
      have dj:w6.cell? ⟨D.blk,3,none⟩=some (.slice aw D.waits.length cw):=an.o.cell 3 _ (by show some D.wv=_; rw [R]);have b7:(Builtin.append_ #[65,65] 65 #[.slice aw D.waits.length cw,.slice (some ⟨w6.heap.size,0,none⟩) 1 1]).run Tryz.prog (w6.alloc (.cells #[.pointer (some ⟨f.blk,0,none⟩),.int .i64 (o:Int),.string (S t)] 315))=.ok v' w8:=by rw [<- R]; exact hr
      have ao:∀ k,(∃ p∈fe D.files n (laidL f.now o t),k=p.2.blk)->(∃ p∈D.files,k=p.2.blk):=λk ⟨p,hp,hk⟩=>by
       obtain ⟨q,hq,hb,_⟩:=ql hp;exact ⟨q,hq,hk.trans hb⟩
      have cj:Zq (Mod D.foot w (w8.setCell ⟨D.blk,3,none⟩ v')):=bj.o.trans (b3.mono (λk _ hk=>by
       rcases hk with h | h | h | h
       . exact .inl h
       . exact .inr (.inl h)
       . exact .inr (.inr (.inl (ao k h)))
       . exact .inr (.inr (.inr h))))
      have ck:Zq (∀ k,v'.ownBlock=some k->D.foot k\/w.heap.size<=k):=λk hk=>by
       rcases b6 k hk with h | h
       . rcases h with h | h | h | h
         . exact .inl (.inl h)
         . exact .inl (.inr (.inl h))
         . exact .inl (.inr (.inr (.inl (ao k h))))
         . exact .inl (.inr (.inr (.inr h)))
       . exact .inr (Nat.le_trans bj.o.size h)
      have cm:=zq ao;have cn:=zq b2;have co:=zq b7;replace b5:w8.cell? ⟨D.blk,3,none⟩=some u3:=b5;replace a6:w8.frozen? ⟨D.blk,3,none⟩=false:=a6;replace bk:v'=.slice a' (D.waits.length+1) b4:=bk;clear b7 b2 b3 hr b6 R ao;subst bk;go_wp2_with (at_builtin; refine Lib.wpList_append_run _ rfl (.tmp 84) (.tmp 89) 65 65 rfl _ _ rfl rfl _ _ co.o ?_);go_ret;refine ⟨by rw [F.o]; rfl,Value.slice a' (D.waits.length+1) b4,?_,cj.o,λk hk=>?_⟩
      . rw [B.o,if_neg bs]; exact cn.o
      rw [B.o,if_neg bs] at hk
      rcases hk with h | h | h | h
      . exact .inl (.inl h)
      . exact .inl (.inr (.inl h))
      . exact .inl (.inr (.inr (.inl (cm.o k h))))
      . exact ck.o k h
/-! the writes of one file go out of the row -/
theorem acv (fb k:Nat) (p:Nat) (bx:Nat) (t:List UInt8) (w:World) (hc:w.cell? ⟨bx,0,none⟩=some (.pointer (some ⟨fb,0,none⟩))) {ca cb:Array Value} {ta tb:TypeId} (hk:w.heap[k]?=some (.cells ca ta (0,0))) (hf:w.heap[fb]?=some (.cells cb tb (0,0))) :
 Calls Tryz.prog 260 #[.agg #[.pointer (some ⟨k,0,none⟩),.int .i64 (p:Int),.string (S t)],.pointer (some ⟨bx,0,none⟩)] w λe w'=>e=.returned (.bool (decide (k=fb)))/\Below w.heap.size w w':=by
 have hb:Zq (Below w.heap.size w (w.alloc (.cells #[.pointer (some ⟨k,0,none⟩),.int .i64 (p:Int),.string (S t)] 315))):=(Below.refl _ _).alloc (Nat.le_refl _) _;have I:(w.alloc (.cells #[.pointer (some ⟨k,0,none⟩),.int .i64 (p:Int),.string (S t)] 315)).cell? ⟨bx,0,none⟩=some (.pointer (some ⟨fb,0,none⟩)):=by rw [hb.o.cell (ay hc)]; exact hc
 have B:=(hb.o.block k (Array.getElem?_eq_some_iff.1 hk).1).trans hk;have E:=(hb.o.block fb (Array.getElem?_eq_some_iff.1 hf).1).trans hf
 obtain ⟨i0,A,F⟩:∃ i,Tryz.prog.info? 312=some i/\i.size=2:=by
  have:=(show (Tryz.prog.info? 312).map (λi=>i.size)=some 2 by kernel_rfl)
  cases hh:Tryz.prog.info? 312 with
  | none=>rw [hh] at this; cases this
  | some i=>rw [hh] at this; exact ⟨i,rfl,Option.some.inj this⟩
 have J:(binOp .eql 258 (.pointer (some ⟨k,0,none⟩)) (.pointer (some ⟨fb,0,none⟩))).run Tryz.prog (w.alloc (.cells #[.pointer (some ⟨k,0,none⟩),.int .i64 (p:Int),.string (S t)] 315))=.ok (.bool (decide (k=fb))) (w.alloc (.cells #[.pointer (some ⟨k,0,none⟩),.int .i64 (p:Int),.string (S t)] 315)):=by
  by_cases e:k=fb
  . subst e
    rw [decide_eq_true rfl];exact run_eql_ptr_same _ _ Tryz.underlying258 A
  . rw [decide_eq_false e]
    exact run_eql_ptr_other _ Tryz.underlying258 A (by omega) (λq=>e (congrArg Addr.block q)) B E
 clear hc hk hf B E A F;generalize decide (k=fb)=bb at *
 go_enter Tryz.func260,Tryz.ntmps260;go_wp2_with fail;go_ret;exact ⟨rfl,hb.o⟩
def RowW (w:World) (a:Option Addr) (ws:List WriteD):Prop:=∀ (k:Nat) (h:k < ws.length),∃ g,a=some ⟨g,0,none⟩/\g < w.heap.size/\w.cell? ⟨g,k * 3,none⟩=some (.pointer (some ⟨ws[k].blk,0,none⟩))/\w.cell? ⟨g,k * 3+1,none⟩=some (.int .i64 (ws[k].pos:Int))/\w.cell? ⟨g,k * 3+2,none⟩=some (.string (S ws[k].txt))
theorem RowW.below {w w':World} {a:Option Addr} {ws:List WriteD} (h:RowW w a ws) (hb:Below w.heap.size w w'):RowW w' a ws:=by
 intro k hk;obtain ⟨g,e,A,h1,B,E⟩:=h k hk;exact ⟨g,e,Nat.lt_of_lt_of_le A hb.size,by rw [hb.cell A]; exact h1,by rw [hb.cell A]; exact B,by rw [hb.cell A]; exact E⟩
structure Seen (w:World) (bx fb:Nat) (ws:List WriteD):Prop where
 box:w.cell? ⟨bx,0,none⟩=some (.pointer (some ⟨fb,0,none⟩))
 file:∃ ca ta,w.heap[fb]?=some (.cells ca ta (0,0))
 all:∀ x∈ws,∃ ca ta,w.heap[x.blk]?=some (.cells ca ta (0,0))
theorem Seen.below {w w':World} {bx fb:Nat} {ws:List WriteD} (h:Seen w bx fb ws) (hb:Below w.heap.size w w'):Seen w' bx fb ws:=by
 refine ⟨by rw [hb.cell (ay h.box)]; exact h.box,?_,λx F=>?_⟩
 . obtain ⟨B,E,A⟩:=h.file
   exact ⟨B,E,(hb.block _ (Array.getElem?_eq_some_iff.1 A).1).trans A⟩
 . obtain ⟨B,E,A⟩:=h.all x F
   exact ⟨B,E,(hb.block _ (Array.getElem?_eq_some_iff.1 A).1).trans A⟩
def acb (fb:Nat):List WriteD->Nat->Int
 | [],_ => -1
 | x :: l,i=>if x.blk=fb then (i:Int) else acb fb l (i+1)
theorem agu (fb:Nat):∀ (ws:List WriteD) (k i:Nat) (h:k < ws.length),(∀ j (A:j < k),(ws[j]'(by omega)).blk≠fb)->ws[k].blk=fb->acb fb ws i=((i+k:Nat):Int)
 | x :: l,0,i,h,_,he=>by show (if x.blk=fb then (i:Int) else _)=_; rw [if_pos (show x.blk=fb from he)]; rfl
 | x :: l,k+1,i,h,hn,he=>by
   show (if x.blk=fb then (i:Int) else acb fb l (i+1))=_;rw [if_neg (show ¬ x.blk=fb from hn 0 (by omega)),agu fb l k (i+1) (by simpa using h) (λj A=>hn (j+1) (by omega)) he];congr 1; omega
theorem afc (fb:Nat):∀ (ws:List WriteD) (i:Nat),(∀ x∈ws,x.blk≠fb)->acb fb ws i = -1
 | [],_,_=>rfl
 | x :: l,i,h=>by show (if x.blk=fb then (i:Int) else acb fb l (i+1))=_; rw [if_neg (h x (.head _)),afc fb l (i+1) (λy A=>h y (.tail _ A))]
theorem afd (a:Option Addr) (cp:Nat) (ws:List WriteD) (M:ws.length<=1048576) (bx fb:Nat) (w:World) (hr:RowW w a ws) (hs:Seen w bx fb ws) :
 Calls Tryz.prog 259 #[.slice a ws.length cp,.func (.func 260) #[] #[.pointer (some ⟨bx,0,none⟩)]] w λe w'=>e=.returned (.int .i64 (acb fb ws 0))/\Below w.heap.size w w':=by
 have Z:=zq hr;have N:=zq hs;clear hr hs;go_enter Tryz.func259,Tryz.ntmps259;go_wp2_with fail;go_loopw [8] (λi wr=>∃ k:Nat,k<=ws.length/\i=.int .i64 (k:Int)/\Zq (∀ x∈ws.take k,x.blk≠fb)/\Zq (Below w.heap.size w wr)) (λi _=>ws.length+1 - (intOf i).toNat)
 case atStart=>exact ⟨0,by omega,rfl,λx M=>by simp at M,Below.refl _ _⟩
 case round =>
  obtain ⟨k,hk,rfl,O,B⟩:=hrel
  by_cases hlt:k < ws.length
  ·
   obtain ⟨g,rfl,ab,h1,X,Y⟩:=(Z.o.below B.o) k hlt;obtain ⟨ca,ta,I⟩:=(N.o.below B.o).all ws[k] (List.getElem_mem hlt);obtain ⟨cb,tb,J⟩:=(N.o.below B.o).file;have A:=zq (acv fb ws[k].blk ws[k].pos bx ws[k].txt wr (N.o.below B.o).box I J);clear I J;have E:ws.take (k+1)=ws.take k++[ws[k]]:=List.take_succ_eq_append_getElem hlt
   by_cases he:ws[k].blk=fb
   ·
    have R:Zq (acb fb ws 0=(k:Int)):=by
     show _=_;rw [agu fb ws k 0 hlt (λj hj=>O.o _ (List.mem_take_iff_getElem.2 ⟨j,by omega,rfl⟩)) he,Nat.zero_add]
    rw [decide_eq_true he] at A;clear E he;go_wp2_with fail;refine A.o.mono ?_;rintro e w2 ⟨rfl,hb⟩;have F:=zq (B.o.trans (hb.mono B.o.size));clear hb A h1 X Y;go_wp2_with fail;go_ret;rw [R.o];exact ⟨rfl,F.o⟩
   ·
    have U:Zq (∀ x∈ws.take (k+1),x.blk≠fb):=by
     show ∀ x∈ws.take (k+1),x.blk≠fb
     rw [E];intro x M
     rcases List.mem_append.1 M with h | h
     . exact O.o x h
     . rw [List.mem_singleton] at h; subst h; exact he
    rw [decide_eq_false he] at A;clear E he;go_wp2_with fail;refine A.o.mono ?_;rintro e w2 ⟨rfl,hb⟩;have F:=zq (B.o.trans (hb.mono B.o.size));clear hb A h1 X Y;go_wp2_with fail;go_roundw
    case rel=>exact ⟨k+1,by omega,by go_num,U,F⟩
    case measure=>simp [intOf]; omega
  ·
   obtain rfl:k=ws.length:=by omega
   have R:Zq (acb fb ws 0 = -1):=by
    show _=_;have:=O.o;rw [List.take_length] at this;exact afc fb ws 0 this
   go_wp2_with fail;go_ret;rw [R.o];exact ⟨rfl,B.o⟩
theorem vw (x:WriteD) (l:List WriteD):dw (x :: l)=x.cells++dw l:=rfl
theorem ais (a b:List WriteD):dw (a++b)=dw a++dw b:=by unfold dw; simp
theorem adz:∀ (l:List WriteD) (k r:Nat) (h:k < l.length),r < 3->(dw l)[k * 3+r]?=(l[k]).cells[r]?
 | x :: l,0,r,_,hr=>by
   rw [vw,Nat.zero_mul,Nat.zero_add,List.getElem?_append_left (by show r < 3; omega)]; rfl
 | x :: l,k+1,r,h,hr=>by
   have A:(k+1) * 3+r=3+(k * 3+r):=by omega
   rw [vw,A,List.getElem?_append_right (by show 3<=_; omega)];have:3+(k * 3+r) - x.cells.length=k * 3+r:=by show 3+(k * 3+r) - 3=_; omega
   rw [this];exact adz l k r (by simpa using h) hr
theorem ad1:∀ (l:List WriteD) (k:Nat) (x:WriteD),k < l.length ->
 (((dw l).set (k * 3) (.pointer (some ⟨x.blk,0,none⟩))).set (k * 3+1) (.int .i64 (x.pos:Int))).set (k * 3+2) (.string (S x.txt))=dw (l.set k x)
 | y :: l,0,x,_=>rfl
 | y :: l,k+1,x,h=>by
   have A:=ad1 l k x (by simpa using h);have B:(k+1) * 3=k * 3+1+1+1:=by omega
   have E:(k+1) * 3+1=(k * 3+1)+1+1+1:=by omega
   have F:(k+1) * 3+2=(k * 3+2)+1+1+1:=by omega
   rw [E,F,B,vw,List.set_cons_succ,vw];show ((((Value.pointer (some ⟨y.blk,0,none⟩) :: .int .i64 (y.pos:Int) :: .string (S y.txt) :: dw l).set (k * 3+1+1+1) _).set (k * 3+1+1+1+1) _).set (k * 3+2+1+1+1) _)=_;simp only [List.set_cons_succ];rw [A]; rfl
def Row3 (w:World) (g:Nat) (cur:List WriteD) (rest:List Value):Prop:=w.heap[g]?=some (.cells (dw cur++rest).toArray 315 (0,0))
theorem Row3.cell {w:World} {g:Nat} {cur:List WriteD} {rest:List Value} (h:Row3 w g cur rest) (k r:Nat) (hk:k < cur.length) (hr:r < 3):w.cell? ⟨g,k * 3+r,none⟩=(cur[k]).cells[r]?:=by
 unfold World.cell?;rw [show w.heap[(⟨g,k * 3+r,none⟩:Addr).block]?=_ from h];show (dw cur++rest).toArray[k * 3+r]?=_;have A:k * 3+r < (dw cur).length:=by rw [jw]; omega
 rw [List.getElem?_toArray,List.getElem?_append_left A];exact adz cur k r hk hr
theorem Row3.frozen {w:World} {g:Nat} {cur:List WriteD} {rest:List Value} (h:Row3 w g cur rest) (i:Nat):w.frozen? ⟨g,i,none⟩=false:=by
 unfold World.frozen?; rw [show w.heap[(⟨g,i,none⟩:Addr).block]?=_ from h]; rfl
theorem Row3.rowW {w:World} {g:Nat} {cur:List WriteD} {rest:List Value} (h:Row3 w g cur rest):RowW w (some ⟨g,0,none⟩) cur:=λk hk =>
 ⟨g,rfl,(Array.getElem?_eq_some_iff.1 h).1,h.cell k 0 hk (by omega),h.cell k 1 hk (by omega),h.cell k 2 hk (by omega)⟩
theorem Row3.below {w w':World} {g:Nat} {cur:List WriteD} {rest:List Value} (h:Row3 w g cur rest) (hb:Below w.heap.size w w'):Row3 w' g cur rest :=
 (hb.block g (Array.getElem?_eq_some_iff.1 h).1).trans h
theorem Row3.put {w:World} {g:Nat} {cur:List WriteD} {rest:List Value} (h:Row3 w g cur rest) (k:Nat) (hk:k < cur.length) (x:WriteD) :
 Row3 (((w.setCell ⟨g,k * 3,none⟩ (.pointer (some ⟨x.blk,0,none⟩))).setCell ⟨g,k * 3+1,none⟩ (.int .i64 (x.pos:Int))).setCell ⟨g,k * 3+2,none⟩ (.string (S x.txt))) g (cur.set k x) rest:=by
 have A:(dw cur).length=cur.length * 3:=jw cur;refine (heap_setCell_same _ g (k * 3+2) _ _ _ (heap_setCell_same _ g (k * 3+1) _ _ _ (heap_setCell_same w g (k * 3) _ _ _ h))).trans ?_;rw [<- ad1 cur k x hk];simp only [List.setIfInBounds_toArray];congr 3;rw [List.set_append_left _ _ (by omega),List.set_append_left _ _ (by rw [List.length_set]; omega),List.set_append_left _ _ (by rw [List.length_set,List.length_set]; omega)]
theorem af3 {w:World} {g:Nat} {cur:List WriteD} {rest:List Value} (h:Row3 w g cur rest) (i:Nat) (hi:i<=cur.length) (c:Nat) (ty:TypeId) :
 ∃ w',(Builtin.clear_ #[65] ty #[.slice (some ⟨g,i * 3,none⟩) (cur.length - i) c]).run Tryz.prog w=.ok (.tuple #[]) w'/\(∃ cs,w'.heap[g]?=some (.cells cs 315 (0,0))/\cs.size=(dw cur++rest).length/\cs.toList.take (i * 3)=dw (cur.take i))/\Mod (λk=>k=g) w w':=by
 have hl:(dw cur).length=cur.length * 3:=jw cur
 have F:∀ (rest:List Value),(dw cur++rest).take (i * 3)=dw (cur.take i):=by
  intro rest;have h1:dw cur=dw (cur.take i)++dw (cur.drop i):=by rw [<- ais,List.take_append_drop]
  have Y:(dw (cur.take i)).length=i * 3:=by rw [jw,List.length_take]; omega
  rw [h1,List.append_assoc];rw [<- Y]; exact List.take_left
 have hu:=Tryz.underlying65
 by_cases h0:cur.length - i=0
 . refine ⟨w,?_,⟨_,h,by simp,by rw [List.toList_toArray]; exact F rest⟩,Mod.refl _ _⟩
   rw [h0];simp [Builtin.clear_,run_underlying hu]
 ·
  obtain ⟨i0,J,M⟩:∃ i,Tryz.prog.info? 315=some i/\i.zero=some (.agg #[.pointer none,.int .i64 0,.string ⟨#[]⟩]):=by
   have:=(show (Tryz.prog.info? 315).map (λi=>i.zero)=some (some (.agg #[.pointer none,.int .i64 0,.string ⟨#[]⟩])) by kernel_rfl)
   cases hh:Tryz.prog.info? 315 with
   | none=>rw [hh] at this; cases this
   | some i=>rw [hh] at this; exact ⟨i,rfl,Option.some.inj this⟩
  have B:(Builtin.zeroCells #[.pointer none,.int .i64 0,.string ⟨#[]⟩] (cur.length - i)).toList.length=(cur.length - i) * 3:=by
   rw [Array.length_toList,size_zeroCells]; rfl
  have I:∀ v∈(Builtin.zeroCells #[.pointer none,.int .i64 0,.string ⟨#[]⟩] (cur.length - i)).toList,v.oneCell'=true:=by
   intro v X;simp only [Builtin.zeroCells,Array.toList_map,List.mem_map] at X;obtain ⟨j,_,rfl⟩:=X;have:j % 3 < 3:=Nat.mod_lt _ (by omega);show Value.oneCell' (#[Value.pointer none,.int .i64 0,.string ⟨#[]⟩][j % 3]!)=true
   match j % 3,this with
   | 0,_=>rfl
   | 1,_=>rfl
   | 2,_=>rfl
  have E:=run_storeCells_at (P:=Tryz.prog) g (i * 3) 315 _ 0 _ w h (by rw [B]; simp; omega) I;have N:(Value.agg #[.pointer none,.int .i64 0,.string ⟨#[]⟩]).cells=#[.pointer none,.int .i64 0,.string ⟨#[]⟩]:=rfl;rw [List.toList_toArray,Nat.add_zero,B] at E;generalize hZ:(Builtin.zeroCells #[.pointer none,.int .i64 0,.string ⟨#[]⟩] (cur.length - i)).toList=Z at *
  obtain ⟨A,O⟩:∃ A,(((dw cur++rest).take (i * 3))++Z++((dw cur++rest).drop (i * 3+(cur.length - i) * 3))).toArray=A:=⟨_,rfl⟩;rw [O] at E
  have R:A.size=(dw cur++rest).length:=by
   rw [<- O,List.size_toArray];simp only [List.length_append,List.length_take,List.length_drop,B];omega
  have U:A.toList.take (i * 3)=dw (cur.take i):=by
   rw [<- O,List.toList_toArray,List.append_assoc,List.take_append_of_le_length (by rw [List.length_take]; simp; omega),List.take_take,Nat.min_self];exact F rest
  refine ⟨w.setRow g A,?_,⟨A,setRow_heap w g _ _ _ _ h,R,U⟩,⟨rfl,rfl,rfl,by simp,λk _ hk=>setRow_other w g k _ hk⟩⟩;obtain ⟨m,hm⟩:∃ m,cur.length - i=m+1:=⟨cur.length - i - 1,by omega⟩;rw [hm] at hZ ⊢;simp [Builtin.clear_,run_underlying hu,zeroValue,typeInfo,J,M,Result.andThen,N,hZ,E]
def zm (fb:Nat) (x:WriteD):Bool:=!decide (x.blk=fb)
def others (fb:Nat) (ws:List WriteD):List WriteD:=ws.filter (zm fb)
theorem ad2 (fb:Nat):∀ (ws:List WriteD) (i:Nat),(acb fb ws i = -1/\others fb ws=ws)\/∃ k,∃ h:k < ws.length,acb fb ws i=((i+k:Nat):Int)/\ws[k].blk=fb/\others fb (ws.take (k+1))=ws.take k
 | [],i=>.inl ⟨rfl,rfl⟩
 | x :: l,i=>by
   by_cases e:x.blk=fb
   ·
    right
    refine ⟨0,by simp,?_,e,?_⟩
    . show (if x.blk=fb then (i:Int) else _)=_
      rw [if_pos e]; rfl
    . show others fb [x]=[]
      unfold others zm;simp [e]
   ·
    have hk:zm fb x=true:=by unfold zm; simp [e]
    have A:acb fb (x :: l) i=acb fb l (i+1):=by show (if x.blk=fb then (i:Int) else _)=_; rw [if_neg e]
    rcases ad2 fb l (i+1) with ⟨h1,h2⟩ | ⟨k,hkl,h1,h2,h3⟩
    . left
      refine ⟨A.trans h1,?_⟩;show List.filter (zm fb) (x :: l)=_;rw [List.filter_cons_of_pos hk];congr 1
    . right
      refine ⟨k+1,by simpa using hkl,?_,h2,?_⟩
      . rw [A,h1]; congr 1; omega
      . show List.filter (zm fb) (x :: l.take (k+1))=x :: l.take k
        rw [List.filter_cons_of_pos hk];congr 1
theorem agv (fb:Nat) (ws:List WriteD) (j:Nat) (h:j < ws.length):others fb (ws.take (j+1))=others fb (ws.take j)++(if ws[j].blk=fb then [] else [ws[j]]):=by
 unfold others;rw [List.take_succ_eq_append_getElem h,List.filter_append];congr 1
 by_cases e:ws[j].blk=fb
 . rw [if_pos e]; simp [zm,e]
 . rw [if_neg e]; simp [zm,e]
theorem ait (fb:Nat) (ws:List WriteD) (j:Nat):(others fb (ws.take j)).length<=j:=by
 have:=List.length_filter_le (zm fb) (ws.take j);unfold others;rw [List.length_take] at this; omega
theorem Seen.mod {w w':World} {bx fb g:Nat} {ws:List WriteD} (h:Seen w bx fb ws) (hm:Mod (λk=>k=g) w w') (hbx:bx≠g) (hfb:fb≠g) (hws:∀ x∈ws,x.blk≠g):Seen w' bx fb ws:=by
 refine ⟨by rw [hm.cell (ay h.box) hbx]; exact h.box,?_,λx F=>?_⟩
 . obtain ⟨B,E,A⟩:=h.file
   exact ⟨B,E,(hm.block _ (Array.getElem?_eq_some_iff.1 A).1 hfb).trans A⟩
 . obtain ⟨B,E,A⟩:=h.all x F
   exact ⟨B,E,(hm.block _ (Array.getElem?_eq_some_iff.1 A).1 (hws x F)).trans A⟩
theorem aiu (g cp:Nat) (ws:List WriteD) (rest:List Value) (hx:ws.length<=1048576) (hle:ws.length<=cp) (bx fb:Nat) (w:World) (hr:Row3 w g ws rest) (hs:Seen w bx fb ws) (hbx:bx≠g) (hfb:fb≠g) (hws:∀ x∈ws,x.blk≠g) :
 Calls Tryz.prog 233 #[.slice (some ⟨g,0,none⟩) ws.length cp,.func (.func 260) #[] #[.pointer (some ⟨bx,0,none⟩)]] w λe w' =>
  e=.returned (.slice (some ⟨g,0,none⟩) (others fb ws).length cp)/\(∃ cs,w'.heap[g]?=some (.cells cs 315 (0,0))/\cs.size=(dw ws++rest).length/\cs.toList.take ((others fb ws).length * 3)=dw (others fb ws))/\Mod (λk=>k=g) w w':=by
 have I:=zq (afd (some ⟨g,0,none⟩) cp ws hx bx fb w hr.rowW hs);have HR:=zq hr;have HS:=zq hs;have bo:=zq hws;clear hr hs hws
 rcases ad2 fb ws 0 with ⟨h1,h2⟩ | ⟨k0,hk0,h1,h2,h3⟩
 ·
  rw [h1] at I;have HO:=zq h2;clear h1 h2;go_enter Tryz.func233,Tryz.ntmps233;go_wp2_with fail;refine I.o.mono ?_;rintro e w2 ⟨rfl,hb⟩;have HB:=zq hb;clear hb I;go_wp2_with fail;go_ret;rw [HO.o];refine ⟨rfl,⟨_,HR.o.below HB.o,by simp,?_⟩,Mod.of_below HB.o⟩;rw [List.toList_toArray,<- jw];exact List.take_left
 ·
  rw [h1,Nat.zero_add] at I;have HO:=zq h3;have cd:((k0:Int) == -1)=false:=by rw [beq_eq_false_iff_ne]; omega
  have a1:Zq ((others fb ws).length < ws.length):=by
   show (ws.filter (zm fb)).length < _;rw [List.length_filter_lt_length_iff_exists];exact ⟨ws[k0],List.getElem_mem hk0,by simp [zm,h2]⟩
  clear h1 h2 h3;go_enter Tryz.func233,Tryz.ntmps233;go_wp2_with fail;refine I.o.mono ?_;rintro e w2 ⟨rfl,hb⟩;have HB:=zq hb;clear hb I;go_wp2_with fail;go_loopw [5,6] (λs5 s6 wr=>∃ (j:Nat) (cur:List WriteD),j<=ws.length/\s6=.int .i64 (j:Int)/\s5=.int .i64 ((others fb (ws.take j)).length:Int)/\cur.length=ws.length/\Zq (cur.take (others fb (ws.take j)).length=others fb (ws.take j))/\Zq (cur.drop j=ws.drop j)/\Zq (Row3 wr g cur rest)/\Zq (Mod (λk=>k=g) w wr)) (λ_ s6 _=>ws.length+1 - (intOf s6).toNat)
  case atStart =>
   refine ⟨k0+1,ws,by omega,by go_num,?_,rfl,?_,rfl,HR.o.below HB.o,Mod.of_below HB.o⟩
   . rw [HO.o,List.length_take,Nat.min_eq_left (by omega)]
   . show _=_
     rw [HO.o,List.length_take,Nat.min_eq_left (by omega)]
  case round =>
   obtain ⟨j,cur,hj,rfl,rfl,X,HT,Y,E,Z⟩:=hrel;have a7:=ait fb ws j
   by_cases hlt:j < ws.length
   ·
    have ab:cur[j]'(by omega)=ws[j]:=by
     have h1:(cur.drop j)[0]?=(ws.drop j)[0]?:=by rw [Y.o]
     rw [List.getElem?_drop,List.getElem?_drop,Nat.add_zero,List.getElem?_eq_getElem (by omega),List.getElem?_eq_getElem hlt] at h1;exact Option.some.inj h1
    have a8:=agv fb ws j hlt;have ba:ws[j]∈ws:=List.getElem_mem hlt;have bp:wr.cell? ⟨g,j * 3,none⟩=some (.pointer (some ⟨ws[j].blk,0,none⟩)):=by have:=E.o.cell j 0 (by omega) (by omega); rw [ab] at this; exact this
    have br:wr.cell? ⟨g,j * 3+1,none⟩=some (.int .i64 (ws[j].pos:Int)):=by have:=E.o.cell j 1 (by omega) (by omega); rw [ab] at this; exact this
    have bs:wr.cell? ⟨g,j * 3+2,none⟩=some (.string (S ws[j].txt)):=by have:=E.o.cell j 2 (by omega) (by omega); rw [ab] at this; exact this
    have bw:=zq (HS.o.mod Z.o hbx hfb bo.o)
    have ac:cur.drop (j+1)=ws.drop (j+1):=by
     have:(cur.drop j).drop 1=(ws.drop j).drop 1:=by rw [Y.o]
     simpa [List.drop_drop] using this
    have ad:=zq ac;have bb:=zq a8;have bz:=zq ba;have ce:g < wr.heap.size:=(Array.getElem?_eq_some_iff.1 E.o).1;clear ab ac a8 ba Y;have cf:=zq (show (ws.drop j).length=ws.length - j from List.length_drop);generalize ws[j]=x at *
    generalize hF:others fb (ws.take j)=F at *
    have cg:F.length<=j:=a7;have M:Zq (Below wr.heap.size wr (wr.alloc (.cells #[.pointer (some ⟨x.blk,0,none⟩),.int .i64 (x.pos:Int),.string (S x.txt)] 315))):=(Below.refl _ _).alloc (Nat.le_refl _) _;have ak:=zq (bw.o.below M.o);obtain ⟨ca,ta,bc⟩:=ak.o.all x bz.o;obtain ⟨cb,tb,bd⟩:=ak.o.file;have J:=zq (acv fb x.blk x.pos bx x.txt _ ak.o.box bc bd);have al:(wr.alloc (.cells #[.pointer (some ⟨x.blk,0,none⟩),.int .i64 (x.pos:Int),.string (S x.txt)] 315)).cell? ⟨wr.heap.size,0,none⟩=some (.pointer (some ⟨x.blk,0,none⟩)):=by rw [World.cell?_alloc_new]; rfl
    have am:(wr.alloc (.cells #[.pointer (some ⟨x.blk,0,none⟩),.int .i64 (x.pos:Int),.string (S x.txt)] 315)).cell? ⟨wr.heap.size,1,none⟩=some (.int .i64 (x.pos:Int)):=by rw [World.cell?_alloc_new]; rfl
    have an:(wr.alloc (.cells #[.pointer (some ⟨x.blk,0,none⟩),.int .i64 (x.pos:Int),.string (S x.txt)] 315)).cell? ⟨wr.heap.size,2,none⟩=some (.string (S x.txt)):=by rw [World.cell?_alloc_new]; rfl
    clear bc bd;go_upto_region 8 with fail
    clear bp br bs;have N:wr.heap.size < (wr.alloc (.cells #[.pointer (some ⟨x.blk,0,none⟩),.int .i64 (x.pos:Int),.string (S x.txt)] 315)).heap.size:=by simp
    generalize wr.alloc (.cells #[.pointer (some ⟨x.blk,0,none⟩),.int .i64 (x.pos:Int),.string (S x.txt)] 315)=wb at *
    by_cases he:x.blk=fb
    ·
     have O:Zq (others fb (ws.take (j+1))=F):=by show _=_; rw [bb.o,if_pos he,List.append_nil]
     rw [decide_eq_true he] at J;clear he;go_wp2_with fail;refine J.o.mono ?_;rintro e w3 ⟨rfl,B⟩;have A:=zq ((E.o.below M.o).below B);have R:Zq (Mod (λk=>k=g) w w3):=(Z.o.trans (Mod.of_below M.o)).trans (Mod.of_below B);clear B J al am an;go_wp2_with fail;go_roundw
     case rel=>exact ⟨j+1,cur,by omega,by go_num,by rw [O.o],X,by show _=_; rw [O.o]; exact HT.o,ad,A,R⟩
     case measure=>simp [intOf]; omega
    ·
     have O:Zq (others fb (ws.take (j+1))=F++[x]):=by show _=_; rw [bb.o,if_neg he]
     rw [decide_eq_false he] at J;clear he;go_wp2_with fail;refine J.o.mono ?_;rintro e w3 ⟨rfl,B⟩;have A:=zq ((E.o.below M.o).below B);have R:Zq (Mod (λk=>k=g) w w3):=(Z.o.trans (Mod.of_below M.o)).trans (Mod.of_below B);have ci:w3.cell? ⟨wr.heap.size,0,none⟩=some (.pointer (some ⟨x.blk,0,none⟩)):=by rw [B.cell N]; exact al
     have cj:w3.cell? ⟨wr.heap.size,1,none⟩=some (.int .i64 (x.pos:Int)):=by rw [B.cell N]; exact am
     have ck:w3.cell? ⟨wr.heap.size,2,none⟩=some (.string (S x.txt)):=by rw [B.cell N]; exact an
     clear B J al am an;have U:F.length < cur.length:=by omega
     have cm:w3.cell? ⟨g,F.length * 3,none⟩=some (.pointer (some ⟨cur[F.length].blk,0,none⟩)):=A.o.cell F.length 0 U (by omega);have cn:w3.cell? ⟨g,F.length * 3+1,none⟩=some (.int .i64 (cur[F.length].pos:Int)):=A.o.cell F.length 1 U (by omega);have co:w3.cell? ⟨g,F.length * 3+2,none⟩=some (.string (S cur[F.length].txt)):=A.o.cell F.length 2 U (by omega);have cq:∀ k,w3.frozen? ⟨g,k,none⟩=false:=λk=>A.o.frozen k
     have bh:=zq (A.o.put F.length U x);have b0:Zq (Mod (λk=>k=g) w3 (((w3.setCell ⟨g,F.length * 3,none⟩ (.pointer (some ⟨x.blk,0,none⟩))).setCell ⟨g,F.length * 3+1,none⟩ (.int .i64 (x.pos:Int))).setCell ⟨g,F.length * 3+2,none⟩ (.string (S x.txt)))):=((jv _ _ _ _).trans (jv _ _ _ _)).trans (jv _ _ _ _);have cr:wr.heap.size≠g:=by omega
     go_wp2_with fail;go_roundw
     case rel =>
      refine ⟨j+1,cur.set F.length x,by omega,by go_num,by rw [O.o,List.length_append]; go_num,by rw [List.length_set]; exact X,?_,?_,bh.o,R.o.trans b0.o⟩
      . show _=_
        rw [O.o,List.length_append];show (cur.set F.length x).take (F.length+1)=_;rw [List.take_succ_eq_append_getElem (by rw [List.length_set]; exact U),List.take_set_of_le (Nat.le_refl _),HT.o];simp
      . show _=_
        rw [List.drop_set_of_lt (by omega)];exact ad.o
     case measure=>simp [intOf]; omega
   ·
    obtain rfl:j=ws.length:=by omega
    rw [List.take_length] at a7 HT;have b9:=a1.o;obtain ⟨w4,ao,⟨cs,bj,bk,ap⟩,bl⟩:=af3 E.o (others fb ws).length (by omega) (cp - (others fb ws).length) 0;rw [X] at ao;rw [HT.o] at ap;have b1:=zq (show (dw cur++rest).length=(dw ws++rest).length from by rw [List.length_append,List.length_append,jw,jw,X]);have b2:=zq bj;have b3:=zq bk;have b4:=zq ap;have b5:=zq (Z.o.trans bl);rw [List.take_length];have b6:=zq ao;clear bj bk ap bl HT Y ao a1;generalize hFe:others fb ws=F at *
    have b7:Zq (others fb ws=F):=hFe;clear hFe;have cv:¬ cp=F.length:=by omega
    go_wp2_with fail;rw [b6.o];go_wp2_with fail;go_ret;rw [b7.o];exact ⟨rfl,⟨cs,b2.o,b3.o.trans b1.o,b4.o⟩,b5.o⟩
def mg (l:List (List UInt8×FileD)) (n:List UInt8) (t:List UInt8):List (List UInt8×FileD):=l.map λp=>if p.1=n then (p.1,{ p.2 with img:=t }) else p
theorem aiv (l:List (List UInt8×FileD)) (n t:List UInt8):(mg l n t).map (·.1)=l.map (·.1):=by
 unfold mg; rw [List.map_map]; apply List.map_congr_left; intro p _; show (if p.1=n then _ else p).1=_; split <;> rfl
theorem aiw (l:List (List UInt8×FileD)) (n t:List UInt8):(mg l n t).map (·.2.blk)=l.map (·.2.blk):=by
 unfold mg; rw [List.map_map]; apply List.map_congr_left; intro p _; show (if p.1=n then _ else p).2.blk=_; split <;> rfl
theorem aix (l:List (List UInt8×FileD)) (n t:List UInt8):(mg l n t).map (λp=>(Value.string (S p.1),Value.pointer (some ⟨p.2.blk,0,none⟩)))=l.map (λp=>(Value.string (S p.1),Value.pointer (some ⟨p.2.blk,0,none⟩))):=by
 unfold mg; rw [List.map_map]; apply List.map_congr_left; intro p _; show ((Value.string (S (if p.1=n then _ else p).1),Value.pointer (some ⟨(if p.1=n then _ else p).2.blk,0,none⟩)):Value×Value)=_; split <;> rfl
theorem um {l:List (List UInt8×FileD)} {n t:List UInt8} {q:List UInt8×FileD} (h:q∈mg l n t):∃ p∈l,q.2.blk=p.2.blk/\q.1=p.1/\q.2.now=p.2.now/\(p.1=n->q.2.img=t)/\(p.1≠n->q=p):=by
 obtain ⟨p,hp,rfl⟩:=List.mem_map.1 h
 by_cases e:p.1=n
 . rw [if_pos e]; exact ⟨p,hp,rfl,rfl,rfl,λ_=>rfl,λh=>absurd e h⟩
 . rw [if_neg e]; exact ⟨p,hp,rfl,rfl,rfl,λh=>absurd h e,λ_=>rfl⟩
theorem aiy {l:List (List UInt8×FileD)} {n t:List UInt8} {p:List UInt8×FileD} (h:p∈l):∃ q∈mg l n t,q.2.blk=p.2.blk :=
 ⟨_,List.mem_map.2 ⟨p,h,rfl⟩,by show (if p.1=n then _ else p).2.blk=_; split <;> rfl⟩
theorem alf (l:List (List UInt8×FileD)) (n t:List UInt8):gp (mg l n t)=gp l:=by
 unfold gp mg; rw [List.map_map]; congr 1; apply List.map_congr_left; intro p _; show (if p.1=n then _ else p).2.now.length=_; split <;> rfl
theorem DiskAt.set_img {base:Nat} {w:World} {D:DiskD} (h:DiskAt base w D) {n:List UInt8} {f:FileD} (hf:(n,f)∈D.files) (t:List UInt8) :
 DiskAt base (w.setCell ⟨f.blk,0,none⟩ (.string (S t))) { D with files:=mg D.files n t }/\Mod D.foot w (w.setCell ⟨f.blk,0,none⟩ (.string (S t))):=by
 have Z:Mod (λk=>k=f.blk) w (w.setCell ⟨f.blk,0,none⟩ (.string (S t))):=jv _ _ _ _;have U:Mod D.foot w (w.setCell ⟨f.blk,0,none⟩ (.string (S t))):=Z.mono (λk _ hk=>.inr (.inr (.inl ⟨_,hf,hk⟩)));have key:∀ k,D.foot k->k≠f.blk->(w.setCell ⟨f.blk,0,none⟩ (.string (S t))).heap[k]?=w.heap[k]?:=λk hk B=>Z.block k (h.lt hk) B
 have E:(w.setCell ⟨f.blk,0,none⟩ (.string (S t))).heap[f.blk]?=some (.cells #[.string (S t),.string (S f.now)] 312 (0,0)):=heap_set1 (h.file _ hf) _ rfl;have J:=h.apart.2.1 _ hf;obtain ⟨es,c,m1,m2,m3⟩:=h.map;refine ⟨⟨(key _ (.inl rfl) (λe=>J.1 e.symm)).trans h.head,⟨es,c,(key _ (.inr (.inl rfl)) (λe=>J.2 e.symm)).trans m1,m2,by rw [m3]; exact (aix _ _ _).symm⟩,λq F=>?_,?_,by show ((mg D.files n t).map (·.1)).Nodup; rw [aiv]; exact h.names,by show ((mg D.files n t).map (·.2.blk)).Nodup; rw [aiw]; exact h.blocks,⟨h.apart.1,λq F=>?_,λk hk=>⟨(h.apart.2.2 k hk).1,(h.apart.2.2 k hk).2.1,λq F=>?_⟩⟩,⟨h.above.1,h.above.2.1,λq F=>?_⟩,h.ints,by show ((gp (mg D.files n t):Nat):Int)<=D.cap; rw [alf]; exact h.fits,λx hx=>by obtain ⟨p,hp,e⟩:=h.waitf x hx; rw [<- e]; exact aiy hp⟩,U⟩
 ·
  obtain ⟨p,hp,hb,h1,M,h3,h4⟩:=um F
  by_cases e:p.1=n
  ·
   have N:p=(n,f):=by
    have h5:=qz D.files h.blocks
    have:∀ (l:List (List UInt8×FileD)),(l.map (·.1)).Nodup->∀ a∈l,∀ b∈l,a.1=b.1->a=b:=by
     intro l
     induction l with
     | nil=>intro _ a X; cases X
     | cons x l ih =>
       intro R a X b hb I;simp only [List.map_cons,List.nodup_cons] at R
       rcases List.mem_cons.1 X with e1 | h1
       . rcases List.mem_cons.1 hb with O | M
         . rw [e1,O]
         . exact absurd (show x.1∈l.map (·.1) from List.mem_map.2 ⟨b,M,by rw [<- e1]; exact I.symm⟩) R.1
       . rcases List.mem_cons.1 hb with O | M
         . exact absurd (show x.1∈l.map (·.1) from List.mem_map.2 ⟨a,h1,by rw [<- O]; exact I⟩) R.1
         . exact ih R.2 a h1 b M I
    exact this _ h.names p hp _ hf e
   have Y:q.2.cells=#[.string (S t),.string (S f.now)]:=by
    show #[Value.string (S q.2.img),Value.string (S q.2.now)]=_;rw [h3 e,M,N]
   rw [hb,Y,N]; exact E
  ·
   rw [h4 e]
   have B:p.2.blk≠f.blk:=λO=>by
    have a1:=qz D.files h.blocks p hp;have a2:=qz D.files h.blocks _ hf;simp only at a2;rw [O,a2] at a1;have:(n,f)=p:=Option.some.inj a1;exact e (by rw [<- this])
   exact (key _ (.inr (.inr (.inl ⟨p,hp,rfl⟩))) B).trans (h.file p hp)
 ·
  refine ⟨h.row.1,?_⟩
  rcases h.row.2 with h0 | ⟨g,cap,cur,e,hb,hg,r⟩
  . exact .inl h0
  . have A:D.wv.ownBlock=some g:=by rw [e]; rfl
    exact .inr ⟨g,cap,cur,e,hb,(key g (.inr (.inr (.inr A))) ((h.apart.2.2 g A).2.2 _ hf)).trans hg,r⟩
 . obtain ⟨p,hp,hb,_⟩:=um F
   rw [hb]; exact h.apart.2.1 p hp
 . obtain ⟨p,hp,hb,_⟩:=um F
   rw [hb]; exact (h.apart.2.2 k hk).2.2 p hp
 . obtain ⟨p,hp,hb,_⟩:=um F
   rw [hb]; exact h.above.2.2 p hp
theorem aiz (cp:Nat) (bx fb:Nat) (w:World) (hs:Seen w bx fb []) :
 Calls Tryz.prog 233 #[.slice none 0 cp,.func (.func 260) #[] #[.pointer (some ⟨bx,0,none⟩)]] w λe w'=>e=.returned (.slice none 0 cp)/\Below w.heap.size w w':=by
 have A:=zq (afd none cp [] (by simp) bx fb w (λk hk=>absurd hk (Nat.not_lt_zero _)) hs);rw [show acb fb [] 0 = -1 from rfl] at A;clear hs;go_enter Tryz.func233,Tryz.ntmps233;go_wp2_with fail;refine A.o.mono ?_;rintro e w2 ⟨rfl,hb⟩;have B:=zq hb;clear hb A;go_wp2_with fail;go_ret;exact ⟨rfl,B.o⟩
theorem aqg {base:Nat} {w:World} {D:DiskD} (h:DiskAt base w D) {n:List UInt8} {f:FileD} (hf:(n,f)∈D.files) {bx:Nat} (hbx:w.cell? ⟨bx,0,none⟩=some (.pointer (some ⟨f.blk,0,none⟩))):Seen w bx f.blk D.waits :=
 ⟨hbx,⟨_,_,h.file _ hf⟩,λx A=>by obtain ⟨p,hp,e⟩:=h.waitf x A; rw [<- e]; exact ⟨_,_,h.file p hp⟩⟩
theorem alg {base:Nat} {w:World} {D:DiskD} (h:DiskAt base w D) {n:List UInt8} {f:FileD} (hf:(n,f)∈D.files) {bx:Nat} (hbx:w.cell? ⟨bx,0,none⟩=some (.pointer (some ⟨f.blk,0,none⟩))) (hbf:¬ D.foot bx) (hwl:D.waits.length<=1048576) :
 Calls Tryz.prog 233 #[D.wv,.func (.func 260) #[] #[.pointer (some ⟨bx,0,none⟩)]] w λe w' =>
  ∃ wv,e=.returned wv/\w'.ownsRow base 315 3 wv (others f.blk D.waits).length (dw (others f.blk D.waits))/\w.grownBy w' D.wv.ownBlock/\wv.ownBlock=D.wv.ownBlock:=by
 have O:=aqg h hf hbx
 rcases h.row.2 with ⟨e,h0⟩ | ⟨g,cap,cur,e,hb,hg,hnc,hcm,hcs,htk⟩
 ·
  have B:D.waits=[]:=List.length_eq_zero_iff.1 h0;rw [e,B];rw [B] at O;refine (aiz 0 bx f.blk w O).mono ?_;rintro F w2 ⟨rfl,A⟩;exact ⟨_,rfl,⟨rfl,.inl ⟨rfl,rfl⟩⟩,⟨A.os,A.tape,A.output,A.size,λk hk _=>A.block k hk⟩,rfl⟩
 ·
  have E:D.wv.ownBlock=some g:=by rw [e]; rfl
  have I:Row3 w g D.waits (cur.toList.drop (D.waits.length * 3)):=by
   show w.heap[g]?=_;rw [hg,<- htk,List.take_append_drop,Array.toArray_toList]
  have J:(dw D.waits++cur.toList.drop (D.waits.length * 3)).length=cap * 3:=by rw [<- htk,List.take_append_drop,Array.length_toList]; exact hcs
  rw [e];have M:=h.apart.2.2 g E
  refine (aiu g cap D.waits (cur.toList.drop (D.waits.length * 3)) hwl hnc bx f.blk w I O (λF=>hbf (.inr (.inr (.inr (F ▸ E))))) (λF=>M.2.2 _ hf F.symm) (λx hx F=>by
   obtain ⟨p,hp,R⟩:=h.waitf x hx;exact M.2.2 p hp (by rw [R]; exact F.symm))).mono ?_
  rintro F w2 ⟨rfl,⟨cs,U,X,Y⟩,N⟩;have ad:(others f.blk D.waits).length<=D.waits.length:=List.length_filter_le _ _;refine ⟨_,rfl,⟨jw _,.inr ⟨g,cap,cs,rfl,hb,U,by omega,hcm,by rw [X]; exact J,Y⟩⟩,⟨N.os,N.tape,N.output,N.size,λk hk Z=>N.block k hk (λR=>Z (by rw [R]; rfl))⟩,rfl⟩
def DiskD.lasts (D:DiskD) (ns:List (List UInt8)) (wv:Value):DiskD :=
 { D with files:=D.files.map (λp=>if p.1∈ns then (p.1,{ p.2 with img:=p.2.now }) else p),wv:=wv,waits:=D.waits.filter (λx=>!D.files.any (λp=>decide (p.1∈ns) && decide (x.blk=p.2.blk))) }
theorem alh (D:DiskD):D.lasts [] D.wv=D:=by
 unfold DiskD.lasts
 have h1:D.files.map (λp=>if p.1∈([]:List (List UInt8)) then (p.1,{ p.2 with img:=p.2.now }) else p)=D.files:=by
  conv=>rhs; rw [<- List.map_id D.files]
  apply List.map_congr_left; intro p _; simp
 have A:D.waits.filter (λx=>!D.files.any (λp=>decide (p.1∈([]:List (List UInt8))) && decide (x.blk=p.2.blk)))=D.waits:=by
  rw [List.filter_eq_self]; intro x _; simp
 rw [h1,A]
theorem ai0 {D:DiskD} {l:List (List UInt8)} {n:List UInt8} {f:FileD} {wv wv':Value} (E:(D.files.map (·.1)).Nodup) (hf:(n,f)∈D.files) :
 ({ (D.lasts l wv) with files:=mg (D.lasts l wv).files n f.now,wv:=wv',waits:=others f.blk (D.lasts l wv).waits }:DiskD)=D.lasts (l++[n]) wv':=by
 unfold DiskD.lasts;simp only [DiskD.mk.injEq,true_and,and_true]
 constructor
 ·
  unfold mg;rw [List.map_map];apply List.map_congr_left;intro p hp
  have F:p.1=n->p=(n,f):=λe=>by
   have:∀ (l:List (List UInt8×FileD)),(l.map (·.1)).Nodup->∀ a∈l,∀ b∈l,a.1=b.1->a=b:=by
    intro l
    induction l with
    | nil=>intro _ a I; cases I
    | cons x l ih =>
      intro E a I b hb A;simp only [List.map_cons,List.nodup_cons] at E
      rcases List.mem_cons.1 I with e1 | h1
      . rcases List.mem_cons.1 hb with e2 | B
        . rw [e1,e2]
        . exact absurd (show x.1∈l.map (·.1) from List.mem_map.2 ⟨b,B,by rw [<- e1]; exact A.symm⟩) E.1
      . rcases List.mem_cons.1 hb with e2 | B
        . exact absurd (show x.1∈l.map (·.1) from List.mem_map.2 ⟨a,h1,by rw [<- e2]; exact A⟩) E.1
        . exact ih E.2 a h1 b B A
   exact this _ E p hp _ hf e
  show (if (if p.1∈l then (p.1,({ p.2 with img:=p.2.now }:FileD)) else p).1=n then _ else _)=_
  by_cases e:p.1=n
  ·
   have J:=F e;subst J
   by_cases h1:n∈l
   . simp [h1]
   . simp [h1]
  . by_cases h1:p.1∈l
    . simp [h1,e]
    . simp [h1,e]
 ·
  unfold others;rw [List.filter_filter];apply List.filter_congr;intro x _;unfold zm
  have M:D.files.any (λp=>decide (p.1∈l++[n]) && decide (x.blk=p.2.blk))=(decide (x.blk=f.blk) || D.files.any (λp=>decide (p.1∈l) && decide (x.blk=p.2.blk))):=by
   rw [Bool.eq_iff_iff];simp only [List.any_eq_true,Bool.and_eq_true,decide_eq_true_eq,Bool.or_eq_true,List.mem_append,List.mem_singleton]
   constructor
   ·
    rintro ⟨p,hp,h1 | h1,B⟩
    . exact .inr ⟨p,hp,h1,B⟩
    ·
     left
     have:∀ (l:List (List UInt8×FileD)),(l.map (·.1)).Nodup->∀ a∈l,∀ b∈l,a.1=b.1->a=b:=by
      intro l
      induction l with
      | nil=>intro _ a I; cases I
      | cons x l ih =>
        intro E a I b hb A;simp only [List.map_cons,List.nodup_cons] at E
        rcases List.mem_cons.1 I with e1 | h1
        . rcases List.mem_cons.1 hb with e2 | B
          . rw [e1,e2]
          . exact absurd (show x.1∈l.map (·.1) from List.mem_map.2 ⟨b,B,by rw [<- e1]; exact A.symm⟩) E.1
        . rcases List.mem_cons.1 hb with e2 | B
          . exact absurd (show x.1∈l.map (·.1) from List.mem_map.2 ⟨a,h1,by rw [<- e2]; exact A⟩) E.1
          . exact ih E.2 a h1 b B A
     have J:=this _ E p hp _ hf h1;rw [J] at B; exact B
   . rintro (h1 | ⟨p,hp,h1,B⟩)
     . exact ⟨_,hf,.inr rfl,h1⟩
     . exact ⟨p,hp,.inl h1,B⟩
  rw [M,Bool.not_or]
theorem ow {D:DiskD} (A:(D.files.map (·.1)).Nodup) {n:List UInt8} {f:FileD} (h:(n,f)∈D.files):D.find n=some f:=by
 unfold DiskD.find
 have:∀ (l:List (List UInt8×FileD)),(l.map (·.1)).Nodup->(n,f)∈l->l.find? (λp=>p.1 == n)=some (n,f):=by
  intro l
  induction l with
  | nil=>intro _ h; cases h
  | cons x l ih =>
    intro A h;simp only [List.map_cons,List.nodup_cons] at A
    rcases List.mem_cons.1 h with e | h
    . subst e; simp
    . have B:(x.1 == n)=false:=by rw [beq_eq_false_iff_ne]; intro e; exact A.1 (by rw [e]; exact List.mem_map.2 ⟨_,h,rfl⟩)
      rw [List.find?_cons,B]; exact ih A.2 h
 rw [this _ A h]; rfl
theorem ai1 {D:DiskD} {l:List (List UInt8)} {wv:Value} {n:List UInt8} {f:FileD} (h:(n,f)∈D.files):∃ f',(n,f')∈(D.lasts l wv).files/\f'.blk=f.blk/\f'.now=f.now:=by
 refine ⟨if n∈l then { f with img:=f.now } else f,?_,?_,?_⟩
 ·
  show _∈D.files.map _;refine List.mem_map.2 ⟨_,h,?_⟩;show (if n∈l then (n,({ f with img:=f.now }:FileD)) else (n,f))=_
  split <;> rfl
 . split <;> rfl
 . split <;> rfl
theorem uo {D:DiskD} {l:List (List UInt8)} {wv:Value} (h:wv.ownBlock=D.wv.ownBlock) (k:Nat):(D.lasts l wv).foot k↔D.foot k:=by
 have hb:(∃ p∈(D.lasts l wv).files,k=p.2.blk)↔∃ p∈D.files,k=p.2.blk:=by
  constructor
  . rintro ⟨p,hp,e⟩
    obtain ⟨q,A,rfl⟩:=List.mem_map.1 hp;exact ⟨q,A,by rw [e]; split <;> rfl⟩
  . rintro ⟨p,hp,e⟩
    exact ⟨_,List.mem_map.2 ⟨p,hp,rfl⟩,by rw [e]; split <;> rfl⟩
 unfold DiskD.foot;rw [hb,show (D.lasts l wv).wv=wv from rfl,h];exact Iff.rfl
theorem ali {base:Nat} {D:DiskD} (a:Option Addr) (cap:Nat) (ns:List (List UInt8)) (hns:ns.length<=1048576) (w:World) (h:DiskAt base w D) (hr:Row1 w a (ns.map λx=>.string (S x))) (haf:∀ ad,a=some ad->¬ D.foot ad.block)
 (hall:∀ n∈ns,∃ f,(n,f)∈D.files) (hwl:D.waits.length<=1048576) :
 Calls Tryz.prog 235 #[.pointer (some ⟨D.blk,0,none⟩),.slice a ns.length cap] w λe w'=>e=.returned (.tuple #[])/\∃ wv,wv.ownBlock=D.wv.ownBlock/\DiskAt base w' (D.lasts ns wv)/\Mod D.foot w w':=by
 have HR:=zq hr;have b6:=zq haf;have b7:=zq hall;have HD:=zq h;clear hr haf hall h;go_enter Tryz.func235,Tryz.ntmps235;go_wp2_with fail;go_loopw [9] (λi wr=>∃ (k:Nat) (wv:Value),k<=ns.length/\i=.int .i64 (k:Int)/\Zq (wv.ownBlock=D.wv.ownBlock)/\Zq (DiskAt base wr (D.lasts (ns.take k) wv))/\Zq (Mod D.foot w wr)) (λi _=>ns.length+1 - (intOf i).toNat)
 case atStart=>exact ⟨0,D.wv,by omega,rfl,rfl,by show DiskAt _ _ _; rw [List.take_zero,alh]; exact HD.o,Mod.refl _ _⟩
 case round =>
  obtain ⟨k,wv,hk,rfl,ac,I,ap⟩:=hrel
  by_cases hlt:k < ns.length
  ·
   obtain ⟨b,off,b8,O⟩:=(HR.o.mod ap.o b6.o) k (by rw [List.length_map]; exact hlt);rw [List.getElem_map] at O;obtain ⟨f,hf⟩:=b7.o ns[k] (List.getElem_mem hlt);have bd:ns.take (k+1)=ns.take k++[ns[k]]:=List.take_succ_eq_append_getElem hlt;have b9:=zq bd;have HF:=zq hf;clear bd hf;generalize ns[k]=nm at *
   obtain ⟨A,ar,bh,bj⟩:=ai1 (l:=ns.take k) (wv:=wv) HF.o;have ak:=zq ar;have ca:=zq bj;have cb:=zq bh;have R:=kr I.o nm;rw [ow I.o.names ar] at R;unfold uk at R;simp only [Option.map_some] at R;have cc:(D.lasts (ns.take k) wv).blk=D.blk:=rfl;have bk:(D.lasts (ns.take k) wv).mB=D.mB:=rfl;rw [bk] at R;have c2:wr.cell? ⟨D.blk,2,none⟩=some (.map (some D.mB)):=I.o.cell 2 _ rfl;have av:Zq (Below wr.heap.size wr (wr.alloc (.cells #[.pointer (some ⟨A.blk,0,none⟩)] 258))):=(Below.refl _ _).alloc (Nat.le_refl _) _;clear ar bh bj cc bk;rw [b8] at *
   go_upto_region 4 with fail
   clear R c2 O;have a1:=I.o.below av.o;have U:¬ (D.lasts (ns.take k) wv).foot wr.heap.size:=λh=>by have:=I.o.lt h; omega
   have al:(wr.alloc (.cells #[.pointer (some ⟨A.blk,0,none⟩)] 258)).cell? ⟨wr.heap.size,0,none⟩=some (.pointer (some ⟨A.blk,0,none⟩)):=by rw [World.cell?_alloc_new]; rfl
   have bl:Zq (Mod D.foot w (wr.alloc (.cells #[.pointer (some ⟨A.blk,0,none⟩)] 258))):=ap.o.trans (Mod.of_below av.o);have bm:wr.heap.size < (wr.alloc (.cells #[.pointer (some ⟨A.blk,0,none⟩)] 258)).heap.size:=by simp
   clear av I;generalize wr.alloc (.cells #[.pointer (some ⟨A.blk,0,none⟩)] 258)=w1 at *
   generalize wr.heap.size=bx at *
   have B:=a1.file _ ak.o;have cd:w1.cell? ⟨A.blk,1,none⟩=some (.string (S A.now)):=by unfold World.cell?; rw [show w1.heap[(⟨A.blk,1,none⟩:Addr).block]?=_ from B]; rfl
   have ce:w1.cell? ⟨A.blk,0,none⟩=some (.string (S A.img)):=by unfold World.cell?; rw [show w1.heap[(⟨A.blk,0,none⟩:Addr).block]?=_ from B]; rfl
   have cf:w1.frozen? ⟨A.blk,0,none⟩=false:=by unfold World.frozen?; rw [show w1.heap[(⟨A.blk,0,none⟩:Addr).block]?=_ from B]; rfl
   obtain ⟨bo,bp⟩:=a1.set_img ak.o A.now;have br:bx≠A.blk:=λe=>U (.inr (.inr (.inl ⟨_,ak.o,e⟩)))
   have am:((w1.setCell ⟨A.blk,0,none⟩ (.string (S A.now))).drew).cell? ⟨bx,0,none⟩=some (.pointer (some ⟨A.blk,0,none⟩)):=by
    show (w1.setCell ⟨A.blk,0,none⟩ (.string (S A.now))).cell? ⟨bx,0,none⟩=_;rw [World.cell?_setCell_other _ _ _ _ (λq=>br (congrArg Addr.block q).symm)]; exact al
   have bs:=bo.below ((Below.refl _ (w1.setCell ⟨A.blk,0,none⟩ (.string (S A.now)))).drew)
   have bw:∀ M,(({ (D.lasts (ns.take k) wv) with files:=mg (D.lasts (ns.take k) wv).files nm A.now }:DiskD)).foot M->(D.lasts (ns.take k) wv).foot M:=λM E=>by
    rcases E with h | h | ⟨p,hp,h⟩ | h
    . exact .inl h
    . exact .inr (.inl h)
    . obtain ⟨q,hq,hb,_⟩:=um hp
      exact .inr (.inr (.inl ⟨q,hq,h.trans hb⟩))
    . exact .inr (.inr (.inr h))
   have cg:Zq (Mod D.foot w ((w1.setCell ⟨A.blk,0,none⟩ (.string (S A.now))).drew)):=(bl.o.trans (bp.mono (λM _ E=>(uo ac.o M).1 E))).drew;have X:∃ f2,(nm,f2)∈mg (D.lasts (ns.take k) wv).files nm A.now/\f2.blk=A.blk:=⟨{ A with img:=A.now },List.mem_map.2 ⟨_,ak.o,by rw [if_pos rfl]⟩,rfl⟩;have J:=zq bs;have bz:=zq bw;have a6:=zq X;have b0:=zq U;clear a1 bo bs bp B bw X U bl br;go_region;clear cd ce cf al bm;generalize (w1.setCell ⟨A.blk,0,none⟩ (.string (S A.now))).drew=w2 at *
   obtain ⟨f2,b1,a7⟩:=a6.o;have an:(D.lasts (ns.take k) wv).waits.length<=1048576:=Nat.le_trans (List.length_filter_le _ _) hwl;have a8:=zq (alg J.o b1 (bx:=bx) (by rw [a7]; exact am) (λh=>b0.o (bz.o _ h)) an);obtain ⟨aw,cw,N⟩:=lq J.o.row;replace N:wv=.slice aw (D.lasts (ns.take k) wv).waits.length cw:=N;have c3:w2.cell? ⟨D.blk,3,none⟩=some (.slice aw (D.lasts (ns.take k) wv).waits.length cw):=J.o.cell 3 _ (by show some wv=_; rw [<- N]);rw [a7] at a8
   have ao:Zq (Calls Tryz.prog 233 #[.slice aw (D.lasts (ns.take k) wv).waits.length cw,.func (.func 260) #[] #[.pointer (some ⟨bx,0,none⟩)]] w2 λe w' =>
    ∃ F,e=.returned F/\w'.ownsRow base 315 3 F (others A.blk (D.lasts (ns.take k) wv).waits).length (dw (others A.blk (D.lasts (ns.take k) wv).waits))/\w2.grownBy w' wv.ownBlock/\F.ownBlock=wv.ownBlock):=by
    have h:=a8.o;show Calls _ _ _ _ _;rw [<- N];exact h
   clear a8 b1 a7 am an;have ck:D.blk < w2.heap.size:=J.o.lt (.inl rfl);have Y:∀ M,wv.ownBlock=some M->M≠D.blk:=λM E=>(J.o.apart.2.2 M E).1
   have b2:=zq Y;have cs:=zq N;clear Y N;go_wp2_with fail;refine ao.o.mono ?_;rintro e w3 ⟨F,rfl,Z,ba,bb⟩;have ab:w3.heap[D.blk]?=w2.heap[D.blk]?:=ba.block _ ck (λe=>b2.o _ e.symm rfl);have bc:=ab.trans J.o.head;have hu:∃ u,w3.cell? ⟨D.blk,3,none⟩=some u:=⟨wv,by unfold World.cell?; rw [show w3.heap[(⟨D.blk,3,none⟩:Addr).block]?=_ from bc]; rfl⟩;obtain ⟨u,hu⟩:=hu;have cy:w3.frozen? ⟨D.blk,3,none⟩=false:=by unfold World.frozen?; rw [show w3.heap[(⟨D.blk,3,none⟩:Addr).block]?=_ from bc]; rfl
   obtain ⟨b3,b4⟩:=J.o.set_waits F (others A.blk (D.lasts (ns.take k) wv).waits) ba Z (λM E=>.inl (bb ▸ E)) (λx hx=>J.o.waitf x (List.mem_filter.1 hx).1);have cm:Zq (Mod D.foot w (w3.setCell ⟨D.blk,3,none⟩ F)):=cg.o.trans (b4.mono (λM _ E=>(uo ac.o M).1 (bz.o M E)))
   have cn:Zq (DiskAt base (w3.setCell ⟨D.blk,3,none⟩ F) (D.lasts (ns.take (k+1)) F)):=by
    show DiskAt _ _ _;rw [b9.o,<- ai0 (wv:=wv) HD.o.names HF.o,<- ca.o,<- cb.o];exact b3
   have b5:Zq (F.ownBlock=D.wv.ownBlock):=bb.trans ac.o;obtain ⟨a2,c7,co⟩:=lq Z;generalize (others A.blk (D.lasts (ns.take k) wv).waits).length=m2 at *
   clear Z ba bb ab bc b3 b4 ao;subst co;go_wp2_with fail;go_roundw
   case rel=>exact ⟨k+1,_,by omega,by go_num,b5,cn,cm⟩
   case measure=>simp [intOf]; omega
  ·
   obtain rfl:k=ns.length:=by omega
   rw [List.take_length] at I;go_wp2_with fail;go_end0;exact ⟨rfl,wv,ac.o,I.o,ap.o⟩
def DiskD.syncE (D:DiskD) (ns:List (List UInt8)):Int:=if D.bars ns=0 then D.done else D.bars ns
def DiskD.sync (D:DiskD) (ns:List (List UInt8)) (wv:Value):DiskD:=if D.bars ns=0 then (if D.left=0 then D.burn else D.burn.lasts ns wv) else D
theorem sync_any {base:Nat} {D:DiskD} (a:Option Addr) (cap:Nat) (ns:List (List UInt8)) (hns:ns.length<=1048576) (w:World) (h:DiskAt base w D) (hr:Row1 w a (ns.map λx=>.string (S x))) (haf:∀ ad,a=some ad->¬ D.foot ad.block) (hwl:D.waits.length<=1048576) :
 Calls Tryz.prog 177 #[.pointer (some ⟨D.blk,0,none⟩),.slice a ns.length cap] w λe w'=>∃ wv,e=.returned (.int .i64 (D.syncE ns))/\wv.ownBlock=D.wv.ownBlock/\DiskAt base w' (D.sync ns wv)/\Mod D.foot w w':=by
 have U:=zq (bars_any a cap ns hns w h hr);have X:=zq (abp w h);have E:Zq (D.syncE ns=if D.bars ns=0 then D.done else D.bars ns):=rfl;have HY:Zq (∀ wv,D.sync ns wv=if D.bars ns=0 then (if D.left=0 then D.burn else D.burn.lasts ns wv) else D):=λ_=>rfl
 have Y:Zq (D.bars ns=if D.down then 8 else if ns.all λn=>(D.find n).isSome then 0 else 9):=rfl;have HR:=zq hr;have Z:=zq haf;have HD:=zq h;clear hr haf h;go_enter Tryz.func177,Tryz.ntmps177;go_wp2_with fail;refine U.o.mono ?_;rintro e w1 ⟨rfl,rfl⟩;clear U
 by_cases hb0:D.bars ns=0
 ·
  have B:=zq hb0;rw [hb0] at E HY ⊢;clear hb0;go_wp2_with fail;refine X.o.mono ?_;rintro e w2 ⟨rfl,ab,ac⟩;have ak:=zq ab;have I:Zq (Mod D.foot w1 w2):=Mod.below_foot ac;clear ab ac X
  by_cases h0:D.left=0
  ·
   have A:D.done=8:=if_pos h0;rw [A] at E ⊢;clear A;go_wp2_with fail;go_ret;exact ⟨D.wv,by rw [E.o]; rfl,rfl,by rw [HY.o,if_pos trivial,if_pos h0]; exact ak.o,I.o⟩
  ·
   have A:D.done=0:=if_neg h0;rw [A] at E ⊢;clear A
   have F:∀ n∈ns,∃ f,(n,f)∈D.burn.files:=λn hn=>by
    have h1:=Y.o;rw [B.o] at h1
    have R:(ns.all λn=>(D.find n).isSome)=true:=by
     cases h3:(ns.all λn=>(D.find n).isSome) with
     | true=>rfl
     | false=>rw [h3] at h1; cases J:D.down <;> rw [J] at h1 <;> simp at h1
    have h4:=List.all_eq_true.1 R n hn;obtain ⟨f,hf⟩:=Option.isSome_iff_exists.1 h4;exact ⟨f,by rw [(lm D).2.2.2.1]; exact nz hf⟩
   have M:=zq (ali (D:=D.burn) a cap ns hns w2 ak.o (HR.o.mod I.o Z.o) (λad ar hf=>Z.o ad ar (by rw [(lm D).1] at hf; exact hf)) F (by rw [(lm D).2.2.2.2.2.1]; exact hwl));rw [(lm D).2.1] at M;clear F;go_wp2_with fail;refine M.o.mono ?_;rintro e w3 ⟨rfl,wv,hw,al,N⟩;have a1:=zq al;have a6:Zq (Mod D.foot w1 w3):=I.o.trans (by rw [(lm D).1] at N; exact N);have a7:Zq (wv.ownBlock=D.wv.ownBlock):=by rw [(lm D).2.2.2.2.1] at hw; exact hw
   clear al N hw M;go_wp2_with fail;go_ret;exact ⟨wv,by rw [E.o]; rfl,a7.o,by rw [HY.o,if_pos trivial,if_neg h0]; exact a1.o,a6.o⟩
 ·
  have B:=zq hb0
  have O:D.bars ns=8\/D.bars ns=9:=by
   have h1:=Y.o;have R:=B.o;rw [h1] at R ⊢
   split
   . exact .inl rfl
   . rename_i J
     rw [if_neg J] at R
     split
     . rename_i h3; rw [if_pos h3] at R; exact absurd rfl R
     . exact .inr rfl
  clear hb0;replace E:Zq (D.syncE ns=D.bars ns):=by show _=_; rw [E.o,if_neg B.o]
  generalize D.bars ns=bz at *
  rcases O with rfl | rfl
  all_goals
   go_wp2_with fail;go_ret;exact ⟨D.wv,by rw [E.o]; rfl,rfl,by rw [HY.o,if_neg (by decide)]; exact HD.o,Mod.refl _ _⟩
end DskW
namespace SegW
open Go.RowKit OctMath DskW
structure SegD where
 blk:Nat
 db:Nat
 head:List UInt8
 size:Nat
 n:Nat
 b:Nat
 txt:List UInt8
 synced:Nat
 pv:Value
def SegD.e (R:SegD):Nat:=R.b+R.txt.length
def SegD.places (R:SegD):List Nat:=(List.range R.n).map λi=>R.b+i * R.size
def SegD.cells (R:SegD):Array Value:=#[.pointer (some ⟨R.db,0,none⟩),.string (S R.head),.int .i64 (R.size:Int),R.pv,.int .i64 (R.e:Int),.int .i64 (R.synced:Int)]
structure SegAt (base:Nat) (w:World) (R:SegD):Prop where
 cells:w.heap[R.blk]?=some (.cells R.cells 206 (0,0))
 row:w.ownsRow base 3 1 R.pv R.n (R.places.map λ(p:Nat)=>Value.int .i64 (p:Int))
 apart:∀ k,R.pv.ownBlock=some k->k≠R.blk
 above:base<=R.blk
 sz:16<=R.size/\R.size<=4096
 empty:R.n=0->R.b=0/\R.txt=[]
 long:0 < R.n->(R.n - 1) * R.size<=R.txt.length/\R.txt.length<=R.n * R.size/\R.b+(R.n - 1) * R.size<=99999999
 mult:R.b % R.size=0
 syn:R.synced<=R.e
 hd:R.head.length<=1048576
def SegD.foot (R:SegD) (k:Nat):Prop:=k=R.blk\/R.pv.ownBlock=some k
theorem SegAt.lt {base:Nat} {w:World} {R:SegD} (h:SegAt base w R) {k:Nat} (hk:R.foot k):k < w.heap.size:=by
 rcases hk with rfl | hk
 . exact (Array.getElem?_eq_some_iff.1 h.cells).1
 . rcases h.row.2 with ⟨e,_⟩ | ⟨g,cap,cur,e,_,hg,_⟩
   . rw [e] at hk; cases hk
   . rw [e] at hk; cases hk; exact (Array.getElem?_eq_some_iff.1 hg).1
theorem ownsRow_mod {base:Nat} {w w':World} {M:Nat->Prop} {e:TypeId} {size n:Nat} {v:Value} {xs:List Value} (h:w.ownsRow base e size v n xs) (hm:Mod M w w') (hM:∀ k,v.ownBlock=some k->¬ M k):w'.ownsRow base e size v n xs:=by
 refine ⟨h.1,?_⟩
 rcases h.2 with h0 | ⟨g,cap,cur,e,hb,hg,r⟩
 . exact .inl h0
 . exact .inr ⟨g,cap,cur,e,hb,(hm.block g (Array.getElem?_eq_some_iff.1 hg).1 (hM g (by rw [e]; rfl))).trans hg,r⟩
theorem SegAt.mod {base:Nat} {w w':World} {R:SegD} {M:Nat->Prop} (h:SegAt base w R) (hm:Mod M w w') (hM:∀ k,R.foot k->¬ M k):SegAt base w' R :=
 { h with
  cells:=(hm.block _ (h.lt (.inl rfl)) (hM _ (.inl rfl))).trans h.cells
  row:=ownsRow_mod h.row hm λk hk=>hM k (.inr hk) }
theorem SegAt.below {base:Nat} {w w':World} {R:SegD} (h:SegAt base w R) (hb:Below w.heap.size w w'):SegAt base w' R :=
 h.mod (M:=λ_=>False) (Mod.of_below hb) (λ_ _ h=>h)
theorem SegAt.cell {base:Nat} {w:World} {R:SegD} (h:SegAt base w R) (k:Nat) (v:Value) (hv:R.cells[k]?=some v):w.cell? ⟨R.blk,k,Option.none⟩=some v:=by
 unfold World.cell?;rw [h.cells]
 simpa using hv
theorem SegAt.place {base:Nat} {w:World} {R:SegD} (h:SegAt base w R) (i:Nat) (hi:i < R.n):∃ g cap,R.pv=.slice (some ⟨g,0,Option.none⟩) R.n cap/\R.n<=cap/\w.cell? ⟨g,i,Option.none⟩=some (.int .i64 ((R.b+i * R.size:Nat):Int)):=by
 rcases h.row.2 with ⟨_,e⟩ | ⟨g,cap,cur,e,_,hg,hn,_,hsz,ht⟩
 . omega
 ·
  refine ⟨g,cap,e,hn,?_⟩;unfold World.cell?;rw [hg]
  have h1:(cur.toList.take (R.n * 1))[i]?=some (.int .i64 ((R.b+i * R.size:Nat):Int)):=by
   rw [ht];simp [SegD.places,hi]
  rw [List.getElem?_take_of_lt (by omega)] at h1
  simpa using h1
theorem SegAt.pv_nil {base:Nat} {w:World} {R:SegD} (h:SegAt base w R):∃ a cap,R.pv=.slice a R.n cap:=by
 rcases h.row.2 with ⟨e,e0⟩ | ⟨g,cap,cur,e,_⟩
 . exact ⟨_,_,by rw [e,e0]⟩
 . exact ⟨_,_,e⟩
theorem SegAt.e_le {base:Nat} {w:World} {R:SegD} (h:SegAt base w R):R.e<=100004095:=by
 unfold SegD.e
 by_cases h0:R.n=0
 . obtain ⟨h1,A⟩:=h.empty h0
   rw [h1,A]; simp
 ·
  obtain ⟨h1,A,E⟩:=h.long (by omega);have:=h.sz
  have F:R.n * R.size=(R.n - 1) * R.size+R.size:=by
   obtain ⟨m,B⟩:∃ m,R.n=m+1:=⟨R.n - 1,by omega⟩;rw [B,Nat.add_mul]; simp
  omega
theorem begin_any {base:Nat} {R:SegD} (w:World) (h:SegAt base w R) :
 Calls Tryz.prog 70 #[.pointer (some ⟨R.blk,0,none⟩)] w λe w'=>e=.returned (.int .i64 (R.b:Int))/\w'=w:=by
 obtain ⟨a,E,A⟩:=h.pv_nil;have c3:w.cell? ⟨R.blk,3,none⟩=some (.slice a R.n E):=h.cell 3 _ (by show some R.pv=_; rw [A])
 by_cases h0:R.n=0
 ·
  have hb:=(h.empty h0).1;rw [h0] at c3;rw [hb];clear h A;go_enter Tryz.func70,Tryz.ntmps70;go_wp2_with fail;go_ret;exact ⟨rfl,rfl⟩
 ·
  obtain ⟨g,cap,hp,F,hc⟩:=h.place 0 (by omega);rw [Nat.zero_mul,Nat.add_zero] at hc;rw [A] at hp;injection hp with e1 e2 e3
  subst e1;have B:0 < R.n:=by omega
  have I:¬ (R.n:Int)=0:=by omega
  clear h A e3;go_enter Tryz.func70,Tryz.ntmps70;go_wp2_with fail;go_ret;exact ⟨rfl,rfl⟩
theorem end_any {base:Nat} {R:SegD} (w:World) (h:SegAt base w R) :
 Calls Tryz.prog 125 #[.pointer (some ⟨R.blk,0,none⟩)] w λe w'=>e=.returned (.int .i64 (R.e:Int))/\w'=w:=by
 have c4:w.cell? ⟨R.blk,4,none⟩=some (.int .i64 (R.e:Int)):=h.cell 4 _ rfl;clear h;go_enter Tryz.func125,Tryz.ntmps125;go_wp2_with fail;go_ret;exact ⟨rfl,rfl⟩
theorem synced_any {base:Nat} {R:SegD} (w:World) (h:SegAt base w R) :
 Calls Tryz.prog 121 #[.pointer (some ⟨R.blk,0,none⟩)] w λe w'=>e=.returned (.int .i64 (R.synced:Int))/\w'=w:=by
 have c5:w.cell? ⟨R.blk,5,none⟩=some (.int .i64 (R.synced:Int)):=h.cell 5 _ rfl;clear h;go_enter Tryz.func121,Tryz.ntmps121;go_wp2_with fail;go_ret;exact ⟨rfl,rfl⟩
theorem ad3 {base:Nat} {R:SegD} (w:World) (h:SegAt base w R) (ht:Tab w) (p:Nat) (hp:p<=99999999) :
 Calls Tryz.prog 137 #[.pointer (some ⟨R.blk,0,none⟩),.int .i64 (p:Int)] w λe w'=>e=.returned (.string (S (ah R.head p)))/\Below w.heap.size w w':=by
 have c1:w.cell? ⟨R.blk,1,none⟩=some (.string (S R.head)):=h.cell 1 _ rfl;have c2:=agq R.head (p:Int) w ht (by omega) (by have:=h.hd; omega);rw [decide_eq_true (by omega:0<=(p:Int)/\(p:Int)<=99999999),show zl R.head (p:Int)=ah R.head p by unfold zl; rw [if_pos (by omega)]; rfl] at c2;have C:=zq c2;clear h ht c2;generalize ah R.head p=y at *
 go_enter Tryz.func137,Tryz.ntmps137;go_wp2_with fail;refine C.o.mono ?_;rintro e w2 ⟨rfl,hb⟩;have A:=zq hb;clear hb C;go_wp2_with fail;go_ret;exact ⟨rfl,A.o⟩
def SegD.room (R:SegD):Nat:=if 0 < R.n/\R.txt.length < R.n * R.size then R.n * R.size - R.txt.length else R.size
theorem xz {n s:Nat} (h:0 < n):n * s=(n - 1) * s+s:=by
 obtain ⟨m,rfl⟩:∃ m,n=m+1:=⟨n - 1,by omega⟩;rw [Nat.add_mul]; simp
theorem room_any {base:Nat} {R:SegD} (w:World) (h:SegAt base w R) :
 Calls Tryz.prog 189 #[.pointer (some ⟨R.blk,0,none⟩)] w λe w'=>e=.returned (.int .i64 (R.room:Int))/\Drawn w w':=by
 obtain ⟨a,O,I⟩:=h.pv_nil;have c2:w.cell? ⟨R.blk,2,none⟩=some (.int .i64 (R.size:Int)):=h.cell 2 _ rfl;have c3:w.cell? ⟨R.blk,3,none⟩=some (.slice a R.n O):=h.cell 3 _ (by show some R.pv=_; rw [I]);have c4:w.cell? ⟨R.blk,4,none⟩=some (.int .i64 (R.e:Int)):=h.cell 4 _ rfl;obtain ⟨U,X⟩:=h.sz
 by_cases h0:R.n=0
 ·
  have B:R.room=R.size:=by unfold SegD.room; rw [if_neg (by omega)]
  rw [B];rw [h0] at c3;clear h I B c4;generalize R.size=s at *
  go_enter Tryz.func189,Tryz.ntmps189;go_wp2_with fail;go_quiet (fail);go_wp2_with fail;go_ret;exact ⟨rfl,⟨_,rfl⟩⟩
 ·
  obtain ⟨g,cap,hp,Y,hc⟩:=h.place (R.n - 1) (by omega);rw [I] at hp;injection hp with e1 e2 e3
  subst e1;obtain ⟨l1,l2,l3⟩:=h.long (by omega);have Z:=xz (s:=R.size) (by omega:0 < R.n);have ab:((R.n - 1:Nat):Int)=(R.n:Int) - 1:=by omega
  have E:R.e=R.b+R.txt.length:=rfl;have J:0 < R.n:=by omega
  have N:R.n<=1073741824:=by
   have:=Nat.le_mul_of_pos_right R.n (by omega:0 < R.size);omega
  have A:Zq (R.room=if 0 < R.n/\R.txt.length < R.n * R.size then R.n * R.size - R.txt.length else R.size):=rfl;clear h I e3;generalize R.room=r at *
  generalize R.e=ee at *
  generalize R.size=s at *
  generalize R.txt.length=tl at *
  generalize hns:R.n * s=ns at *
  generalize hpl:R.b+(R.n - 1) * s=pl at *
  have F:(pl:Int)+(s:Int)=((R.b+ns:Nat):Int):=by omega
  generalize R.b=b at *
  generalize R.n=n at *
  generalize (n - 1) * s=ps at *
  have ac:(0:Int) < (n:Int):=by omega
  by_cases hlt:tl < ns
  ·
   have B:(r:Int)=(pl:Int)+(s:Int) - (ee:Int):=by have:=A.o; rw [if_pos ⟨J,hlt⟩] at this; omega
   have M:(ee:Int) < (pl:Int)+(s:Int):=by omega
   rw [B];clear B A hns hpl F E;go_enter Tryz.func189,Tryz.ntmps189;go_wp2_with fail;go_quiet (fail);go_wp2_with fail;go_quiet (fail);go_wp2_with fail;go_ret;exact ⟨rfl,(Drawn.refl w).drewN _ |>.drewN _⟩
  ·
   have B:r=s:=by have:=A.o; rw [if_neg (by omega)] at this; omega
   have M:¬ (ee:Int) < (pl:Int)+(s:Int):=by omega
   rw [B];clear B A hns hpl F E;go_enter Tryz.func189,Tryz.ntmps189;go_wp2_with fail;go_quiet (fail);go_wp2_with fail;go_ret;exact ⟨rfl,⟨_,rfl⟩⟩
theorem of_any {base:Nat} {R:SegD} (p:Nat) (hp:p<=1073741824) (w:World) (h:SegAt base w R) :
 Calls Tryz.prog 135 #[.pointer (some ⟨R.blk,0,none⟩),.int .i64 (p:Int)] w λe w'=>e=.returned (.int .i64 ((p / R.size * R.size:Nat):Int))/\Drawn w w':=by
 have c2:w.cell? ⟨R.blk,2,none⟩=some (.int .i64 (R.size:Int)):=h.cell 2 _ rfl;obtain ⟨B,E⟩:=h.sz;have J:p / R.size * R.size<=p:=Nat.div_mul_le_self _ _;have F:p / R.size<=p:=Nat.div_le_self _ _;have hd:Int.tdiv (p:Int) (R.size:Int)=((p / R.size:Nat):Int):=rfl;have M:((p / R.size:Nat):Int) * (R.size:Int)=((p / R.size * R.size:Nat):Int):=by rw [Int.natCast_mul]
 have I:¬ (R.size:Int)=0:=by omega
 clear h;generalize hA:p / R.size * R.size=A at *
 generalize p / R.size=q at *
 generalize R.size=s at *
 go_enter Tryz.func135,Tryz.ntmps135;go_wp2_with fail;go_quiet (fail);go_wp2_with fail;go_ret;exact ⟨rfl,⟨_,rfl⟩⟩
def SegD.left (R:SegD) (p:Int):Int:=if p < (R.b:Int)\/(R.e:Int)<=p then 0 else (min (p.toNat / R.size * R.size+R.size) R.e:Nat) - p
theorem left_any {base:Nat} {R:SegD} (p:Int) (hp : -9223372036854775808<=p/\p<=9223372036854775807) (w:World) (h:SegAt base w R) :
 Calls Tryz.prog 134 #[.pointer (some ⟨R.blk,0,none⟩),.int .i64 p] w λe w'=>e=.returned (.int .i64 (R.left p))/\Drawn w w':=by
 have c2:w.cell? ⟨R.blk,2,none⟩=some (.int .i64 (R.size:Int)):=h.cell 2 _ rfl;have c4:w.cell? ⟨R.blk,4,none⟩=some (.int .i64 (R.e:Int)):=h.cell 4 _ rfl;have C:=zq (begin_any w h);have F:=h.e_le;obtain ⟨I,J⟩:=h.sz;have B:Zq (R.left p=if p < (R.b:Int)\/(R.e:Int)<=p then 0 else (min (p.toNat / R.size * R.size+R.size) R.e:Nat) - p):=rfl
 by_cases h1:p < (R.b:Int)
 ·
  have A:R.left p=0:=by rw [B.o,if_pos (.inl h1)]
  rw [A];clear A B h;go_enter Tryz.func134,Tryz.ntmps134;go_wp2_with fail;refine C.o.mono ?_;rintro e w' ⟨rfl,rfl⟩;go_wp2_with fail;go_ret;exact ⟨rfl,Drawn.refl _⟩
 ·
  by_cases h2:(R.e:Int)<=p
  ·
   have A:R.left p=0:=by rw [B.o,if_pos (.inr h2)]
   rw [A];clear A B h;go_enter Tryz.func134,Tryz.ntmps134;go_wp2_with fail;refine C.o.mono ?_;rintro e w' ⟨rfl,rfl⟩;go_wp2_with fail;go_ret;exact ⟨rfl,Drawn.refl _⟩
  ·
   obtain ⟨u,rfl⟩:∃ u:Nat,p=(u:Int):=⟨p.toNat,by omega⟩;have A:R.left (u:Int)=(min (u / R.size * R.size+R.size) R.e:Nat) - (u:Int):=by rw [B.o,if_neg (by omega),Int.toNat_natCast]
   have M:=zq (λ(k:Nat)=>of_any u (by omega) (w.drewN k) (h.below (((Drawn.refl w).drewN k).below _)));have N:u / R.size * R.size<=u:=Nat.div_mul_le_self _ _;have E:((min (u / R.size * R.size+R.size) R.e:Nat):Int)=min (((u / R.size * R.size:Nat):Int)+(R.size:Int)) (R.e:Int):=by omega
   rw [A,E];clear A B h E;generalize u / R.size * R.size=q at *
   generalize R.size=s at *
   generalize R.e=ee at *
   generalize R.b=b at *
   go_enter Tryz.func134,Tryz.ntmps134;go_wp2_with fail;refine C.o.mono ?_;rintro e w' ⟨rfl,rfl⟩;go_wp2_with fail;go_quiet (first | (go_at_call 135; exact qw (M.o _)));go_wp2_with fail;go_ret;exact ⟨rfl,⟨_,rfl⟩⟩
def zn (D:DiskD) (R:SegD):Prop:=∀ i,i < R.n->D.bytes (ah R.head (R.b+i * R.size))=(R.txt.drop (i * R.size)).take R.size/\(D.find (ah R.head (R.b+i * R.size))).isSome=true
def SegD.readB (R:SegD) (p n:Int):Bool:=decide (1<=n) && decide (n<=R.left p)
def SegD.readE (D:DiskD) (R:SegD) (p n:Int):Int:=if D.down then 8 else if n=0/\(R.b:Int)<=p/\p<=(R.e:Int) then 0 else if R.readB p n then 0 else 2
def SegD.readT (D:DiskD) (R:SegD) (p n:Int):List UInt8:=if D.down=false/\R.readB p n=true then (R.txt.drop (p.toNat - R.b)).take n.toNat else []
theorem agw {b s p:Nat} (hm:b % s=0) (hs:0 < s) (hp:b<=p):∃ i,p / s * s=b+i * s/\b+i * s<=p/\p < b+i * s+s/\i=(p - b) / s:=by
 obtain ⟨q,rfl⟩:∃ q,b=q * s:=⟨b / s,by have:=Nat.div_add_mod b s; rw [hm,Nat.add_zero,Nat.mul_comm] at this; exact this.symm⟩;obtain ⟨d,rfl⟩:∃ d,p=q * s+d:=⟨p - q * s,by omega⟩;have h1:(q * s+d) / s=q+d / s:=by rw [Nat.mul_comm,Nat.mul_add_div hs]
 have A:=Nat.div_add_mod d s;have B:=Nat.mod_lt d hs;rw [Nat.mul_comm] at A;refine ⟨d / s,by rw [h1,Nat.add_mul],by omega,by omega,by rw [Nat.add_sub_cancel_left]⟩
theorem ai2 {base:Nat} {w:World} {D:DiskD} {R:SegD} (h:SegAt base w R) (hok:zn D R) {p:Nat} {n:Int} (h1:R.b<=p) (h2:p < R.e) (hn:1<=n) (hl:n<=R.left (p:Int)) (hd:D.down=false) :
 D.readE (ah R.head (p / R.size * R.size)) ((p:Int) - ((p / R.size * R.size:Nat):Int)) n=0/\D.readT (ah R.head (p / R.size * R.size)) ((p:Int) - ((p / R.size * R.size:Nat):Int)) n=(R.txt.drop (p - R.b)).take n.toNat:=by
 obtain ⟨O,U⟩:=h.sz
 have I:0 < R.n:=by
  rcases Nat.eq_zero_or_pos R.n with h0 | h0
  . obtain ⟨J,N⟩:=h.empty h0
    unfold SegD.e at h2;rw [N] at h2; simp at h2; omega
  . exact h0
 obtain ⟨l1,l2,Z⟩:=h.long I;obtain ⟨i,J,N,e3,X⟩:=agw h.mult (by omega:0 < R.size) h1;unfold SegD.e at h2
 have M:i < R.n:=by
  rw [X];exact (Nat.div_lt_iff_lt_mul (by omega)).2 (by omega)
 obtain ⟨f1,Y⟩:=hok i M
 have B:n<=((min (R.b+i * R.size+R.size) R.e:Nat):Int) - (p:Int):=by
  unfold SegD.left at hl;rw [if_neg (by unfold SegD.e; omega),Int.toNat_natCast,J] at hl;exact hl
 rw [J]
 have A:D.bars [ah R.head (R.b+i * R.size)]=0:=by
  unfold DiskD.bars;rw [hd];simp [Y]
 have E:(D.bytes (ah R.head (R.b+i * R.size))).length=min R.size (R.txt.length - i * R.size):=by
  rw [f1,List.length_take,List.length_drop]
 have F:D.readOk (ah R.head (R.b+i * R.size)) ((p:Int) - ((R.b+i * R.size:Nat):Int)) n=true:=by
  unfold DiskD.readOk;rw [E];unfold SegD.e at B;simp only [Bool.and_eq_true,decide_eq_true_eq];refine ⟨⟨by omega,by omega⟩,by omega⟩
 refine ⟨?_,?_⟩
 . unfold DiskD.readE
   rw [if_pos A,if_pos F]
 ·
  unfold DiskD.readT;rw [if_pos ⟨A,F⟩,f1,List.drop_take,List.drop_drop,List.take_take];have hk:((p:Int) - ((R.b+i * R.size:Nat):Int)).toNat=p - (R.b+i * R.size):=by omega
  rw [hk];unfold SegD.e at B;congr 1
  . omega
  . congr 1; omega
theorem read_any {base:Nat} {D:DiskD} {R:SegD} (p n:Int) (hp : -9223372036854775808<=p/\p<=9223372036854775807) (hn : -9223372036854775808<=n/\n<=9223372036854775807) (w:World) (ht:Tab w) (h:SegAt base w R) (hD:DiskAt base w D) (hdb:R.db=D.blk) (hok:zn D R) :
 Calls Tryz.prog 71 #[.pointer (some ⟨R.blk,0,none⟩),.int .i64 p,.int .i64 n] w λe w'=>e=.returned (.tuple #[.string (S (R.readT D p n)),.int .i64 (R.readE D p n)])/\Below w.heap.size w w':=by
 have c0:w.cell? ⟨R.blk,0,none⟩=some (.pointer (some ⟨D.blk,0,none⟩)):=h.cell 0 _ (by rw [<- hdb]; rfl);have c4:w.cell? ⟨R.blk,4,none⟩=some (.int .i64 (R.e:Int)):=h.cell 4 _ rfl;have CD:=zq (abo w hD);have CB:=zq (begin_any w h);have CL:=zq (left_any p hp w h);have M:Zq (R.readE D p n=if D.down then 8 else if n=0/\(R.b:Int)<=p/\p<=(R.e:Int) then 0 else if R.readB p n then 0 else 2):=rfl;have O:Zq (R.readT D p n=if D.down=false/\R.readB p n=true then (R.txt.drop (p.toNat - R.b)).take n.toNat else []):=rfl;have B:Zq (R.readB p n=(decide (1<=n) && decide (n<=R.left p))):=rfl
 by_cases hdn:D.down=true
 ·
  rw [hdn] at CD;have J:R.readE D p n=8:=by rw [M.o,if_pos hdn]
  have ht:R.readT D p n=[]:=by rw [O.o,if_neg (by rw [hdn]; simp)]
  rw [J,ht];clear J ht M O B h hD hok hdb hdn CL CB;go_enter Tryz.func71,Tryz.ntmps71;go_wp2_with fail;refine CD.o.mono ?_;rintro e w' ⟨rfl,rfl⟩;go_wp2_with fail;go_ret2;exact ⟨rfl,Below.refl _ _⟩
 ·
  rw [Bool.not_eq_true] at hdn
  by_cases hz:n=0/\(R.b:Int)<=p/\p<=(R.e:Int)
  ·
   have J:R.readE D p n=0:=by rw [M.o,if_neg (by rw [hdn]; simp),if_pos hz]
   have A:R.readT D p n=[]:=by rw [O.o,if_neg (by rw [B.o,hz.1]; simp)]
   rw [J,A];obtain ⟨rfl,ba,bb⟩:=hz;rw [hdn] at CD;clear J A M O B h hD hok hdb hdn CL;go_enter Tryz.func71,Tryz.ntmps71;go_wp2_with fail;refine CD.o.mono ?_;rintro e w' ⟨rfl,rfl⟩;go_wp2_with fail;refine CB.o.mono ?_;rintro e w' ⟨rfl,rfl⟩;go_wp2_with fail;go_ret2;exact ⟨rfl,Below.refl _ _⟩
  ·
   rw [if_neg (by rw [hdn]; simp),if_neg hz] at M;rw [hdn] at CD
   by_cases hn1:n < 1
   ·
    have hb:R.readB p n=false:=by rw [B.o,decide_eq_false (by omega)]; rfl
    have J:R.readE D p n=2:=by rw [M.o,hb]; rfl
    have A:R.readT D p n=[]:=by rw [O.o,hb]; simp
    rw [J,A];clear J A M O B h hD hok hdb CL hb
    by_cases U:n=0
    ·
     subst U
     by_cases hpb:p < (R.b:Int)
     ·
      clear hz;go_enter Tryz.func71,Tryz.ntmps71;go_wp2_with fail;refine CD.o.mono ?_;rintro e w' ⟨rfl,rfl⟩;go_wp2_with fail;refine CB.o.mono ?_;rintro e w' ⟨rfl,rfl⟩;go_wp2_with fail;go_ret2;exact ⟨rfl,Below.refl _ _⟩
     ·
      have bc:(R.e:Int) < p:=by omega
      clear hz;go_enter Tryz.func71,Tryz.ntmps71;go_wp2_with fail;refine CD.o.mono ?_;rintro e w' ⟨rfl,rfl⟩;go_wp2_with fail;refine CB.o.mono ?_;rintro e w' ⟨rfl,rfl⟩;go_wp2_with fail;go_ret2;exact ⟨rfl,Below.refl _ _⟩
    ·
     clear hz;go_enter Tryz.func71,Tryz.ntmps71;go_wp2_with fail;refine CD.o.mono ?_;rintro e w' ⟨rfl,rfl⟩;go_wp2_with fail;go_ret2;exact ⟨rfl,Below.refl _ _⟩
   ·
    have U:¬ n=0:=by omega
    by_cases hll:R.left p < n
    ·
     have hb:R.readB p n=false:=by rw [B.o,decide_eq_false (by omega:¬ n<=R.left p),Bool.and_false]
     have J:R.readE D p n=2:=by rw [M.o,hb]; rfl
     have A:R.readT D p n=[]:=by rw [O.o,hb]; simp
     rw [J,A];clear J A M O B h hD hok hdb hb hz CB;generalize R.left p=lf at *
     go_enter Tryz.func71,Tryz.ntmps71;go_wp2_with fail;refine CD.o.mono ?_;rintro e w' ⟨rfl,rfl⟩;go_wp2_with fail;refine CL.o.mono ?_;rintro e w' ⟨rfl,E⟩;have ao:=zq E;clear E;go_wp2_with fail;go_ret2;exact ⟨rfl,ao.o.below _⟩
    ·
     have hb:R.readB p n=true:=by rw [B.o,decide_eq_true (by omega:1<=n),decide_eq_true (by omega:n<=R.left p)]; rfl
     have J:R.readE D p n=0:=by rw [M.o,hb]; rfl
     have bd:(R.b:Int)<=p/\p < (R.e:Int):=by
      have hq:¬ (p < (R.b:Int)\/(R.e:Int)<=p):=by
       intro hq;have:R.left p=0:=if_pos hq;omega
      omega
     obtain ⟨u,rfl⟩:∃ u:Nat,p=(u:Int):=⟨p.toNat,by omega⟩;have A:R.readT D (u:Int) n=(R.txt.drop (u - R.b)).take n.toNat:=by rw [O.o,if_pos ⟨hdn,hb⟩,Int.toNat_natCast]
     have bh:=h.e_le;obtain ⟨Z,ab⟩:=ai2 h hok (by omega:R.b<=u) (by omega) (by omega:1<=n) (by omega) hdn;have hq:u / R.size * R.size<=u:=Nat.div_mul_le_self _ _
     have ac:=(show ∃ i,u / R.size * R.size=R.b+i * R.size/\i < R.n from by
      have hs:=h.sz;obtain ⟨i,e1,e2,e3,e4⟩:=agw h.mult (by omega:0 < R.size) (by omega:R.b<=u);refine ⟨i,e1,?_⟩
      have U:0 < R.n:=by
       rcases Nat.eq_zero_or_pos R.n with h0 | h0
       . obtain ⟨e5,e6⟩:=h.empty h0
         have:R.e=0:=by unfold SegD.e; rw [e5,e6]; rfl
         omega
       . exact h0
      obtain ⟨l1,l2,l3⟩:=h.long U;rw [e4];refine (Nat.div_lt_iff_lt_mul (by omega)).2 ?_;have:R.e=R.b+R.txt.length:=rfl;omega)
     have ar:u / R.size * R.size<=99999999:=by
      obtain ⟨i,e1,e2⟩:=ac;obtain ⟨l1,l2,l3⟩:=h.long (by omega);have:i * R.size<=(R.n - 1) * R.size:=Nat.mul_le_mul_right _ (by omega);omega
     have ad:=zq (λ(w2:World) (hb:Below w.heap.size w w2)=>of_any u (by omega) w2 (h.below hb));have av:=zq (λ(w2:World) (hb:Below w.heap.size w w2)=>ad3 w2 (h.below hb) (ht.below hb) (u / R.size * R.size) ar);have ak:=zq (λ(w2:World) (hb:Below w.heap.size w w2)=>DskW.read_any (ah R.head (u / R.size * R.size)) ((u:Int) - ((u / R.size * R.size:Nat):Int)) n (by omega) hn w2 (hD.below hb));rw [Z,ab] at ak;rw [J,A];have a1:Zq (∀ w2:World,Below w.heap.size w w2->w2.cell? ⟨R.blk,0,none⟩=some (.pointer (some ⟨D.blk,0,none⟩))):=λw2 hb=>by rw [hb.cell (ay c0)]; exact c0
     clear J A M O B h hD hok hdb hb hz CB Z ab ac;have bp:IntKind.i64.wrap ((u:Int) - ((u / R.size * R.size:Nat):Int))=(u:Int) - ((u / R.size * R.size:Nat):Int):=IntWalk.i64_in _ (by omega);generalize (R.txt.drop (u - R.b)).take n.toNat=tx at *
     generalize ah R.head (u / R.size * R.size)=nm at *
     generalize u / R.size * R.size=q at *
     generalize R.left (u:Int)=lf at *
     go_enter Tryz.func71,Tryz.ntmps71;go_wp2_with fail;refine CD.o.mono ?_;rintro e wz ⟨rfl,rfl⟩;go_wp2_with fail;refine CL.o.mono ?_;rintro e w' ⟨rfl,E⟩;have al:=zq (E.below wz.heap.size);clear E CL CD;go_wp2_with fail;refine (ad.o _ al.o).mono ?_;rintro e w2 ⟨rfl,E⟩;have F:=zq (al.o.trans (E.below wz.heap.size));clear E ad c0 c4;go_wp2_with fail;refine Grow.jc 16 [none,none,none,some (.inl (.pointer (some ⟨D.blk,0,none⟩))),none,none,some (.inl (.string (S nm))),none,none,none,none,some (.inl (.tuple #[.string (S tx),.int .i64 0])),none,none,none,none] Ext (by kernel_rfl) (by kernel_rfl) (by kernel_rfl) Ext.refl (λ_ _ _=>Ext.trans) ?_ ?_
     . intro K hK Y hY v w w' hR h
       simp only [List.mem_cons,List.not_mem_nil,or_false] at hK
       rcases hK with rfl | rfl | rfl | rfl | rfl | rfl | rfl | rfl | rfl | rfl | rfl | rfl | rfl | rfl | rfl | rfl <;> simp only [reduceCtorEq,Option.some.injEq,Sum.inr.injEq] at hY
     simp only [List.take_succ_cons,List.take_zero,List.drop_succ_cons,List.drop_zero]
     iterate 3
      refine Grow.g_det rfl ?_;apply Exists.intro;refine ⟨λw X I=>?_,?_⟩
      . clear I
        go_simp;exact ⟨rfl,Ext.refl _⟩
      go_frame
     refine Grow.g_con rfl (λN X I=>?_) ?_
     . clear I
       have c0:=a1.o N (F.o.trans (((Below.refl w2.heap.size w2).drew.trans X).mono F.o.size));go_simp
       all_goals exact Ext.refl _
     iterate 2
      go_frame;refine Grow.g_det rfl ?_;apply Exists.intro;refine ⟨λw X I=>?_,?_⟩
      . clear I
        go_simp;exact ⟨rfl,Ext.refl _⟩
     go_frame;refine Grow.g_con rfl (λN X I=>?_) ?_
     . clear I
       go_simp;exact (av.o N (F.o.trans (((Below.refl w2.heap.size w2).drew.trans X).mono F.o.size))).mono λe w3 h=>⟨_,h.1,rfl,h.2⟩
     iterate 4
      go_frame;refine Grow.g_det rfl ?_;apply Exists.intro;refine ⟨λw X I=>?_,?_⟩
      . clear I
        go_simp;exact ⟨rfl,Ext.refl _⟩
     go_frame;refine Grow.g_con rfl (λN X I=>?_) ?_
     . clear I
       go_simp;exact (ak.o N (F.o.trans (((Below.refl w2.heap.size w2).drew.trans X).mono F.o.size))).mono λe w3 h=>⟨_,h.1,rfl,h.2⟩
     iterate 4
      go_frame;refine Grow.g_det rfl ?_;apply Exists.intro;refine ⟨λw X I=>?_,?_⟩
      . clear I
        go_simp;exact ⟨rfl,Ext.refl _⟩
     go_frame;refine Grow.g_nil λw3 am I=>?_
     clear I;refine wpList_nil ?_;have HB:=zq (F.o.trans (((Below.refl w2.heap.size w2).drew.trans am).mono F.o.size));clear am;go_wp2_with fail;go_ret2;exact ⟨rfl,HB.o⟩
def SegD.open_ (R:SegD):Prop:=0 < R.n/\R.txt.length < R.n * R.size
theorem anr {base:Nat} {R:SegD} (w:World) (h:SegAt base w R) (ho:R.open_) :
 Calls Tryz.prog 192 #[.pointer (some ⟨R.blk,0,none⟩)] w λe w'=>e=.returned (.int .i64 0)/\Drawn w w':=by
 obtain ⟨A,B⟩:=ho;obtain ⟨a,U,F⟩:=h.pv_nil;have c2:w.cell? ⟨R.blk,2,none⟩=some (.int .i64 (R.size:Int)):=h.cell 2 _ rfl;have c3:w.cell? ⟨R.blk,3,none⟩=some (.slice a R.n U):=h.cell 3 _ (by show some R.pv=_; rw [F]);have c4:w.cell? ⟨R.blk,4,none⟩=some (.int .i64 (R.e:Int)):=h.cell 4 _ rfl;obtain ⟨X,Y⟩:=h.sz;obtain ⟨l1,l2,l3⟩:=h.long A;obtain ⟨g,cap,hp,Z,hc⟩:=h.place (R.n - 1) (by omega);rw [F] at hp;injection hp with e1 e2 e3
 subst e1;have I:=xz (s:=R.size) A;have ab:((R.n - 1:Nat):Int)=(R.n:Int) - 1:=by omega
 have N:R.n<=1073741824:=by
  have:=Nat.le_mul_of_pos_right R.n (by omega:0 < R.size);omega
 have J:R.room=R.n * R.size - R.txt.length:=by unfold SegD.room; rw [if_pos ⟨A,B⟩]
 have M:R.e=R.b+R.txt.length:=rfl;have E:=zq (λ(k:Nat)=>room_any (w.drewN k) (h.below (((Drawn.refl w).drewN k).below _)));have O:(0:Int) < (R.n:Int):=by omega
 have key:(R.room:Int) < (R.size:Int)\/(R.room=R.size/\R.e=R.b+(R.n - 1) * R.size):=by omega
 clear h F e3 J I l1 l2 B M;generalize R.room=r at *
 generalize R.e=ee at *
 generalize R.size=s at *
 generalize R.b+(R.n - 1) * s=pl at *
 generalize R.n=n at *
 rcases key with h1 | ⟨h1,h2⟩
 ·
  go_enter Tryz.func192,Tryz.ntmps192;go_wp2_with fail;go_quiet (first | (go_at_call 189; exact qw (E.o _)));go_wp2_with fail;go_ret;exact ⟨rfl,⟨_,rfl⟩⟩
 ·
  subst h1 h2;go_enter Tryz.func192,Tryz.ntmps192;go_wp2_with fail;go_quiet (first | (go_at_call 189; exact qw (E.o _)));go_wp2_with fail;go_ret;exact ⟨rfl,⟨_,rfl⟩⟩
theorem zo {P:Program} (w:World) {ops:Array Oper} {o:Oper} {a:Act} {K:Act->World->Prop} {Q:Exit->Act->World->Prop} {E:Prop} (hgd:o.guard=none) (s x:Operand) (t tn:TypeId)
 (ho:o.op=.call { callee:=.builtin .append,args:=#[s,x],argTypes:=#[t,tn] }) (vs vx:Value) (hs:a.eval s=vs) (hx:a.eval x=vx)
 (v':Value) (w':World) (hr:(Builtin.append_ #[t,tn] o.type #[vs,vx]).run P w=.ok v' w') (h:K (a.put o.dst v') w'):if Region.wanted o (yielded ops a.tmps)=true then Oper.wp P o a w K Q else E:=by
 have A:Region.wanted o (yielded ops a.tmps)=true:=by simp [Region.wanted,hgd]
 rw [if_pos A];exact Lib.wp_append_run w s x t tn ho vs vx hs hx v' w' hr h
def SegD.more (R:SegD) (pv:Value):SegD:={ R with n:=R.n+1,pv:=pv }
theorem abq {base:Nat} {w:World} {R:SegD} (h:SegAt base w R) (hfull:R.n=0\/(0 < R.n/\R.txt.length=R.n * R.size)) (he:R.e<=99999999) (hbase:base<=w.heap.size) :
 ∃ E B,(Builtin.append_ #[50,50] 50 #[R.pv,.slice (some ⟨w.heap.size,0,none⟩) 1 1]).run Tryz.prog (w.alloc (.cells #[.int .i64 (R.e:Int)] 3))=.ok E B /\
  SegAt base (B.setCell ⟨R.blk,3,none⟩ E) (R.more E)/\Mod R.foot w (B.setCell ⟨R.blk,3,none⟩ E) /\
  (∃ a cp,E=.slice a (R.n+1) cp)/\B.cell? ⟨R.blk,3,none⟩=some R.pv/\B.cell? ⟨R.blk,4,none⟩=some (.int .i64 (R.e:Int))/\B.frozen? ⟨R.blk,3,none⟩=false/\∀ k,E.ownBlock=some k->R.foot k\/w.heap.size<=k:=by
 have O:Below w.heap.size w (w.alloc (.cells #[.int .i64 (R.e:Int)] 3)):=(Below.refl _ _).alloc (Nat.le_refl _) _;have I:=h.below O
 obtain ⟨i0,Z,ab,ac,ad⟩:∃ i,Tryz.prog.info? 3=some i/\i.zero=some (.int .i64 0)/\i.size=1/\i.bytes=8:=by
  have:=(show (Tryz.prog.info? 3).map (λi=>(i.zero,i.size,i.bytes))=some (some (.int .i64 0),1,8) by kernel_rfl)
  cases hh:Tryz.prog.info? 3 with
  | none=>rw [hh] at this; cases this
  | some i=>rw [hh] at this; have h2:=Option.some.inj this; exact ⟨i,rfl,congrArg (·.1) h2,congrArg (·.2.1) h2,congrArg (·.2.2) h2⟩
 have ar:R.n<=1073741824:=by
  rcases hfull with h0 | ⟨h0,h1⟩
  . omega
  . have:=Nat.le_mul_of_pos_right R.n (by have:=h.sz; omega:0 < R.size)
    unfold SegD.e at he;omega
 obtain ⟨E,B,hr,J,F,_,X⟩:=run_append_own_at (P:=Tryz.prog) _ base 50 50 3 i0 (.int .i64 0) 1 8 Tryz.underlying50 Z ab ac ad rfl (by omega) _ _ _ I.row
  ⟨w.heap.size,0,none⟩ 1 1 [.int .i64 (R.e:Int)] rfl (λj u hu=>by
   have Y:(⟨w.heap.size,0,none⟩:Addr).add j=⟨w.heap.size,j,none⟩:=by unfold Addr.add; split <;> simp_all
   rw [Y,World.cell?_alloc_new]
   match j,hu with
   | 0,hu=>exact hu
   | j+1,hu=>cases hu) (λu hu=>by
   rw [List.mem_singleton] at hu; subst hu; rfl) (by unfold maxLen; omega) (by omega) (Nat.le_trans hbase O.size)
 have av:(w.alloc (.cells #[.int .i64 (R.e:Int)] 3)).heap.size=w.heap.size+1:=World.size_alloc _ _
 have al:R.places++[R.e]=(R.more E).places:=by
  unfold SegD.places SegD.more;simp only;rw [List.range_succ,List.map_append];congr 1;unfold SegD.e
  rcases hfull with h0 | ⟨h0,h1⟩
  . obtain ⟨e1,e2⟩:=h.empty h0
    rw [h0,e1,e2]; simp
  . rw [h1]; rfl
 have A:B.heap[R.blk]?=some (.cells R.cells 206 (0,0)):=(F.block _ (I.lt (.inl rfl)) (λe=>I.apart _ e.symm rfl)).trans I.cells
 have N:∀ k,E.ownBlock=some k->k≠R.blk:=λk hk=>by
  rcases X with e | e
  . rw [e] at hk; exact h.apart k hk
  . rw [e] at hk; cases hk
    have:=I.lt (.inl rfl); omega
 have ao:Mod (λk=>k=R.blk) B (B.setCell ⟨R.blk,3,none⟩ E):=jv _ _ _ _;refine ⟨E,B,hr,?_,?_,lq J,?_,?_,?_,λk hk=>?_⟩
 ·
  have a1:∀ k,k≠R.blk->(B.setCell ⟨R.blk,3,none⟩ E).heap[k]?=B.heap[k]?:=λk hk=>Below.heap_setCell _ _ _ _ (λe=>hk e)
  have U:(B.setCell ⟨R.blk,3,none⟩ E).ownsRow base 3 1 E (R.more E).n ((R.more E).places.map λ(p:Nat)=>Value.int .i64 (p:Int)):=by
   rw [<- al,List.map_append];refine ownsRow_mod (M:=λk=>k=R.blk) J ao (λk hk=>N k hk)
  refine ⟨heap_set1 A _ rfl,U,N,h.above,h.sz,λh0=>absurd (show R.n+1=0 from h0) (by omega),λ_=>?_,h.mult,h.syn,h.hd⟩;show (R.n+1 - 1) * R.size<=R.txt.length/\R.txt.length<=(R.n+1) * R.size/\R.b+(R.n+1 - 1) * R.size<=99999999;rw [Nat.add_sub_cancel,Nat.add_mul];unfold SegD.e at he
  rcases hfull with h0 | ⟨h0,h1⟩
  . obtain ⟨e1,e2⟩:=h.empty h0
    rw [h0,e1,e2]; simp
  . omega
 . have h1:Mod R.foot w B:=(Mod.of_below O).trans ⟨F.os,F.tape,F.output,F.size,λk hk ap=>F.block k hk (λe=>ap (.inr e.symm))⟩
   exact h1.setCell (.inl (.inl rfl)) _
 . unfold World.cell?; rw [show B.heap[(⟨R.blk,3,none⟩:Addr).block]?=_ from A]; rfl
 . unfold World.cell?; rw [show B.heap[(⟨R.blk,4,none⟩:Addr).block]?=_ from A]; rfl
 . unfold World.frozen?; rw [show B.heap[(⟨R.blk,3,none⟩:Addr).block]?=_ from A]; rfl
 . rcases X with e | e
   . exact .inl (.inr (e ▸ hk))
   . rw [e] at hk; cases hk; right; omega
end SegW
end Go.Proofs.YtckjigopecocaaaGreatDoor
