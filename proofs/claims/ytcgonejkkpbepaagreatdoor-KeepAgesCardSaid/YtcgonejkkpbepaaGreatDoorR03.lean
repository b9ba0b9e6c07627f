/- disk: slices.DeleteFunc at []disk.write, walked. And what follows. -/
import Derived.Test.YtcgonejkkpbepaaGreatDoorR02
import Derived.Deep.RegionHeld3
import Derived.Lib.AppendZeros
set_option linter.unusedVariables false
set_option linter.unusedSimpArgs false
set_option maxHeartbeats 25600000
set_option maxRecDepth 100000
namespace Go.Proofs.YtcgonejkkpbepaaGreatDoor
namespace DskW
open Go.RowKit Go.MapKept Go.ChangeMaps OctMath
def yc (fb:Nat) (x:WriteD):Bool:=!decide (x.blk=fb)
def others (fb:Nat) (ws:List WriteD):List WriteD:=ws.filter (yc fb)
theorem adi (fb:Nat):∀ (ws:List WriteD) (i:Nat),(abu fb ws i = -1/\others fb ws=ws)\/∃ k,∃ h:k < ws.length,abu fb ws i=((i+k:Nat):Int)/\ws[k].blk=fb/\others fb (ws.take (k+1))=ws.take k
 | [],i=>.inl ⟨rfl,rfl⟩
 | x :: l,i=>by
   by_cases e:x.blk=fb
   ·
    right
    refine ⟨0,by simp,?_,e,?_⟩
    . show (if x.blk=fb then (i:Int) else _)=_
      rw [if_pos e]; rfl
    . show others fb [x]=[]
      unfold others yc;simp [e]
   ·
    have hk:yc fb x=true:=by unfold yc; simp [e]
    have A:abu fb (x :: l) i=abu fb l (i+1):=by show (if x.blk=fb then (i:Int) else _)=_; rw [if_neg e]
    rcases adi fb l (i+1) with ⟨h1,h2⟩ | ⟨k,hkl,h1,h2,h3⟩
    . left
      refine ⟨A.trans h1,?_⟩;show List.filter (yc fb) (x :: l)=_;rw [List.filter_cons_of_pos hk];congr 1
    . right
      refine ⟨k+1,by simpa using hkl,?_,h2,?_⟩
      . rw [A,h1]; congr 1; omega
      . show List.filter (yc fb) (x :: l.take (k+1))=x :: l.take k
        rw [List.filter_cons_of_pos hk];congr 1
theorem af7 (fb:Nat) (ws:List WriteD) (j:Nat) (h:j < ws.length):others fb (ws.take (j+1))=others fb (ws.take j)++(if ws[j].blk=fb then [] else [ws[j]]):=by
 unfold others;rw [List.take_succ_eq_append_getElem h,List.filter_append];congr 1
 by_cases e:ws[j].blk=fb
 . rw [if_pos e]; simp [yc,e]
 . rw [if_neg e]; simp [yc,e]
theorem aic (fb:Nat) (ws:List WriteD) (j:Nat):(others fb (ws.take j)).length<=j:=by
 have:=List.length_filter_le (yc fb) (ws.take j);unfold others;rw [List.length_take] at this; omega
theorem Seen.mod {w w':World} {bx fb g:Nat} {ws:List WriteD} (h:Seen w bx fb ws) (hm:Mod (λk=>k=g) w w') (hbx:bx≠g) (hfb:fb≠g) (hws:∀ x∈ws,x.blk≠g):Seen w' bx fb ws:=by
 refine ⟨by rw [hm.cell (bq h.box) hbx]; exact h.box,?_,λx F=>?_⟩
 . obtain ⟨B,E,A⟩:=h.file
   exact ⟨B,E,(hm.block _ (Array.getElem?_eq_some_iff.1 A).1 hfb).trans A⟩
 . obtain ⟨B,E,A⟩:=h.all x F
   exact ⟨B,E,(hm.block _ (Array.getElem?_eq_some_iff.1 A).1 (hws x F)).trans A⟩
theorem aid (g cp:Nat) (ws:List WriteD) (rest:List Value) (hx:ws.length<=1048576) (hle:ws.length<=cp) (bx fb:Nat) (w:World) (hr:Row3 w g ws rest) (hs:Seen w bx fb ws) (hbx:bx≠g) (hfb:fb≠g) (hws:∀ x∈ws,x.blk≠g) :
 Calls Tryz.prog 220 #[.slice (some ⟨g,0,none⟩) ws.length cp,.func (.func 245) #[] #[.pointer (some ⟨bx,0,none⟩)]] w λe w' =>
  e=.returned (.slice (some ⟨g,0,none⟩) (others fb ws).length cp)/\(∃ cs,w'.heap[g]?=some (.cells cs 296 (0,0))/\cs.size=(dh ws++rest).length/\cs.toList.take ((others fb ws).length * 3)=dh (others fb ws))/\Mod (λk=>k=g) w w':=by
 have I:=zq (aet (some ⟨g,0,none⟩) cp ws hx bx fb w hr.rowW hs);have HR:=zq hr;have HS:=zq hs;have bo:=zq hws;clear hr hs hws
 rcases adi fb ws 0 with ⟨h1,h2⟩ | ⟨k0,hk0,h1,h2,h3⟩
 ·
  rw [h1] at I;have HO:=zq h2;clear h1 h2;go_enter Tryz.func220,Tryz.ntmps220;go_wp2_with fail;refine I.o.mono ?_;rintro e w2 ⟨rfl,hb⟩;have HB:=zq hb;clear hb I;go_wp2_with fail;go_ret;rw [HO.o];refine ⟨rfl,⟨_,HR.o.below HB.o,by simp,?_⟩,Mod.of_below HB.o⟩;rw [List.toList_toArray,<- jq];exact List.take_left
 ·
  rw [h1,Nat.zero_add] at I;have HO:=zq h3;have cd:((k0:Int) == -1)=false:=by rw [beq_eq_false_iff_ne]; omega
  have a1:Zq ((others fb ws).length < ws.length):=by
   show (ws.filter (yc fb)).length < _;rw [List.length_filter_lt_length_iff_exists];exact ⟨ws[k0],List.getElem_mem hk0,by simp [yc,h2]⟩
  clear h1 h2 h3;go_enter Tryz.func220,Tryz.ntmps220;go_wp2_with fail;refine I.o.mono ?_;rintro e w2 ⟨rfl,hb⟩;have HB:=zq hb;clear hb I;go_wp2_with fail;go_loopw [5,6] (λs5 s6 wr=>∃ (j:Nat) (cur:List WriteD),j<=ws.length/\s6=.int .i64 (j:Int)/\s5=.int .i64 ((others fb (ws.take j)).length:Int)/\cur.length=ws.length/\Zq (cur.take (others fb (ws.take j)).length=others fb (ws.take j))/\Zq (cur.drop j=ws.drop j)/\Zq (Row3 wr g cur rest)/\Zq (Mod (λk=>k=g) w wr)) (λ_ s6 _=>ws.length+1 - (intOf s6).toNat)
  case atStart =>
   refine ⟨k0+1,ws,by omega,by go_num,?_,rfl,?_,rfl,HR.o.below HB.o,Mod.of_below HB.o⟩
   . rw [HO.o,List.length_take,Nat.min_eq_left (by omega)]
   . show _=_
     rw [HO.o,List.length_take,Nat.min_eq_left (by omega)]
  case round =>
   obtain ⟨j,cur,hj,rfl,rfl,X,HT,Y,E,Z⟩:=hrel;have a7:=aic fb ws j
   by_cases hlt:j < ws.length
   ·
    have ab:cur[j]'(by omega)=ws[j]:=by
     have h1:(cur.drop j)[0]?=(ws.drop j)[0]?:=by rw [Y.o]
     rw [List.getElem?_drop,List.getElem?_drop,Nat.add_zero,List.getElem?_eq_getElem (by omega),List.getElem?_eq_getElem hlt] at h1;exact Option.some.inj h1
    have a8:=af7 fb ws j hlt;have ba:ws[j]∈ws:=List.getElem_mem hlt;have bp:wr.cell? ⟨g,j * 3,none⟩=some (.pointer (some ⟨ws[j].blk,0,none⟩)):=by have:=E.o.cell j 0 (by omega) (by omega); rw [ab] at this; exact this
    have br:wr.cell? ⟨g,j * 3+1,none⟩=some (.int .i64 (ws[j].pos:Int)):=by have:=E.o.cell j 1 (by omega) (by omega); rw [ab] at this; exact this
    have bs:wr.cell? ⟨g,j * 3+2,none⟩=some (.string (S ws[j].txt)):=by have:=E.o.cell j 2 (by omega) (by omega); rw [ab] at this; exact this
    have bw:=zq (HS.o.mod Z.o hbx hfb bo.o)
    have ac:cur.drop (j+1)=ws.drop (j+1):=by
     have:(cur.drop j).drop 1=(ws.drop j).drop 1:=by rw [Y.o]
     simpa [List.drop_drop] using this
    have ad:=zq ac;have bb:=zq a8;have bz:=zq ba;have ce:g < wr.heap.size:=(Array.getElem?_eq_some_iff.1 E.o).1;clear ab ac a8 ba Y;have cf:=zq (show (ws.drop j).length=ws.length - j from List.length_drop);generalize ws[j]=x at *
    generalize hF:others fb (ws.take j)=F at *
    have cg:F.length<=j:=a7;have M:Zq (Below wr.heap.size wr (wr.alloc (.cells #[.pointer (some ⟨x.blk,0,none⟩),.int .i64 (x.pos:Int),.string (S x.txt)] 296))):=(Below.refl _ _).alloc (Nat.le_refl _) _;have ak:=zq (bw.o.below M.o);obtain ⟨ca,ta,bc⟩:=ak.o.all x bz.o;obtain ⟨cb,tb,bd⟩:=ak.o.file;have J:=zq (aca fb x.blk x.pos bx x.txt _ ak.o.box bc bd);have al:(wr.alloc (.cells #[.pointer (some ⟨x.blk,0,none⟩),.int .i64 (x.pos:Int),.string (S x.txt)] 296)).cell? ⟨wr.heap.size,0,none⟩=some (.pointer (some ⟨x.blk,0,none⟩)):=by rw [World.cell?_alloc_new]; rfl
    have am:(wr.alloc (.cells #[.pointer (some ⟨x.blk,0,none⟩),.int .i64 (x.pos:Int),.string (S x.txt)] 296)).cell? ⟨wr.heap.size,1,none⟩=some (.int .i64 (x.pos:Int)):=by rw [World.cell?_alloc_new]; rfl
    have an:(wr.alloc (.cells #[.pointer (some ⟨x.blk,0,none⟩),.int .i64 (x.pos:Int),.string (S x.txt)] 296)).cell? ⟨wr.heap.size,2,none⟩=some (.string (S x.txt)):=by rw [World.cell?_alloc_new]; rfl
    clear bc bd;go_upto_region 8 with fail
    clear bp br bs;have N:wr.heap.size < (wr.alloc (.cells #[.pointer (some ⟨x.blk,0,none⟩),.int .i64 (x.pos:Int),.string (S x.txt)] 296)).heap.size:=by simp
    generalize wr.alloc (.cells #[.pointer (some ⟨x.blk,0,none⟩),.int .i64 (x.pos:Int),.string (S x.txt)] 296)=wb at *
    by_cases he:x.blk=fb
    ·
     have O:Zq (others fb (ws.take (j+1))=F):=by show _=_; rw [bb.o,if_pos he,List.append_nil]
     rw [decide_eq_true he] at J;clear he;go_wp2_with fail;refine J.o.mono ?_;rintro e w3 ⟨rfl,B⟩;have A:=zq ((E.o.below M.o).below B);have R:Zq (Mod (λk=>k=g) w w3):=(Z.o.trans (Mod.of_below M.o)).trans (Mod.of_below B);clear B J al am an;go_wp2_with fail;go_roundw
     case rel=>exact ⟨j+1,cur,by omega,by go_num,by rw [O.o],X,by show _=_; rw [O.o]; exact HT.o,ad,A,R⟩
     case measure=>simp [intOf]; omega
    ·
     have O:Zq (others fb (ws.take (j+1))=F++[x]):=by show _=_; rw [bb.o,if_neg he]
     rw [decide_eq_false he] at J;clear he;go_wp2_with fail;refine J.o.mono ?_;rintro e w3 ⟨rfl,B⟩;have A:=zq ((E.o.below M.o).below B);have R:Zq (Mod (λk=>k=g) w w3):=(Z.o.trans (Mod.of_below M.o)).trans (Mod.of_below B);have ci:w3.cell? ⟨wr.heap.size,0,none⟩=some (.pointer (some ⟨x.blk,0,none⟩)):=by rw [B.cell N]; exact al
     have cj:w3.cell? ⟨wr.heap.size,1,none⟩=some (.int .i64 (x.pos:Int)):=by rw [B.cell N]; exact am
     have ck:w3.cell? ⟨wr.heap.size,2,none⟩=some (.string (S x.txt)):=by rw [B.cell N]; exact an
     clear B J al am an;have U:F.length < cur.length:=by omega
     have cm:w3.cell? ⟨g,F.length * 3,none⟩=some (.pointer (some ⟨cur[F.length].blk,0,none⟩)):=A.o.cell F.length 0 U (by omega);have cn:w3.cell? ⟨g,F.length * 3+1,none⟩=some (.int .i64 (cur[F.length].pos:Int)):=A.o.cell F.length 1 U (by omega);have co:w3.cell? ⟨g,F.length * 3+2,none⟩=some (.string (S cur[F.length].txt)):=A.o.cell F.length 2 U (by omega);have cq:∀ k,w3.frozen? ⟨g,k,none⟩=false:=λk=>A.o.frozen k
     have bh:=zq (A.o.put F.length U x);have b0:Zq (Mod (λk=>k=g) w3 (((w3.setCell ⟨g,F.length * 3,none⟩ (.pointer (some ⟨x.blk,0,none⟩))).setCell ⟨g,F.length * 3+1,none⟩ (.int .i64 (x.pos:Int))).setCell ⟨g,F.length * 3+2,none⟩ (.string (S x.txt)))):=((jm _ _ _ _).trans (jm _ _ _ _)).trans (jm _ _ _ _);have cr:wr.heap.size≠g:=by omega
     go_wp2_with fail;go_roundw
     case rel =>
      refine ⟨j+1,cur.set F.length x,by omega,by go_num,by rw [O.o,List.length_append]; go_num,by rw [List.length_set]; exact X,?_,?_,bh.o,R.o.trans b0.o⟩
      . show _=_
        rw [O.o,List.length_append];show (cur.set F.length x).take (F.length+1)=_;rw [List.take_succ_eq_append_getElem (by rw [List.length_set]; exact U),List.take_set_of_le (Nat.le_refl _),HT.o];simp
      . show _=_
        rw [List.drop_set_of_lt (by omega)];exact ad.o
     case measure=>simp [intOf]; omega
   ·
    obtain rfl:j=ws.length:=by omega
    rw [List.take_length] at a7 HT;have b9:=a1.o;obtain ⟨w4,ao,⟨cs,bj,bk,ap⟩,bl⟩:=afi E.o (others fb ws).length (by omega) (cp - (others fb ws).length) 0;rw [X] at ao;rw [HT.o] at ap;have b1:=zq (show (dh cur++rest).length=(dh ws++rest).length from by rw [List.length_append,List.length_append,jq,jq,X]);have b2:=zq bj;have b3:=zq bk;have b4:=zq ap;have b5:=zq (Z.o.trans bl);rw [List.take_length];have b6:=zq ao;clear bj bk ap bl HT Y ao a1;generalize hFe:others fb ws=F at *
    have b7:Zq (others fb ws=F):=hFe;clear hFe;have cv:¬ cp=F.length:=by omega
    go_wp2_with fail;rw [b6.o];go_wp2_with fail;go_ret;rw [b7.o];exact ⟨rfl,⟨cs,b2.o,b3.o.trans b1.o,b4.o⟩,b5.o⟩
def kv (l:List (List UInt8×FileD)) (n:List UInt8) (t:List UInt8):List (List UInt8×FileD):=l.map λp=>if p.1=n then (p.1,{ p.2 with img:=t }) else p
theorem aie (l:List (List UInt8×FileD)) (n t:List UInt8):(kv l n t).map (·.1)=l.map (·.1):=by
 unfold kv; rw [List.map_map]; apply List.map_congr_left; intro p _; show (if p.1=n then _ else p).1=_; split <;> rfl
theorem aif (l:List (List UInt8×FileD)) (n t:List UInt8):(kv l n t).map (·.2.blk)=l.map (·.2.blk):=by
 unfold kv; rw [List.map_map]; apply List.map_congr_left; intro p _; show (if p.1=n then _ else p).2.blk=_; split <;> rfl
theorem aig (l:List (List UInt8×FileD)) (n t:List UInt8):(kv l n t).map (λp=>(Value.string (S p.1),Value.pointer (some ⟨p.2.blk,0,none⟩)))=l.map (λp=>(Value.string (S p.1),Value.pointer (some ⟨p.2.blk,0,none⟩))):=by
 unfold kv; rw [List.map_map]; apply List.map_congr_left; intro p _; show ((Value.string (S (if p.1=n then _ else p).1),Value.pointer (some ⟨(if p.1=n then _ else p).2.blk,0,none⟩)):Value×Value)=_; split <;> rfl
theorem sj {l:List (List UInt8×FileD)} {n t:List UInt8} {q:List UInt8×FileD} (h:q∈kv l n t):∃ p∈l,q.2.blk=p.2.blk/\q.1=p.1/\q.2.now=p.2.now/\(p.1=n->q.2.img=t)/\(p.1≠n->q=p):=by
 obtain ⟨p,hp,rfl⟩:=List.mem_map.1 h
 by_cases e:p.1=n
 . rw [if_pos e]; exact ⟨p,hp,rfl,rfl,rfl,λ_=>rfl,λh=>absurd e h⟩
 . rw [if_neg e]; exact ⟨p,hp,rfl,rfl,rfl,λh=>absurd h e,λ_=>rfl⟩
theorem aih {l:List (List UInt8×FileD)} {n t:List UInt8} {p:List UInt8×FileD} (h:p∈l):∃ q∈kv l n t,q.2.blk=p.2.blk :=
 ⟨_,List.mem_map.2 ⟨p,h,rfl⟩,by show (if p.1=n then _ else p).2.blk=_; split <;> rfl⟩
theorem akx (l:List (List UInt8×FileD)) (n t:List UInt8):fe (kv l n t)=fe l:=by
 unfold fe kv; rw [List.map_map]; congr 1; apply List.map_congr_left; intro p _; show (if p.1=n then _ else p).2.now.length=_; split <;> rfl
theorem DiskAt.set_img {base:Nat} {w:World} {D:DiskD} (h:DiskAt base w D) {n:List UInt8} {f:FileD} (hf:(n,f)∈D.files) (t:List UInt8) :
 DiskAt base (w.setCell ⟨f.blk,0,none⟩ (.string (S t))) { D with files:=kv D.files n t }/\Mod D.foot w (w.setCell ⟨f.blk,0,none⟩ (.string (S t))):=by
 have Z:Mod (λk=>k=f.blk) w (w.setCell ⟨f.blk,0,none⟩ (.string (S t))):=jm _ _ _ _;have U:Mod D.foot w (w.setCell ⟨f.blk,0,none⟩ (.string (S t))):=Z.mono (λk _ hk=>.inr (.inr (.inl ⟨_,hf,hk⟩)));have key:∀ k,D.foot k->k≠f.blk->(w.setCell ⟨f.blk,0,none⟩ (.string (S t))).heap[k]?=w.heap[k]?:=λk hk B=>Z.block k (h.lt hk) B
 have E:(w.setCell ⟨f.blk,0,none⟩ (.string (S t))).heap[f.blk]?=some (.cells #[.string (S t),.string (S f.now)] 293 (0,0)):=heap_set1 (h.file _ hf) _ rfl;have J:=h.apart.2.1 _ hf;obtain ⟨es,c,m1,m2,m3⟩:=h.map;refine ⟨⟨(key _ (.inl rfl) (λe=>J.1 e.symm)).trans h.head,⟨es,c,(key _ (.inr (.inl rfl)) (λe=>J.2 e.symm)).trans m1,m2,by rw [m3]; exact (aig _ _ _).symm⟩,λq F=>?_,?_,by show ((kv D.files n t).map (·.1)).Nodup; rw [aie]; exact h.names,by show ((kv D.files n t).map (·.2.blk)).Nodup; rw [aif]; exact h.blocks,⟨h.apart.1,λq F=>?_,λk hk=>⟨(h.apart.2.2 k hk).1,(h.apart.2.2 k hk).2.1,λq F=>?_⟩⟩,⟨h.above.1,h.above.2.1,λq F=>?_⟩,h.ints,by show ((fe (kv D.files n t):Nat):Int)<=D.cap; rw [akx]; exact h.fits,λx hx=>by obtain ⟨p,hp,e⟩:=h.waitf x hx; rw [<- e]; exact aih hp⟩,U⟩
 ·
  obtain ⟨p,hp,hb,h1,M,h3,h4⟩:=sj F
  by_cases e:p.1=n
  ·
   have N:p=(n,f):=by
    have h5:=qf D.files h.blocks
    have:∀ (l:List (List UInt8×FileD)),(l.map (·.1)).Nodup->∀ a∈l,∀ b∈l,a.1=b.1->a=b:=by
     intro l
     induction l with
     | nil=>intro _ a X; cases X
     | cons x l ih =>
       intro R a X b hb I;simp only [List.map_cons,List.nodup_cons] at R
       rcases List.mem_cons.1 X with e1 | h1
       . rcases List.mem_cons.1 hb with O | M
         . rw [e1,O]
         . exact absurd (show x.1∈l.map (·.1) from List.mem_map.2 ⟨b,M,by rw [<- e1]; exact I.symm⟩) R.1
       . rcases List.mem_cons.1 hb with O | M
         . exact absurd (show x.1∈l.map (·.1) from List.mem_map.2 ⟨a,h1,by rw [<- O]; exact I⟩) R.1
         . exact ih R.2 a h1 b M I
    exact this _ h.names p hp _ hf e
   have Y:q.2.cells=#[.string (S t),.string (S f.now)]:=by
    show #[Value.string (S q.2.img),Value.string (S q.2.now)]=_;rw [h3 e,M,N]
   rw [hb,Y,N]; exact E
  ·
   rw [h4 e]
   have B:p.2.blk≠f.blk:=λO=>by
    have a1:=qf D.files h.blocks p hp;have a2:=qf D.files h.blocks _ hf;simp only at a2;rw [O,a2] at a1;have:(n,f)=p:=Option.some.inj a1;exact e (by rw [<- this])
   exact (key _ (.inr (.inr (.inl ⟨p,hp,rfl⟩))) B).trans (h.file p hp)
 ·
  refine ⟨h.row.1,?_⟩
  rcases h.row.2 with h0 | ⟨g,cap,cur,e,hb,hg,r⟩
  . exact .inl h0
  . have A:D.wv.ownBlock=some g:=by rw [e]; rfl
    exact .inr ⟨g,cap,cur,e,hb,(key g (.inr (.inr (.inr A))) ((h.apart.2.2 g A).2.2 _ hf)).trans hg,r⟩
 . obtain ⟨p,hp,hb,_⟩:=sj F
   rw [hb]; exact h.apart.2.1 p hp
 . obtain ⟨p,hp,hb,_⟩:=sj F
   rw [hb]; exact (h.apart.2.2 k hk).2.2 p hp
 . obtain ⟨p,hp,hb,_⟩:=sj F
   rw [hb]; exact h.above.2.2 p hp
theorem aii (cp:Nat) (bx fb:Nat) (w:World) (hs:Seen w bx fb []) :
 Calls Tryz.prog 220 #[.slice none 0 cp,.func (.func 245) #[] #[.pointer (some ⟨bx,0,none⟩)]] w λe w'=>e=.returned (.slice none 0 cp)/\Below w.heap.size w w':=by
 have A:=zq (aet none cp [] (by simp) bx fb w (λk hk=>absurd hk (Nat.not_lt_zero _)) hs);rw [show abu fb [] 0 = -1 from rfl] at A;clear hs;go_enter Tryz.func220,Tryz.ntmps220;go_wp2_with fail;refine A.o.mono ?_;rintro e w2 ⟨rfl,hb⟩;have B:=zq hb;clear hb A;go_wp2_with fail;go_ret;exact ⟨rfl,B.o⟩
theorem apg {base:Nat} {w:World} {D:DiskD} (h:DiskAt base w D) {n:List UInt8} {f:FileD} (hf:(n,f)∈D.files) {bx:Nat} (hbx:w.cell? ⟨bx,0,none⟩=some (.pointer (some ⟨f.blk,0,none⟩))):Seen w bx f.blk D.waits :=
 ⟨hbx,⟨_,_,h.file _ hf⟩,λx A=>by obtain ⟨p,hp,e⟩:=h.waitf x A; rw [<- e]; exact ⟨_,_,h.file p hp⟩⟩
theorem aky {base:Nat} {w:World} {D:DiskD} (h:DiskAt base w D) {n:List UInt8} {f:FileD} (hf:(n,f)∈D.files) {bx:Nat} (hbx:w.cell? ⟨bx,0,none⟩=some (.pointer (some ⟨f.blk,0,none⟩))) (hbf:¬ D.foot bx) (hwl:D.waits.length<=1048576) :
 Calls Tryz.prog 220 #[D.wv,.func (.func 245) #[] #[.pointer (some ⟨bx,0,none⟩)]] w λe w' =>
  ∃ wv,e=.returned wv/\w'.ownsRow base 296 3 wv (others f.blk D.waits).length (dh (others f.blk D.waits))/\w.grownBy w' D.wv.ownBlock/\wv.ownBlock=D.wv.ownBlock:=by
 have O:=apg h hf hbx
 rcases h.row.2 with ⟨e,h0⟩ | ⟨g,cap,cur,e,hb,hg,hnc,hcm,hcs,htk⟩
 ·
  have B:D.waits=[]:=List.length_eq_zero_iff.1 h0;rw [e,B];rw [B] at O;refine (aii 0 bx f.blk w O).mono ?_;rintro F w2 ⟨rfl,A⟩;exact ⟨_,rfl,⟨rfl,.inl ⟨rfl,rfl⟩⟩,⟨A.os,A.tape,A.output,A.size,λk hk _=>A.block k hk⟩,rfl⟩
 ·
  have E:D.wv.ownBlock=some g:=by rw [e]; rfl
  have I:Row3 w g D.waits (cur.toList.drop (D.waits.length * 3)):=by
   show w.heap[g]?=_;rw [hg,<- htk,List.take_append_drop,Array.toArray_toList]
  have J:(dh D.waits++cur.toList.drop (D.waits.length * 3)).length=cap * 3:=by rw [<- htk,List.take_append_drop,Array.length_toList]; exact hcs
  rw [e];have M:=h.apart.2.2 g E
  refine (aid g cap D.waits (cur.toList.drop (D.waits.length * 3)) hwl hnc bx f.blk w I O (λF=>hbf (.inr (.inr (.inr (F ▸ E))))) (λF=>M.2.2 _ hf F.symm) (λx hx F=>by
   obtain ⟨p,hp,R⟩:=h.waitf x hx;exact M.2.2 p hp (by rw [R]; exact F.symm))).mono ?_
  rintro F w2 ⟨rfl,⟨cs,U,X,Y⟩,N⟩;have ad:(others f.blk D.waits).length<=D.waits.length:=List.length_filter_le _ _;refine ⟨_,rfl,⟨jq _,.inr ⟨g,cap,cs,rfl,hb,U,by omega,hcm,by rw [X]; exact J,Y⟩⟩,⟨N.os,N.tape,N.output,N.size,λk hk Z=>N.block k hk (λR=>Z (by rw [R]; rfl))⟩,rfl⟩
def DiskD.lasts (D:DiskD) (ns:List (List UInt8)) (wv:Value):DiskD :=
 { D with files:=D.files.map (λp=>if p.1∈ns then (p.1,{ p.2 with img:=p.2.now }) else p),wv:=wv,waits:=D.waits.filter (λx=>!D.files.any (λp=>decide (p.1∈ns) && decide (x.blk=p.2.blk))) }
theorem akz (D:DiskD):D.lasts [] D.wv=D:=by
 unfold DiskD.lasts
 have h1:D.files.map (λp=>if p.1∈([]:List (List UInt8)) then (p.1,{ p.2 with img:=p.2.now }) else p)=D.files:=by
  conv=>rhs; rw [<- List.map_id D.files]
  apply List.map_congr_left; intro p _; simp
 have A:D.waits.filter (λx=>!D.files.any (λp=>decide (p.1∈([]:List (List UInt8))) && decide (x.blk=p.2.blk)))=D.waits:=by
  rw [List.filter_eq_self]; intro x _; simp
 rw [h1,A]
theorem aij {D:DiskD} {l:List (List UInt8)} {n:List UInt8} {f:FileD} {wv wv':Value} (E:(D.files.map (·.1)).Nodup) (hf:(n,f)∈D.files) :
 ({ (D.lasts l wv) with files:=kv (D.lasts l wv).files n f.now,wv:=wv',waits:=others f.blk (D.lasts l wv).waits }:DiskD)=D.lasts (l++[n]) wv':=by
 unfold DiskD.lasts;simp only [DiskD.mk.injEq,true_and,and_true]
 constructor
 ·
  unfold kv;rw [List.map_map];apply List.map_congr_left;intro p hp
  have F:p.1=n->p=(n,f):=λe=>by
   have:∀ (l:List (List UInt8×FileD)),(l.map (·.1)).Nodup->∀ a∈l,∀ b∈l,a.1=b.1->a=b:=by
    intro l
    induction l with
    | nil=>intro _ a I; cases I
    | cons x l ih =>
      intro E a I b hb A;simp only [List.map_cons,List.nodup_cons] at E
      rcases List.mem_cons.1 I with e1 | h1
      . rcases List.mem_cons.1 hb with e2 | B
        . rw [e1,e2]
        . exact absurd (show x.1∈l.map (·.1) from List.mem_map.2 ⟨b,B,by rw [<- e1]; exact A.symm⟩) E.1
      . rcases List.mem_cons.1 hb with e2 | B
        . exact absurd (show x.1∈l.map (·.1) from List.mem_map.2 ⟨a,h1,by rw [<- e2]; exact A⟩) E.1
        . exact ih E.2 a h1 b B A
   exact this _ E p hp _ hf e
  show (if (if p.1∈l then (p.1,({ p.2 with img:=p.2.now }:FileD)) else p).1=n then _ else _)=_
  by_cases e:p.1=n
  ·
   have J:=F e;subst J
   by_cases h1:n∈l
   . simp [h1]
   . simp [h1]
  . by_cases h1:p.1∈l
    . simp [h1,e]
    . simp [h1,e]
 ·
  unfold others;rw [List.filter_filter];apply List.filter_congr;intro x _;unfold yc
  have M:D.files.any (λp=>decide (p.1∈l++[n]) && decide (x.blk=p.2.blk))=(decide (x.blk=f.blk) || D.files.any (λp=>decide (p.1∈l) && decide (x.blk=p.2.blk))):=by
   rw [Bool.eq_iff_iff];simp only [List.any_eq_true,Bool.and_eq_true,decide_eq_true_eq,Bool.or_eq_true,List.mem_append,List.mem_singleton]
   constructor
   ·
    rintro ⟨p,hp,h1 | h1,B⟩
    . exact .inr ⟨p,hp,h1,B⟩
    ·
     left
     have:∀ (l:List (List UInt8×FileD)),(l.map (·.1)).Nodup->∀ a∈l,∀ b∈l,a.1=b.1->a=b:=by
      intro l
      induction l with
      | nil=>intro _ a I; cases I
      | cons x l ih =>
        intro E a I b hb A;simp only [List.map_cons,List.nodup_cons] at E
        rcases List.mem_cons.1 I with e1 | h1
        . rcases List.mem_cons.1 hb with e2 | B
          . rw [e1,e2]
          . exact absurd (show x.1∈l.map (·.1) from List.mem_map.2 ⟨b,B,by rw [<- e1]; exact A.symm⟩) E.1
        . rcases List.mem_cons.1 hb with e2 | B
          . exact absurd (show x.1∈l.map (·.1) from List.mem_map.2 ⟨a,h1,by rw [<- e2]; exact A⟩) E.1
          . exact ih E.2 a h1 b B A
     have J:=this _ E p hp _ hf h1;rw [J] at B; exact B
   . rintro (h1 | ⟨p,hp,h1,B⟩)
     . exact ⟨_,hf,.inr rfl,h1⟩
     . exact ⟨p,hp,.inl h1,B⟩
  rw [M,Bool.not_or]
theorem mq {D:DiskD} (A:(D.files.map (·.1)).Nodup) {n:List UInt8} {f:FileD} (h:(n,f)∈D.files):D.find n=some f:=by
 unfold DiskD.find
 have:∀ (l:List (List UInt8×FileD)),(l.map (·.1)).Nodup->(n,f)∈l->l.find? (λp=>p.1 == n)=some (n,f):=by
  intro l
  induction l with
  | nil=>intro _ h; cases h
  | cons x l ih =>
    intro A h;simp only [List.map_cons,List.nodup_cons] at A
    rcases List.mem_cons.1 h with e | h
    . subst e; simp
    . have B:(x.1 == n)=false:=by rw [beq_eq_false_iff_ne]; intro e; exact A.1 (by rw [e]; exact List.mem_map.2 ⟨_,h,rfl⟩)
      rw [List.find?_cons,B]; exact ih A.2 h
 rw [this _ A h]; rfl
theorem aik {D:DiskD} {l:List (List UInt8)} {wv:Value} {n:List UInt8} {f:FileD} (h:(n,f)∈D.files):∃ f',(n,f')∈(D.lasts l wv).files/\f'.blk=f.blk/\f'.now=f.now:=by
 refine ⟨if n∈l then { f with img:=f.now } else f,?_,?_,?_⟩
 ·
  show _∈D.files.map _;refine List.mem_map.2 ⟨_,h,?_⟩;show (if n∈l then (n,({ f with img:=f.now }:FileD)) else (n,f))=_
  split <;> rfl
 . split <;> rfl
 . split <;> rfl
theorem su {D:DiskD} {l:List (List UInt8)} {wv:Value} (h:wv.ownBlock=D.wv.ownBlock) (k:Nat):(D.lasts l wv).foot k↔D.foot k:=by
 have hb:(∃ p∈(D.lasts l wv).files,k=p.2.blk)↔∃ p∈D.files,k=p.2.blk:=by
  constructor
  . rintro ⟨p,hp,e⟩
    obtain ⟨q,A,rfl⟩:=List.mem_map.1 hp;exact ⟨q,A,by rw [e]; split <;> rfl⟩
  . rintro ⟨p,hp,e⟩
    exact ⟨_,List.mem_map.2 ⟨p,hp,rfl⟩,by rw [e]; split <;> rfl⟩
 unfold DiskD.foot;rw [hb,show (D.lasts l wv).wv=wv from rfl,h];exact Iff.rfl
theorem ak0 {base:Nat} {D:DiskD} (a:Option Addr) (cap:Nat) (ns:List (List UInt8)) (hns:ns.length<=1048576) (w:World) (h:DiskAt base w D) (hr:Row1 w a (ns.map λx=>.string (S x))) (haf:∀ ad,a=some ad->¬ D.foot ad.block)
 (hall:∀ n∈ns,∃ f,(n,f)∈D.files) (hwl:D.waits.length<=1048576) :
 Calls Tryz.prog 222 #[.pointer (some ⟨D.blk,0,none⟩),.slice a ns.length cap] w λe w'=>e=.returned (.tuple #[])/\∃ wv,wv.ownBlock=D.wv.ownBlock/\DiskAt base w' (D.lasts ns wv)/\Mod D.foot w w':=by
 have HR:=zq hr;have b6:=zq haf;have b7:=zq hall;have HD:=zq h;clear hr haf hall h;go_enter Tryz.func222,Tryz.ntmps222;go_wp2_with fail;go_loopw [9] (λi wr=>∃ (k:Nat) (wv:Value),k<=ns.length/\i=.int .i64 (k:Int)/\Zq (wv.ownBlock=D.wv.ownBlock)/\Zq (DiskAt base wr (D.lasts (ns.take k) wv))/\Zq (Mod D.foot w wr)) (λi _=>ns.length+1 - (intOf i).toNat)
 case atStart=>exact ⟨0,D.wv,by omega,rfl,rfl,by show DiskAt _ _ _; rw [List.take_zero,akz]; exact HD.o,Mod.refl _ _⟩
 case round =>
  obtain ⟨k,wv,hk,rfl,ac,I,ap⟩:=hrel
  by_cases hlt:k < ns.length
  ·
   obtain ⟨b,off,b8,O⟩:=(HR.o.mod ap.o b6.o) k (by rw [List.length_map]; exact hlt);rw [List.getElem_map] at O;obtain ⟨f,hf⟩:=b7.o ns[k] (List.getElem_mem hlt);have bd:ns.take (k+1)=ns.take k++[ns[k]]:=List.take_succ_eq_append_getElem hlt;have b9:=zq bd;have HF:=zq hf;clear bd hf;generalize ns[k]=nm at *
   obtain ⟨A,ar,bh,bj⟩:=aik (l:=ns.take k) (wv:=wv) HF.o;have ak:=zq ar;have ca:=zq bj;have cb:=zq bh;have R:=jw I.o nm;rw [mq I.o.names ar] at R;unfold ry at R;simp only [Option.map_some] at R;have cc:(D.lasts (ns.take k) wv).blk=D.blk:=rfl;have bk:(D.lasts (ns.take k) wv).mB=D.mB:=rfl;rw [bk] at R;have c2:wr.cell? ⟨D.blk,2,none⟩=some (.map (some D.mB)):=I.o.cell 2 _ rfl;have av:Zq (Below wr.heap.size wr (wr.alloc (.cells #[.pointer (some ⟨A.blk,0,none⟩)] 261))):=(Below.refl _ _).alloc (Nat.le_refl _) _;clear ar bh bj cc bk;rw [b8] at *
   go_upto_region 4 with fail
   clear R c2 O;have a1:=I.o.below av.o;have U:¬ (D.lasts (ns.take k) wv).foot wr.heap.size:=λh=>by have:=I.o.lt h; omega
   have al:(wr.alloc (.cells #[.pointer (some ⟨A.blk,0,none⟩)] 261)).cell? ⟨wr.heap.size,0,none⟩=some (.pointer (some ⟨A.blk,0,none⟩)):=by rw [World.cell?_alloc_new]; rfl
   have bl:Zq (Mod D.foot w (wr.alloc (.cells #[.pointer (some ⟨A.blk,0,none⟩)] 261))):=ap.o.trans (Mod.of_below av.o);have bm:wr.heap.size < (wr.alloc (.cells #[.pointer (some ⟨A.blk,0,none⟩)] 261)).heap.size:=by simp
   clear av I;generalize wr.alloc (.cells #[.pointer (some ⟨A.blk,0,none⟩)] 261)=w1 at *
   generalize wr.heap.size=bx at *
   have B:=a1.file _ ak.o;have cd:w1.cell? ⟨A.blk,1,none⟩=some (.string (S A.now)):=by unfold World.cell?; rw [show w1.heap[(⟨A.blk,1,none⟩:Addr).block]?=_ from B]; rfl
   have ce:w1.cell? ⟨A.blk,0,none⟩=some (.string (S A.img)):=by unfold World.cell?; rw [show w1.heap[(⟨A.blk,0,none⟩:Addr).block]?=_ from B]; rfl
   have cf:w1.frozen? ⟨A.blk,0,none⟩=false:=by unfold World.frozen?; rw [show w1.heap[(⟨A.blk,0,none⟩:Addr).block]?=_ from B]; rfl
   obtain ⟨bo,bp⟩:=a1.set_img ak.o A.now;have br:bx≠A.blk:=λe=>U (.inr (.inr (.inl ⟨_,ak.o,e⟩)))
   have am:((w1.setCell ⟨A.blk,0,none⟩ (.string (S A.now))).drew).cell? ⟨bx,0,none⟩=some (.pointer (some ⟨A.blk,0,none⟩)):=by
    show (w1.setCell ⟨A.blk,0,none⟩ (.string (S A.now))).cell? ⟨bx,0,none⟩=_;rw [World.cell?_setCell_other _ _ _ _ (λq=>br (congrArg Addr.block q).symm)]; exact al
   have bs:=bo.below ((Below.refl _ (w1.setCell ⟨A.blk,0,none⟩ (.string (S A.now)))).drew)
   have bw:∀ M,(({ (D.lasts (ns.take k) wv) with files:=kv (D.lasts (ns.take k) wv).files nm A.now }:DiskD)).foot M->(D.lasts (ns.take k) wv).foot M:=λM E=>by
    rcases E with h | h | ⟨p,hp,h⟩ | h
    . exact .inl h
    . exact .inr (.inl h)
    . obtain ⟨q,hq,hb,_⟩:=sj hp
      exact .inr (.inr (.inl ⟨q,hq,h.trans hb⟩))
    . exact .inr (.inr (.inr h))
   have cg:Zq (Mod D.foot w ((w1.setCell ⟨A.blk,0,none⟩ (.string (S A.now))).drew)):=(bl.o.trans (bp.mono (λM _ E=>(su ac.o M).1 E))).drew;have X:∃ f2,(nm,f2)∈kv (D.lasts (ns.take k) wv).files nm A.now/\f2.blk=A.blk:=⟨{ A with img:=A.now },List.mem_map.2 ⟨_,ak.o,by rw [if_pos rfl]⟩,rfl⟩;have J:=zq bs;have bz:=zq bw;have a6:=zq X;have b0:=zq U;clear a1 bo bs bp B bw X U bl br;go_region;clear cd ce cf al bm;generalize (w1.setCell ⟨A.blk,0,none⟩ (.string (S A.now))).drew=w2 at *
   obtain ⟨f2,b1,a7⟩:=a6.o;have an:(D.lasts (ns.take k) wv).waits.length<=1048576:=Nat.le_trans (List.length_filter_le _ _) hwl;have a8:=zq (aky J.o b1 (bx:=bx) (by rw [a7]; exact am) (λh=>b0.o (bz.o _ h)) an);obtain ⟨aw,cw,N⟩:=kg J.o.row;replace N:wv=.slice aw (D.lasts (ns.take k) wv).waits.length cw:=N;have c3:w2.cell? ⟨D.blk,3,none⟩=some (.slice aw (D.lasts (ns.take k) wv).waits.length cw):=J.o.cell 3 _ (by show some wv=_; rw [<- N]);rw [a7] at a8
   have ao:Zq (Calls Tryz.prog 220 #[.slice aw (D.lasts (ns.take k) wv).waits.length cw,.func (.func 245) #[] #[.pointer (some ⟨bx,0,none⟩)]] w2 λe w' =>
    ∃ F,e=.returned F/\w'.ownsRow base 296 3 F (others A.blk (D.lasts (ns.take k) wv).waits).length (dh (others A.blk (D.lasts (ns.take k) wv).waits))/\w2.grownBy w' wv.ownBlock/\F.ownBlock=wv.ownBlock):=by
    have h:=a8.o;show Calls _ _ _ _ _;rw [<- N];exact h
   clear a8 b1 a7 am an;have ck:D.blk < w2.heap.size:=J.o.lt (.inl rfl);have Y:∀ M,wv.ownBlock=some M->M≠D.blk:=λM E=>(J.o.apart.2.2 M E).1
   have b2:=zq Y;have cs:=zq N;clear Y N;go_wp2_with fail;refine ao.o.mono ?_;rintro e w3 ⟨F,rfl,Z,ba,bb⟩;have ab:w3.heap[D.blk]?=w2.heap[D.blk]?:=ba.block _ ck (λe=>b2.o _ e.symm rfl);have bc:=ab.trans J.o.head;have hu:∃ u,w3.cell? ⟨D.blk,3,none⟩=some u:=⟨wv,by unfold World.cell?; rw [show w3.heap[(⟨D.blk,3,none⟩:Addr).block]?=_ from bc]; rfl⟩;obtain ⟨u,hu⟩:=hu;have cy:w3.frozen? ⟨D.blk,3,none⟩=false:=by unfold World.frozen?; rw [show w3.heap[(⟨D.blk,3,none⟩:Addr).block]?=_ from bc]; rfl
   obtain ⟨b3,b4⟩:=J.o.set_waits F (others A.blk (D.lasts (ns.take k) wv).waits) ba Z (λM E=>.inl (bb ▸ E)) (λx hx=>J.o.waitf x (List.mem_filter.1 hx).1);have cm:Zq (Mod D.foot w (w3.setCell ⟨D.blk,3,none⟩ F)):=cg.o.trans (b4.mono (λM _ E=>(su ac.o M).1 (bz.o M E)))
   have cn:Zq (DiskAt base (w3.setCell ⟨D.blk,3,none⟩ F) (D.lasts (ns.take (k+1)) F)):=by
    show DiskAt _ _ _;rw [b9.o,<- aij (wv:=wv) HD.o.names HF.o,<- ca.o,<- cb.o];exact b3
   have b5:Zq (F.ownBlock=D.wv.ownBlock):=bb.trans ac.o;obtain ⟨a2,c7,co⟩:=kg Z;generalize (others A.blk (D.lasts (ns.take k) wv).waits).length=m2 at *
   clear Z ba bb ab bc b3 b4 ao;subst co;go_wp2_with fail;go_roundw
   case rel=>exact ⟨k+1,_,by omega,by go_num,b5,cn,cm⟩
   case measure=>simp [intOf]; omega
  ·
   obtain rfl:k=ns.length:=by omega
   rw [List.take_length] at I;go_wp2_with fail;go_end0;exact ⟨rfl,wv,ac.o,I.o,ap.o⟩
def DiskD.syncE (D:DiskD) (ns:List (List UInt8)):Int:=if D.bars ns=0 then D.done else D.bars ns
def DiskD.sync (D:DiskD) (ns:List (List UInt8)) (wv:Value):DiskD:=if D.bars ns=0 then (if D.left=0 then D.burn else D.burn.lasts ns wv) else D
theorem sync_any {base:Nat} {D:DiskD} (a:Option Addr) (cap:Nat) (ns:List (List UInt8)) (hns:ns.length<=1048576) (w:World) (h:DiskAt base w D) (hr:Row1 w a (ns.map λx=>.string (S x))) (haf:∀ ad,a=some ad->¬ D.foot ad.block) (hwl:D.waits.length<=1048576) :
 Calls Tryz.prog 170 #[.pointer (some ⟨D.blk,0,none⟩),.slice a ns.length cap] w λe w'=>∃ wv,e=.returned (.int .i64 (D.syncE ns))/\wv.ownBlock=D.wv.ownBlock/\DiskAt base w' (D.sync ns wv)/\Mod D.foot w w':=by
 have U:=zq (yw a cap ns hns w h hr);have X:=zq (aa7 w h);have E:Zq (D.syncE ns=if D.bars ns=0 then D.done else D.bars ns):=rfl;have HY:Zq (∀ wv,D.sync ns wv=if D.bars ns=0 then (if D.left=0 then D.burn else D.burn.lasts ns wv) else D):=λ_=>rfl
 have Y:Zq (D.bars ns=if D.down then 8 else if ns.all λn=>(D.find n).isSome then 0 else 9):=rfl;have HR:=zq hr;have Z:=zq haf;have HD:=zq h;clear hr haf h;go_enter Tryz.func170,Tryz.ntmps170;go_wp2_with fail;refine U.o.mono ?_;rintro e w1 ⟨rfl,rfl⟩;clear U
 by_cases hb0:D.bars ns=0
 ·
  have B:=zq hb0;rw [hb0] at E HY ⊢;clear hb0;go_wp2_with fail;refine X.o.mono ?_;rintro e w2 ⟨rfl,ab,ac⟩;have ak:=zq ab;have I:Zq (Mod D.foot w1 w2):=Mod.below_foot ac;clear ab ac X
  by_cases h0:D.left=0
  ·
   have A:D.done=8:=if_pos h0;rw [A] at E ⊢;clear A;go_wp2_with fail;go_ret;exact ⟨D.wv,by rw [E.o]; rfl,rfl,by rw [HY.o,if_pos trivial,if_pos h0]; exact ak.o,I.o⟩
  ·
   have A:D.done=0:=if_neg h0;rw [A] at E ⊢;clear A
   have F:∀ n∈ns,∃ f,(n,f)∈D.burn.files:=λn hn=>by
    have h1:=Y.o;rw [B.o] at h1
    have R:(ns.all λn=>(D.find n).isSome)=true:=by
     cases h3:(ns.all λn=>(D.find n).isSome) with
     | true=>rfl
     | false=>rw [h3] at h1; cases J:D.down <;> rw [J] at h1 <;> simp at h1
    have h4:=List.all_eq_true.1 R n hn;obtain ⟨f,hf⟩:=Option.isSome_iff_exists.1 h4;exact ⟨f,by rw [(j6 D).2.2.2.1]; exact lm hf⟩
   have M:=zq (ak0 (D:=D.burn) a cap ns hns w2 ak.o (HR.o.mod I.o Z.o) (λad ar hf=>Z.o ad ar (by rw [(j6 D).1] at hf; exact hf)) F (by rw [(j6 D).2.2.2.2.2.1]; exact hwl));rw [(j6 D).2.1] at M;clear F;go_wp2_with fail;refine M.o.mono ?_;rintro e w3 ⟨rfl,wv,hw,al,N⟩;have a1:=zq al;have a6:Zq (Mod D.foot w1 w3):=I.o.trans (by rw [(j6 D).1] at N; exact N);have a7:Zq (wv.ownBlock=D.wv.ownBlock):=by rw [(j6 D).2.2.2.2.1] at hw; exact hw
   clear al N hw M;go_wp2_with fail;go_ret;exact ⟨wv,by rw [E.o]; rfl,a7.o,by rw [HY.o,if_pos trivial,if_neg h0]; exact a1.o,a6.o⟩
 ·
  have B:=zq hb0
  have O:D.bars ns=8\/D.bars ns=9:=by
   have h1:=Y.o;have R:=B.o;rw [h1] at R ⊢
   split
   . exact .inl rfl
   . rename_i J
     rw [if_neg J] at R
     split
     . rename_i h3; rw [if_pos h3] at R; exact absurd rfl R
     . exact .inr rfl
  clear hb0;replace E:Zq (D.syncE ns=D.bars ns):=by show _=_; rw [E.o,if_neg B.o]
  generalize D.bars ns=bz at *
  rcases O with rfl | rfl
  all_goals
   go_wp2_with fail;go_ret;exact ⟨D.wv,by rw [E.o]; rfl,rfl,by rw [HY.o,if_neg (by decide)]; exact HD.o,Mod.refl _ _⟩
end DskW
namespace SegW
open Go.RowKit OctMath DskW
structure SegD where
 blk:Nat
 db:Nat
 head:List UInt8
 size:Nat
 n:Nat
 b:Nat
 txt:List UInt8
 synced:Nat
 pv:Value
def SegD.e (R:SegD):Nat:=R.b+R.txt.length
def SegD.places (R:SegD):List Nat:=(List.range R.n).map λi=>R.b+i * R.size
def SegD.cells (R:SegD):Array Value:=#[.pointer (some ⟨R.db,0,none⟩),.string (S R.head),.int .i64 (R.size:Int),R.pv,.int .i64 (R.e:Int),.int .i64 (R.synced:Int)]
structure SegAt (base:Nat) (w:World) (R:SegD):Prop where
 cells:w.heap[R.blk]?=some (.cells R.cells 141 (0,0))
 row:w.ownsRow base 3 1 R.pv R.n (R.places.map λ(p:Nat)=>Value.int .i64 (p:Int))
 apart:∀ k,R.pv.ownBlock=some k->k≠R.blk
 above:base<=R.blk
 sz:16<=R.size/\R.size<=4096
 empty:R.n=0->R.b=0/\R.txt=[]
 long:0 < R.n->(R.n - 1) * R.size<=R.txt.length/\R.txt.length<=R.n * R.size/\R.b+(R.n - 1) * R.size<=99999999
 mult:R.b % R.size=0
 syn:R.synced<=R.e
 hd:R.head.length<=1048576
def SegD.foot (R:SegD) (k:Nat):Prop:=k=R.blk\/R.pv.ownBlock=some k
theorem SegAt.lt {base:Nat} {w:World} {R:SegD} (h:SegAt base w R) {k:Nat} (hk:R.foot k):k < w.heap.size:=by
 rcases hk with rfl | hk
 . exact (Array.getElem?_eq_some_iff.1 h.cells).1
 . rcases h.row.2 with ⟨e,_⟩ | ⟨g,cap,cur,e,_,hg,_⟩
   . rw [e] at hk; cases hk
   . rw [e] at hk; cases hk; exact (Array.getElem?_eq_some_iff.1 hg).1
theorem ownsRow_mod {base:Nat} {w w':World} {M:Nat->Prop} {e:TypeId} {size n:Nat} {v:Value} {xs:List Value} (h:w.ownsRow base e size v n xs) (hm:Mod M w w') (hM:∀ k,v.ownBlock=some k->¬ M k):w'.ownsRow base e size v n xs:=by
 refine ⟨h.1,?_⟩
 rcases h.2 with h0 | ⟨g,cap,cur,e,hb,hg,r⟩
 . exact .inl h0
 . exact .inr ⟨g,cap,cur,e,hb,(hm.block g (Array.getElem?_eq_some_iff.1 hg).1 (hM g (by rw [e]; rfl))).trans hg,r⟩
theorem SegAt.mod {base:Nat} {w w':World} {R:SegD} {M:Nat->Prop} (h:SegAt base w R) (hm:Mod M w w') (hM:∀ k,R.foot k->¬ M k):SegAt base w' R :=
 { h with
  cells:=(hm.block _ (h.lt (.inl rfl)) (hM _ (.inl rfl))).trans h.cells
  row:=ownsRow_mod h.row hm λk hk=>hM k (.inr hk) }
theorem SegAt.below {base:Nat} {w w':World} {R:SegD} (h:SegAt base w R) (hb:Below w.heap.size w w'):SegAt base w' R :=
 h.mod (M:=λ_=>False) (Mod.of_below hb) (λ_ _ h=>h)
theorem SegAt.cell {base:Nat} {w:World} {R:SegD} (h:SegAt base w R) (k:Nat) (v:Value) (hv:R.cells[k]?=some v):w.cell? ⟨R.blk,k,Option.none⟩=some v:=by
 unfold World.cell?;rw [h.cells]
 simpa using hv
theorem SegAt.place {base:Nat} {w:World} {R:SegD} (h:SegAt base w R) (i:Nat) (hi:i < R.n):∃ g cap,R.pv=.slice (some ⟨g,0,Option.none⟩) R.n cap/\R.n<=cap/\w.cell? ⟨g,i,Option.none⟩=some (.int .i64 ((R.b+i * R.size:Nat):Int)):=by
 rcases h.row.2 with ⟨_,e⟩ | ⟨g,cap,cur,e,_,hg,hn,_,hsz,ht⟩
 . omega
 ·
  refine ⟨g,cap,e,hn,?_⟩;unfold World.cell?;rw [hg]
  have h1:(cur.toList.take (R.n * 1))[i]?=some (.int .i64 ((R.b+i * R.size:Nat):Int)):=by
   rw [ht];simp [SegD.places,hi]
  rw [List.getElem?_take_of_lt (by omega)] at h1
  simpa using h1
theorem SegAt.pv_nil {base:Nat} {w:World} {R:SegD} (h:SegAt base w R):∃ a cap,R.pv=.slice a R.n cap:=by
 rcases h.row.2 with ⟨e,e0⟩ | ⟨g,cap,cur,e,_⟩
 . exact ⟨_,_,by rw [e,e0]⟩
 . exact ⟨_,_,e⟩
theorem SegAt.e_le {base:Nat} {w:World} {R:SegD} (h:SegAt base w R):R.e<=100004095:=by
 unfold SegD.e
 by_cases h0:R.n=0
 . obtain ⟨h1,A⟩:=h.empty h0
   rw [h1,A]; simp
 ·
  obtain ⟨h1,A,E⟩:=h.long (by omega);have:=h.sz
  have F:R.n * R.size=(R.n - 1) * R.size+R.size:=by
   obtain ⟨m,B⟩:∃ m,R.n=m+1:=⟨R.n - 1,by omega⟩;rw [B,Nat.add_mul]; simp
  omega
theorem begin_any {base:Nat} {R:SegD} (w:World) (h:SegAt base w R) :
 Calls Tryz.prog 37 #[.pointer (some ⟨R.blk,0,none⟩)] w λe w'=>e=.returned (.int .i64 (R.b:Int))/\w'=w:=by
 obtain ⟨a,E,A⟩:=h.pv_nil;have c3:w.cell? ⟨R.blk,3,none⟩=some (.slice a R.n E):=h.cell 3 _ (by show some R.pv=_; rw [A])
 by_cases h0:R.n=0
 ·
  have hb:=(h.empty h0).1;rw [h0] at c3;rw [hb];clear h A;go_enter Tryz.func37,Tryz.ntmps37;go_wp2_with fail;go_ret;exact ⟨rfl,rfl⟩
 ·
  obtain ⟨g,cap,hp,F,hc⟩:=h.place 0 (by omega);rw [Nat.zero_mul,Nat.add_zero] at hc;rw [A] at hp;injection hp with e1 e2 e3
  subst e1;have B:0 < R.n:=by omega
  have I:¬ (R.n:Int)=0:=by omega
  clear h A e3;go_enter Tryz.func37,Tryz.ntmps37;go_wp2_with fail;go_ret;exact ⟨rfl,rfl⟩
theorem end_any {base:Nat} {R:SegD} (w:World) (h:SegAt base w R) :
 Calls Tryz.prog 40 #[.pointer (some ⟨R.blk,0,none⟩)] w λe w'=>e=.returned (.int .i64 (R.e:Int))/\w'=w:=by
 have c4:w.cell? ⟨R.blk,4,none⟩=some (.int .i64 (R.e:Int)):=h.cell 4 _ rfl;clear h;go_enter Tryz.func40,Tryz.ntmps40;go_wp2_with fail;go_ret;exact ⟨rfl,rfl⟩
theorem synced_any {base:Nat} {R:SegD} (w:World) (h:SegAt base w R) :
 Calls Tryz.prog 67 #[.pointer (some ⟨R.blk,0,none⟩)] w λe w'=>e=.returned (.int .i64 (R.synced:Int))/\w'=w:=by
 have c5:w.cell? ⟨R.blk,5,none⟩=some (.int .i64 (R.synced:Int)):=h.cell 5 _ rfl;clear h;go_enter Tryz.func67,Tryz.ntmps67;go_wp2_with fail;go_ret;exact ⟨rfl,rfl⟩
theorem adj {base:Nat} {R:SegD} (w:World) (h:SegAt base w R) (ht:Tab w) (p:Nat) (hp:p<=99999999) :
 Calls Tryz.prog 75 #[.pointer (some ⟨R.blk,0,none⟩),.int .i64 (p:Int)] w λe w'=>e=.returned (.string (S (af R.head p)))/\Below w.heap.size w w':=by
 have c1:w.cell? ⟨R.blk,1,none⟩=some (.string (S R.head)):=h.cell 1 _ rfl;have c2:=af3 R.head (p:Int) w ht (by omega) (by have:=h.hd; omega);rw [decide_eq_true (by omega:0<=(p:Int)/\(p:Int)<=99999999),show xz R.head (p:Int)=af R.head p by unfold xz; rw [if_pos (by omega)]; rfl] at c2;have C:=zq c2;clear h ht c2;generalize af R.head p=y at *
 go_enter Tryz.func75,Tryz.ntmps75;go_wp2_with fail;refine C.o.mono ?_;rintro e w2 ⟨rfl,hb⟩;have A:=zq hb;clear hb C;go_wp2_with fail;go_ret;exact ⟨rfl,A.o⟩
def SegD.room (R:SegD):Nat:=if 0 < R.n/\R.txt.length < R.n * R.size then R.n * R.size - R.txt.length else R.size
theorem vv {n s:Nat} (h:0 < n):n * s=(n - 1) * s+s:=by
 obtain ⟨m,rfl⟩:∃ m,n=m+1:=⟨n - 1,by omega⟩;rw [Nat.add_mul]; simp
theorem room_any {base:Nat} {R:SegD} (w:World) (h:SegAt base w R) :
 Calls Tryz.prog 180 #[.pointer (some ⟨R.blk,0,none⟩)] w λe w'=>e=.returned (.int .i64 (R.room:Int))/\Drawn w w':=by
 obtain ⟨a,O,I⟩:=h.pv_nil;have c2:w.cell? ⟨R.blk,2,none⟩=some (.int .i64 (R.size:Int)):=h.cell 2 _ rfl;have c3:w.cell? ⟨R.blk,3,none⟩=some (.slice a R.n O):=h.cell 3 _ (by show some R.pv=_; rw [I]);have c4:w.cell? ⟨R.blk,4,none⟩=some (.int .i64 (R.e:Int)):=h.cell 4 _ rfl;obtain ⟨U,X⟩:=h.sz
 by_cases h0:R.n=0
 ·
  have B:R.room=R.size:=by unfold SegD.room; rw [if_neg (by omega)]
  rw [B];rw [h0] at c3;clear h I B c4;generalize R.size=s at *
  go_enter Tryz.func180,Tryz.ntmps180;go_wp2_with fail;go_quiet (fail);go_wp2_with fail;go_ret;exact ⟨rfl,⟨_,rfl⟩⟩
 ·
  obtain ⟨g,cap,hp,Y,hc⟩:=h.place (R.n - 1) (by omega);rw [I] at hp;injection hp with e1 e2 e3
  subst e1;obtain ⟨l1,l2,l3⟩:=h.long (by omega);have Z:=vv (s:=R.size) (by omega:0 < R.n);have ab:((R.n - 1:Nat):Int)=(R.n:Int) - 1:=by omega
  have E:R.e=R.b+R.txt.length:=rfl;have J:0 < R.n:=by omega
  have N:R.n<=1073741824:=by
   have:=Nat.le_mul_of_pos_right R.n (by omega:0 < R.size);omega
  have A:Zq (R.room=if 0 < R.n/\R.txt.length < R.n * R.size then R.n * R.size - R.txt.length else R.size):=rfl;clear h I e3;generalize R.room=r at *
  generalize R.e=ee at *
  generalize R.size=s at *
  generalize R.txt.length=tl at *
  generalize hns:R.n * s=ns at *
  generalize hpl:R.b+(R.n - 1) * s=pl at *
  have F:(pl:Int)+(s:Int)=((R.b+ns:Nat):Int):=by omega
  generalize R.b=b at *
  generalize R.n=n at *
  generalize (n - 1) * s=ps at *
  have ac:(0:Int) < (n:Int):=by omega
  by_cases hlt:tl < ns
  ·
   have B:(r:Int)=(pl:Int)+(s:Int) - (ee:Int):=by have:=A.o; rw [if_pos ⟨J,hlt⟩] at this; omega
   have M:(ee:Int) < (pl:Int)+(s:Int):=by omega
   rw [B];clear B A hns hpl F E;go_enter Tryz.func180,Tryz.ntmps180;go_wp2_with fail;go_quiet (fail);go_wp2_with fail;go_quiet (fail);go_wp2_with fail;go_ret;exact ⟨rfl,(Drawn.refl w).drewN _ |>.drewN _⟩
  ·
   have B:r=s:=by have:=A.o; rw [if_neg (by omega)] at this; omega
   have M:¬ (ee:Int) < (pl:Int)+(s:Int):=by omega
   rw [B];clear B A hns hpl F E;go_enter Tryz.func180,Tryz.ntmps180;go_wp2_with fail;go_quiet (fail);go_wp2_with fail;go_ret;exact ⟨rfl,⟨_,rfl⟩⟩
theorem of_any {base:Nat} {R:SegD} (p:Nat) (hp:p<=1073741824) (w:World) (h:SegAt base w R) :
 Calls Tryz.prog 73 #[.pointer (some ⟨R.blk,0,none⟩),.int .i64 (p:Int)] w λe w'=>e=.returned (.int .i64 ((p / R.size * R.size:Nat):Int))/\Drawn w w':=by
 have c2:w.cell? ⟨R.blk,2,none⟩=some (.int .i64 (R.size:Int)):=h.cell 2 _ rfl;obtain ⟨B,E⟩:=h.sz;have J:p / R.size * R.size<=p:=Nat.div_mul_le_self _ _;have F:p / R.size<=p:=Nat.div_le_self _ _;have hd:Int.tdiv (p:Int) (R.size:Int)=((p / R.size:Nat):Int):=rfl;have M:((p / R.size:Nat):Int) * (R.size:Int)=((p / R.size * R.size:Nat):Int):=by rw [Int.natCast_mul]
 have I:¬ (R.size:Int)=0:=by omega
 clear h;generalize hA:p / R.size * R.size=A at *
 generalize p / R.size=q at *
 generalize R.size=s at *
 go_enter Tryz.func73,Tryz.ntmps73;go_wp2_with fail;go_quiet (fail);go_wp2_with fail;go_ret;exact ⟨rfl,⟨_,rfl⟩⟩
def SegD.left (R:SegD) (p:Int):Int:=if p < (R.b:Int)\/(R.e:Int)<=p then 0 else (min (p.toNat / R.size * R.size+R.size) R.e:Nat) - p
theorem left_any {base:Nat} {R:SegD} (p:Int) (hp : -9223372036854775808<=p/\p<=9223372036854775807) (w:World) (h:SegAt base w R) :
 Calls Tryz.prog 72 #[.pointer (some ⟨R.blk,0,none⟩),.int .i64 p] w λe w'=>e=.returned (.int .i64 (R.left p))/\Drawn w w':=by
 have c2:w.cell? ⟨R.blk,2,none⟩=some (.int .i64 (R.size:Int)):=h.cell 2 _ rfl;have c4:w.cell? ⟨R.blk,4,none⟩=some (.int .i64 (R.e:Int)):=h.cell 4 _ rfl;have C:=zq (begin_any w h);have F:=h.e_le;obtain ⟨I,J⟩:=h.sz;have B:Zq (R.left p=if p < (R.b:Int)\/(R.e:Int)<=p then 0 else (min (p.toNat / R.size * R.size+R.size) R.e:Nat) - p):=rfl
 by_cases h1:p < (R.b:Int)
 ·
  have A:R.left p=0:=by rw [B.o,if_pos (.inl h1)]
  rw [A];clear A B h;go_enter Tryz.func72,Tryz.ntmps72;go_wp2_with fail;refine C.o.mono ?_;rintro e w' ⟨rfl,rfl⟩;go_wp2_with fail;go_ret;exact ⟨rfl,Drawn.refl _⟩
 ·
  by_cases h2:(R.e:Int)<=p
  ·
   have A:R.left p=0:=by rw [B.o,if_pos (.inr h2)]
   rw [A];clear A B h;go_enter Tryz.func72,Tryz.ntmps72;go_wp2_with fail;refine C.o.mono ?_;rintro e w' ⟨rfl,rfl⟩;go_wp2_with fail;go_ret;exact ⟨rfl,Drawn.refl _⟩
  ·
   obtain ⟨u,rfl⟩:∃ u:Nat,p=(u:Int):=⟨p.toNat,by omega⟩;have A:R.left (u:Int)=(min (u / R.size * R.size+R.size) R.e:Nat) - (u:Int):=by rw [B.o,if_neg (by omega),Int.toNat_natCast]
   have M:=zq (λ(k:Nat)=>of_any u (by omega) (w.drewN k) (h.below (((Drawn.refl w).drewN k).below _)));have N:u / R.size * R.size<=u:=Nat.div_mul_le_self _ _;have E:((min (u / R.size * R.size+R.size) R.e:Nat):Int)=min (((u / R.size * R.size:Nat):Int)+(R.size:Int)) (R.e:Int):=by omega
   rw [A,E];clear A B h E;generalize u / R.size * R.size=q at *
   generalize R.size=s at *
   generalize R.e=ee at *
   generalize R.b=b at *
   go_enter Tryz.func72,Tryz.ntmps72;go_wp2_with fail;refine C.o.mono ?_;rintro e w' ⟨rfl,rfl⟩;go_wp2_with fail;go_quiet (first | (go_at_call 73; exact qb (M.o _)));go_wp2_with fail;go_ret;exact ⟨rfl,⟨_,rfl⟩⟩
def aad (D:DiskD) (R:SegD):Prop:=∀ i,i < R.n->D.bytes (af R.head (R.b+i * R.size))=(R.txt.drop (i * R.size)).take R.size/\(D.find (af R.head (R.b+i * R.size))).isSome=true
def SegD.readB (R:SegD) (p n:Int):Bool:=decide (1<=n) && decide (n<=R.left p)
def SegD.readE (D:DiskD) (R:SegD) (p n:Int):Int:=if D.down then 8 else if n=0/\(R.b:Int)<=p/\p<=(R.e:Int) then 0 else if R.readB p n then 0 else 2
def SegD.readT (D:DiskD) (R:SegD) (p n:Int):List UInt8:=if D.down=false/\R.readB p n=true then (R.txt.drop (p.toNat - R.b)).take n.toNat else []
theorem af8 {b s p:Nat} (hm:b % s=0) (hs:0 < s) (hp:b<=p):∃ i,p / s * s=b+i * s/\b+i * s<=p/\p < b+i * s+s/\i=(p - b) / s:=by
 obtain ⟨q,rfl⟩:∃ q,b=q * s:=⟨b / s,by have:=Nat.div_add_mod b s; rw [hm,Nat.add_zero,Nat.mul_comm] at this; exact this.symm⟩;obtain ⟨d,rfl⟩:∃ d,p=q * s+d:=⟨p - q * s,by omega⟩;have h1:(q * s+d) / s=q+d / s:=by rw [Nat.mul_comm,Nat.mul_add_div hs]
 have A:=Nat.div_add_mod d s;have B:=Nat.mod_lt d hs;rw [Nat.mul_comm] at A;refine ⟨d / s,by rw [h1,Nat.add_mul],by omega,by omega,by rw [Nat.add_sub_cancel_left]⟩
theorem ail {base:Nat} {w:World} {D:DiskD} {R:SegD} (h:SegAt base w R) (hok:aad D R) {p:Nat} {n:Int} (h1:R.b<=p) (h2:p < R.e) (hn:1<=n) (hl:n<=R.left (p:Int)) (hd:D.down=false) :
 D.readE (af R.head (p / R.size * R.size)) ((p:Int) - ((p / R.size * R.size:Nat):Int)) n=0/\D.readT (af R.head (p / R.size * R.size)) ((p:Int) - ((p / R.size * R.size:Nat):Int)) n=(R.txt.drop (p - R.b)).take n.toNat:=by
 obtain ⟨O,U⟩:=h.sz
 have I:0 < R.n:=by
  rcases Nat.eq_zero_or_pos R.n with h0 | h0
  . obtain ⟨J,N⟩:=h.empty h0
    unfold SegD.e at h2;rw [N] at h2; simp at h2; omega
  . exact h0
 obtain ⟨l1,l2,Z⟩:=h.long I;obtain ⟨i,J,N,e3,X⟩:=af8 h.mult (by omega:0 < R.size) h1;unfold SegD.e at h2
 have M:i < R.n:=by
  rw [X];exact (Nat.div_lt_iff_lt_mul (by omega)).2 (by omega)
 obtain ⟨f1,Y⟩:=hok i M
 have B:n<=((min (R.b+i * R.size+R.size) R.e:Nat):Int) - (p:Int):=by
  unfold SegD.left at hl;rw [if_neg (by unfold SegD.e; omega),Int.toNat_natCast,J] at hl;exact hl
 rw [J]
 have A:D.bars [af R.head (R.b+i * R.size)]=0:=by
  unfold DiskD.bars;rw [hd];simp [Y]
 have E:(D.bytes (af R.head (R.b+i * R.size))).length=min R.size (R.txt.length - i * R.size):=by
  rw [f1,List.length_take,List.length_drop]
 have F:D.readOk (af R.head (R.b+i * R.size)) ((p:Int) - ((R.b+i * R.size:Nat):Int)) n=true:=by
  unfold DiskD.readOk;rw [E];unfold SegD.e at B;simp only [Bool.and_eq_true,decide_eq_true_eq];refine ⟨⟨by omega,by omega⟩,by omega⟩
 refine ⟨?_,?_⟩
 . unfold DiskD.readE
   rw [if_pos A,if_pos F]
 ·
  unfold DiskD.readT;rw [if_pos ⟨A,F⟩,f1,List.drop_take,List.drop_drop,List.take_take];have hk:((p:Int) - ((R.b+i * R.size:Nat):Int)).toNat=p - (R.b+i * R.size):=by omega
  rw [hk];unfold SegD.e at B;congr 1
  . omega
  . congr 1; omega
theorem read_any {base:Nat} {D:DiskD} {R:SegD} (p n:Int) (hp : -9223372036854775808<=p/\p<=9223372036854775807) (hn : -9223372036854775808<=n/\n<=9223372036854775807) (w:World) (ht:Tab w) (h:SegAt base w R) (hD:DiskAt base w D) (hdb:R.db=D.blk) (hok:aad D R) :
 Calls Tryz.prog 38 #[.pointer (some ⟨R.blk,0,none⟩),.int .i64 p,.int .i64 n] w λe w'=>e=.returned (.tuple #[.string (S (R.readT D p n)),.int .i64 (R.readE D p n)])/\Below w.heap.size w w':=by
 have c0:w.cell? ⟨R.blk,0,none⟩=some (.pointer (some ⟨D.blk,0,none⟩)):=h.cell 0 _ (by rw [<- hdb]; rfl);have c4:w.cell? ⟨R.blk,4,none⟩=some (.int .i64 (R.e:Int)):=h.cell 4 _ rfl;have CD:=zq (aa6 w hD);have CB:=zq (begin_any w h);have CL:=zq (left_any p hp w h);have M:Zq (R.readE D p n=if D.down then 8 else if n=0/\(R.b:Int)<=p/\p<=(R.e:Int) then 0 else if R.readB p n then 0 else 2):=rfl;have O:Zq (R.readT D p n=if D.down=false/\R.readB p n=true then (R.txt.drop (p.toNat - R.b)).take n.toNat else []):=rfl;have B:Zq (R.readB p n=(decide (1<=n) && decide (n<=R.left p))):=rfl
 by_cases hdn:D.down=true
 ·
  rw [hdn] at CD;have J:R.readE D p n=8:=by rw [M.o,if_pos hdn]
  have ht:R.readT D p n=[]:=by rw [O.o,if_neg (by rw [hdn]; simp)]
  rw [J,ht];clear J ht M O B h hD hok hdb hdn CL CB;go_enter Tryz.func38,Tryz.ntmps38;go_wp2_with fail;refine CD.o.mono ?_;rintro e w' ⟨rfl,rfl⟩;go_wp2_with fail;go_ret2;exact ⟨rfl,Below.refl _ _⟩
 ·
  rw [Bool.not_eq_true] at hdn
  by_cases hz:n=0/\(R.b:Int)<=p/\p<=(R.e:Int)
  ·
   have J:R.readE D p n=0:=by rw [M.o,if_neg (by rw [hdn]; simp),if_pos hz]
   have A:R.readT D p n=[]:=by rw [O.o,if_neg (by rw [B.o,hz.1]; simp)]
   rw [J,A];obtain ⟨rfl,ba,bb⟩:=hz;rw [hdn] at CD;clear J A M O B h hD hok hdb hdn CL;go_enter Tryz.func38,Tryz.ntmps38;go_wp2_with fail;refine CD.o.mono ?_;rintro e w' ⟨rfl,rfl⟩;go_wp2_with fail;refine CB.o.mono ?_;rintro e w' ⟨rfl,rfl⟩;go_wp2_with fail;go_ret2;exact ⟨rfl,Below.refl _ _⟩
  ·
   rw [if_neg (by rw [hdn]; simp),if_neg hz] at M;rw [hdn] at CD
   by_cases hn1:n < 1
   ·
    have hb:R.readB p n=false:=by rw [B.o,decide_eq_false (by omega)]; rfl
    have J:R.readE D p n=2:=by rw [M.o,hb]; rfl
    have A:R.readT D p n=[]:=by rw [O.o,hb]; simp
    rw [J,A];clear J A M O B h hD hok hdb CL hb
    by_cases U:n=0
    ·
     subst U
     by_cases hpb:p < (R.b:Int)
     ·
      clear hz;go_enter Tryz.func38,Tryz.ntmps38;go_wp2_with fail;refine CD.o.mono ?_;rintro e w' ⟨rfl,rfl⟩;go_wp2_with fail;refine CB.o.mono ?_;rintro e w' ⟨rfl,rfl⟩;go_wp2_with fail;go_ret2;exact ⟨rfl,Below.refl _ _⟩
     ·
      have bc:(R.e:Int) < p:=by omega
      clear hz;go_enter Tryz.func38,Tryz.ntmps38;go_wp2_with fail;refine CD.o.mono ?_;rintro e w' ⟨rfl,rfl⟩;go_wp2_with fail;refine CB.o.mono ?_;rintro e w' ⟨rfl,rfl⟩;go_wp2_with fail;go_ret2;exact ⟨rfl,Below.refl _ _⟩
    ·
     clear hz;go_enter Tryz.func38,Tryz.ntmps38;go_wp2_with fail;refine CD.o.mono ?_;rintro e w' ⟨rfl,rfl⟩;go_wp2_with fail;go_ret2;exact ⟨rfl,Below.refl _ _⟩
   ·
    have U:¬ n=0:=by omega
    by_cases hll:R.left p < n
    ·
     have hb:R.readB p n=false:=by rw [B.o,decide_eq_false (by omega:¬ n<=R.left p),Bool.and_false]
     have J:R.readE D p n=2:=by rw [M.o,hb]; rfl
     have A:R.readT D p n=[]:=by rw [O.o,hb]; simp
     rw [J,A];clear J A M O B h hD hok hdb hb hz CB;generalize R.left p=lf at *
     go_enter Tryz.func38,Tryz.ntmps38;go_wp2_with fail;refine CD.o.mono ?_;rintro e w' ⟨rfl,rfl⟩;go_wp2_with fail;refine CL.o.mono ?_;rintro e w' ⟨rfl,E⟩;have ao:=zq E;clear E;go_wp2_with fail;go_ret2;exact ⟨rfl,ao.o.below _⟩
    ·
     have hb:R.readB p n=true:=by rw [B.o,decide_eq_true (by omega:1<=n),decide_eq_true (by omega:n<=R.left p)]; rfl
     have J:R.readE D p n=0:=by rw [M.o,hb]; rfl
     have bd:(R.b:Int)<=p/\p < (R.e:Int):=by
      have hq:¬ (p < (R.b:Int)\/(R.e:Int)<=p):=by
       intro hq;have:R.left p=0:=if_pos hq;omega
      omega
     obtain ⟨u,rfl⟩:∃ u:Nat,p=(u:Int):=⟨p.toNat,by omega⟩;have A:R.readT D (u:Int) n=(R.txt.drop (u - R.b)).take n.toNat:=by rw [O.o,if_pos ⟨hdn,hb⟩,Int.toNat_natCast]
     have bh:=h.e_le;obtain ⟨Z,ab⟩:=ail h hok (by omega:R.b<=u) (by omega) (by omega:1<=n) (by omega) hdn;have hq:u / R.size * R.size<=u:=Nat.div_mul_le_self _ _
     have ac:=(show ∃ i,u / R.size * R.size=R.b+i * R.size/\i < R.n from by
      have hs:=h.sz;obtain ⟨i,e1,e2,e3,e4⟩:=af8 h.mult (by omega:0 < R.size) (by omega:R.b<=u);refine ⟨i,e1,?_⟩
      have U:0 < R.n:=by
       rcases Nat.eq_zero_or_pos R.n with h0 | h0
       . obtain ⟨e5,e6⟩:=h.empty h0
         have:R.e=0:=by unfold SegD.e; rw [e5,e6]; rfl
         omega
       . exact h0
      obtain ⟨l1,l2,l3⟩:=h.long U;rw [e4];refine (Nat.div_lt_iff_lt_mul (by omega)).2 ?_;have:R.e=R.b+R.txt.length:=rfl;omega)
     have ar:u / R.size * R.size<=99999999:=by
      obtain ⟨i,e1,e2⟩:=ac;obtain ⟨l1,l2,l3⟩:=h.long (by omega);have:i * R.size<=(R.n - 1) * R.size:=Nat.mul_le_mul_right _ (by omega);omega
     have ad:=zq (λ(w2:World) (hb:Below w.heap.size w w2)=>of_any u (by omega) w2 (h.below hb));have av:=zq (λ(w2:World) (hb:Below w.heap.size w w2)=>adj w2 (h.below hb) (ht.below hb) (u / R.size * R.size) ar);have ak:=zq (λ(w2:World) (hb:Below w.heap.size w w2)=>DskW.read_any (af R.head (u / R.size * R.size)) ((u:Int) - ((u / R.size * R.size:Nat):Int)) n (by omega) hn w2 (hD.below hb));rw [Z,ab] at ak;rw [J,A];have a1:Zq (∀ w2:World,Below w.heap.size w w2->w2.cell? ⟨R.blk,0,none⟩=some (.pointer (some ⟨D.blk,0,none⟩))):=λw2 hb=>by rw [hb.cell (bq c0)]; exact c0
     clear J A M O B h hD hok hdb hb hz CB Z ab ac;have bp:IntKind.i64.wrap ((u:Int) - ((u / R.size * R.size:Nat):Int))=(u:Int) - ((u / R.size * R.size:Nat):Int):=IntWalk.i64_in _ (by omega);generalize (R.txt.drop (u - R.b)).take n.toNat=tx at *
     generalize af R.head (u / R.size * R.size)=nm at *
     generalize u / R.size * R.size=q at *
     generalize R.left (u:Int)=lf at *
     go_enter Tryz.func38,Tryz.ntmps38;go_wp2_with fail;refine CD.o.mono ?_;rintro e wz ⟨rfl,rfl⟩;go_wp2_with fail;refine CL.o.mono ?_;rintro e w' ⟨rfl,E⟩;have al:=zq (E.below wz.heap.size);clear E CL CD;go_wp2_with fail;refine (ad.o _ al.o).mono ?_;rintro e w2 ⟨rfl,E⟩;have F:=zq (al.o.trans (E.below wz.heap.size));clear E ad c0 c4;go_wp2_with fail;refine Grow.ja 16 [none,none,none,some (.inl (.pointer (some ⟨D.blk,0,none⟩))),none,none,some (.inl (.string (S nm))),none,none,none,none,some (.inl (.tuple #[.string (S tx),.int .i64 0])),none,none,none,none] Ext (by kernel_rfl) (by kernel_rfl) (by kernel_rfl) Ext.refl (λ_ _ _=>Ext.trans) ?_ ?_
     . intro K hK Y hY v w w' hR h
       simp only [List.mem_cons,List.not_mem_nil,or_false] at hK
       rcases hK with rfl | rfl | rfl | rfl | rfl | rfl | rfl | rfl | rfl | rfl | rfl | rfl | rfl | rfl | rfl | rfl <;> simp only [reduceCtorEq,Option.some.injEq,Sum.inr.injEq] at hY
     simp only [List.take_succ_cons,List.take_zero,List.drop_succ_cons,List.drop_zero]
     iterate 3
      refine Grow.g_det rfl ?_;apply Exists.intro;refine ⟨λw X I=>?_,?_⟩
      . clear I
        go_simp;exact ⟨rfl,Ext.refl _⟩
      go_frame
     refine Grow.g_con rfl (λN X I=>?_) ?_
     . clear I
       have c0:=a1.o N (F.o.trans (((Below.refl w2.heap.size w2).drew.trans X).mono F.o.size));go_simp
       all_goals exact Ext.refl _
     iterate 2
      go_frame;refine Grow.g_det rfl ?_;apply Exists.intro;refine ⟨λw X I=>?_,?_⟩
      . clear I
        go_simp;exact ⟨rfl,Ext.refl _⟩
     go_frame;refine Grow.g_con rfl (λN X I=>?_) ?_
     . clear I
       go_simp;exact (av.o N (F.o.trans (((Below.refl w2.heap.size w2).drew.trans X).mono F.o.size))).mono λe w3 h=>⟨_,h.1,rfl,h.2⟩
     iterate 4
      go_frame;refine Grow.g_det rfl ?_;apply Exists.intro;refine ⟨λw X I=>?_,?_⟩
      . clear I
        go_simp;exact ⟨rfl,Ext.refl _⟩
     go_frame;refine Grow.g_con rfl (λN X I=>?_) ?_
     . clear I
       go_simp;exact (ak.o N (F.o.trans (((Below.refl w2.heap.size w2).drew.trans X).mono F.o.size))).mono λe w3 h=>⟨_,h.1,rfl,h.2⟩
     iterate 4
      go_frame;refine Grow.g_det rfl ?_;apply Exists.intro;refine ⟨λw X I=>?_,?_⟩
      . clear I
        go_simp;exact ⟨rfl,Ext.refl _⟩
     go_frame;refine Grow.g_nil λw3 am I=>?_
     clear I;refine wpList_nil ?_;have HB:=zq (F.o.trans (((Below.refl w2.heap.size w2).drew.trans am).mono F.o.size));clear am;go_wp2_with fail;go_ret2;exact ⟨rfl,HB.o⟩
def SegD.open_ (R:SegD):Prop:=0 < R.n/\R.txt.length < R.n * R.size
theorem am5 {base:Nat} {R:SegD} (w:World) (h:SegAt base w R) (ho:R.open_) :
 Calls Tryz.prog 183 #[.pointer (some ⟨R.blk,0,none⟩)] w λe w'=>e=.returned (.int .i64 0)/\Drawn w w':=by
 obtain ⟨A,B⟩:=ho;obtain ⟨a,U,F⟩:=h.pv_nil;have c2:w.cell? ⟨R.blk,2,none⟩=some (.int .i64 (R.size:Int)):=h.cell 2 _ rfl;have c3:w.cell? ⟨R.blk,3,none⟩=some (.slice a R.n U):=h.cell 3 _ (by show some R.pv=_; rw [F]);have c4:w.cell? ⟨R.blk,4,none⟩=some (.int .i64 (R.e:Int)):=h.cell 4 _ rfl;obtain ⟨X,Y⟩:=h.sz;obtain ⟨l1,l2,l3⟩:=h.long A;obtain ⟨g,cap,hp,Z,hc⟩:=h.place (R.n - 1) (by omega);rw [F] at hp;injection hp with e1 e2 e3
 subst e1;have I:=vv (s:=R.size) A;have ab:((R.n - 1:Nat):Int)=(R.n:Int) - 1:=by omega
 have N:R.n<=1073741824:=by
  have:=Nat.le_mul_of_pos_right R.n (by omega:0 < R.size);omega
 have J:R.room=R.n * R.size - R.txt.length:=by unfold SegD.room; rw [if_pos ⟨A,B⟩]
 have M:R.e=R.b+R.txt.length:=rfl;have E:=zq (λ(k:Nat)=>room_any (w.drewN k) (h.below (((Drawn.refl w).drewN k).below _)));have O:(0:Int) < (R.n:Int):=by omega
 have key:(R.room:Int) < (R.size:Int)\/(R.room=R.size/\R.e=R.b+(R.n - 1) * R.size):=by omega
 clear h F e3 J I l1 l2 B M;generalize R.room=r at *
 generalize R.e=ee at *
 generalize R.size=s at *
 generalize R.b+(R.n - 1) * s=pl at *
 generalize R.n=n at *
 rcases key with h1 | ⟨h1,h2⟩
 ·
  go_enter Tryz.func183,Tryz.ntmps183;go_wp2_with fail;go_quiet (first | (go_at_call 180; exact qb (E.o _)));go_wp2_with fail;go_ret;exact ⟨rfl,⟨_,rfl⟩⟩
 ·
  subst h1 h2;go_enter Tryz.func183,Tryz.ntmps183;go_wp2_with fail;go_quiet (first | (go_at_call 180; exact qb (E.o _)));go_wp2_with fail;go_ret;exact ⟨rfl,⟨_,rfl⟩⟩
theorem yg {P:Program} (w:World) {ops:Array Oper} {o:Oper} {a:Act} {K:Act->World->Prop} {Q:Exit->Act->World->Prop} {E:Prop} (hgd:o.guard=none) (s x:Operand) (t tn:TypeId)
 (ho:o.op=.call { callee:=.builtin .append,args:=#[s,x],argTypes:=#[t,tn] }) (vs vx:Value) (hs:a.eval s=vs) (hx:a.eval x=vx)
 (v':Value) (w':World) (hr:(Builtin.append_ #[t,tn] o.type #[vs,vx]).run P w=.ok v' w') (h:K (a.put o.dst v') w'):if Region.wanted o (yielded ops a.tmps)=true then Oper.wp P o a w K Q else E:=by
 have A:Region.wanted o (yielded ops a.tmps)=true:=by simp [Region.wanted,hgd]
 rw [if_pos A];exact Lib.wp_append_run w s x t tn ho vs vx hs hx v' w' hr h
def SegD.more (R:SegD) (pv:Value):SegD:={ R with n:=R.n+1,pv:=pv }
theorem aa8 {base:Nat} {w:World} {R:SegD} (h:SegAt base w R) (hfull:R.n=0\/(0 < R.n/\R.txt.length=R.n * R.size)) (he:R.e<=99999999) (hbase:base<=w.heap.size) :
 ∃ E B,(Builtin.append_ #[65,65] 65 #[R.pv,.slice (some ⟨w.heap.size,0,none⟩) 1 1]).run Tryz.prog (w.alloc (.cells #[.int .i64 (R.e:Int)] 3))=.ok E B /\
  SegAt base (B.setCell ⟨R.blk,3,none⟩ E) (R.more E)/\Mod R.foot w (B.setCell ⟨R.blk,3,none⟩ E) /\
  (∃ a cp,E=.slice a (R.n+1) cp)/\B.cell? ⟨R.blk,3,none⟩=some R.pv/\B.cell? ⟨R.blk,4,none⟩=some (.int .i64 (R.e:Int))/\B.frozen? ⟨R.blk,3,none⟩=false/\∀ k,E.ownBlock=some k->R.foot k\/w.heap.size<=k:=by
 have O:Below w.heap.size w (w.alloc (.cells #[.int .i64 (R.e:Int)] 3)):=(Below.refl _ _).alloc (Nat.le_refl _) _;have I:=h.below O
 obtain ⟨i0,Z,ab,ac,ad⟩:∃ i,Tryz.prog.info? 3=some i/\i.zero=some (.int .i64 0)/\i.size=1/\i.bytes=8:=by
  have:=(show (Tryz.prog.info? 3).map (λi=>(i.zero,i.size,i.bytes))=some (some (.int .i64 0),1,8) by kernel_rfl)
  cases hh:Tryz.prog.info? 3 with
  | none=>rw [hh] at this; cases this
  | some i=>rw [hh] at this; have h2:=Option.some.inj this; exact ⟨i,rfl,congrArg (·.1) h2,congrArg (·.2.1) h2,congrArg (·.2.2) h2⟩
 have ar:R.n<=1073741824:=by
  rcases hfull with h0 | ⟨h0,h1⟩
  . omega
  . have:=Nat.le_mul_of_pos_right R.n (by have:=h.sz; omega:0 < R.size)
    unfold SegD.e at he;omega
 obtain ⟨E,B,hr,J,F,_,X⟩:=run_append_own_at (P:=Tryz.prog) _ base 65 65 3 i0 (.int .i64 0) 1 8 Tryz.underlying65 Z ab ac ad rfl (by omega) _ _ _ I.row
  ⟨w.heap.size,0,none⟩ 1 1 [.int .i64 (R.e:Int)] rfl (λj u hu=>by
   have Y:(⟨w.heap.size,0,none⟩:Addr).add j=⟨w.heap.size,j,none⟩:=by unfold Addr.add; split <;> simp_all
   rw [Y,World.cell?_alloc_new]
   match j,hu with
   | 0,hu=>exact hu
   | j+1,hu=>cases hu) (λu hu=>by
   rw [List.mem_singleton] at hu; subst hu; rfl) (by unfold maxLen; omega) (by omega) (Nat.le_trans hbase O.size)
 have av:(w.alloc (.cells #[.int .i64 (R.e:Int)] 3)).heap.size=w.heap.size+1:=World.size_alloc _ _
 have al:R.places++[R.e]=(R.more E).places:=by
  unfold SegD.places SegD.more;simp only;rw [List.range_succ,List.map_append];congr 1;unfold SegD.e
  rcases hfull with h0 | ⟨h0,h1⟩
  . obtain ⟨e1,e2⟩:=h.empty h0
    rw [h0,e1,e2]; simp
  . rw [h1]; rfl
 have A:B.heap[R.blk]?=some (.cells R.cells 141 (0,0)):=(F.block _ (I.lt (.inl rfl)) (λe=>I.apart _ e.symm rfl)).trans I.cells
 have N:∀ k,E.ownBlock=some k->k≠R.blk:=λk hk=>by
  rcases X with e | e
  . rw [e] at hk; exact h.apart k hk
  . rw [e] at hk; cases hk
    have:=I.lt (.inl rfl); omega
 have ao:Mod (λk=>k=R.blk) B (B.setCell ⟨R.blk,3,none⟩ E):=jm _ _ _ _;refine ⟨E,B,hr,?_,?_,kg J,?_,?_,?_,λk hk=>?_⟩
 ·
  have a1:∀ k,k≠R.blk->(B.setCell ⟨R.blk,3,none⟩ E).heap[k]?=B.heap[k]?:=λk hk=>Below.heap_setCell _ _ _ _ (λe=>hk e)
  have U:(B.setCell ⟨R.blk,3,none⟩ E).ownsRow base 3 1 E (R.more E).n ((R.more E).places.map λ(p:Nat)=>Value.int .i64 (p:Int)):=by
   rw [<- al,List.map_append];refine ownsRow_mod (M:=λk=>k=R.blk) J ao (λk hk=>N k hk)
  refine ⟨heap_set1 A _ rfl,U,N,h.above,h.sz,λh0=>absurd (show R.n+1=0 from h0) (by omega),λ_=>?_,h.mult,h.syn,h.hd⟩;show (R.n+1 - 1) * R.size<=R.txt.length/\R.txt.length<=(R.n+1) * R.size/\R.b+(R.n+1 - 1) * R.size<=99999999;rw [Nat.add_sub_cancel,Nat.add_mul];unfold SegD.e at he
  rcases hfull with h0 | ⟨h0,h1⟩
  . obtain ⟨e1,e2⟩:=h.empty h0
    rw [h0,e1,e2]; simp
  . omega
 . have h1:Mod R.foot w B:=(Mod.of_below O).trans ⟨F.os,F.tape,F.output,F.size,λk hk ap=>F.block k hk (λe=>ap (.inr e.symm))⟩
   exact h1.setCell (.inl (.inl rfl)) _
 . unfold World.cell?; rw [show B.heap[(⟨R.blk,3,none⟩:Addr).block]?=_ from A]; rfl
 . unfold World.cell?; rw [show B.heap[(⟨R.blk,4,none⟩:Addr).block]?=_ from A]; rfl
 . unfold World.frozen?; rw [show B.heap[(⟨R.blk,3,none⟩:Addr).block]?=_ from A]; rfl
 . rcases X with e | e
   . exact .inl (.inr (e ▸ hk))
   . rw [e] at hk; cases hk; right; omega
theorem uk {D:DiskD} {n:List UInt8} {b k:Nat} (h:(D.create n b).foot k):D.foot k\/k=b:=by
 obtain ⟨L,Dn,hb⟩:=ajy D;unfold DiskD.create at h
 split at h
 . exact .inl h
 ·
  split at h
  . rw [hb] at h; exact .inl h
  ·
   rw [hb] at h
   rcases h with h | h | ⟨p,hp,h⟩ | h
   . exact .inl (.inl h)
   . exact .inl (.inr (.inl h))
   . rcases List.mem_append.1 hp with hp | hp
     . exact .inl (.inr (.inr (.inl ⟨p,hp,h⟩)))
     . rw [List.mem_singleton] at hp; subst hp; exact .inr h
   . exact .inl (.inr (.inr (.inr h)))
def SegD.freshE (R:SegD) (D:DiskD):Int:=if 99999999 < R.e then 2 else D.createE (af R.head R.e)
theorem aeu {base:Nat} {D:DiskD} {R:SegD} (w:World) (ht:Tab w) (h:SegAt base w R) (hD:DiskAt base w D) (hdb:R.db=D.blk) (hap:∀ k,D.foot k->¬ R.foot k) (ho:¬ R.open_) (hbase:base<=w.heap.size) :
 Calls Tryz.prog 183 #[.pointer (some ⟨R.blk,0,none⟩)] w λe w'=>e=.returned (.int .i64 (R.freshE D)) /\
  (R.freshE D≠0->SegAt base w' R/\((99999999 < R.e/\DiskAt base w' D)\/(¬ 99999999 < R.e/\∃ bk,DiskAt base w' (D.create (af R.head R.e) bk)))/\Mod D.foot w w') /\
  (R.freshE D=0->∃ bk pv,w.heap.size<=bk/\DiskAt base w' (D.create (af R.head R.e) bk)/\SegAt base w' (R.more pv)/\Mod (λk=>D.foot k\/R.foot k) w w'/\(∀ k,pv.ownBlock=some k->R.foot k\/w.heap.size<=k)/\∀ k,(D.create (af R.head R.e) bk).foot k->¬ (R.more pv).foot k):=by
 obtain ⟨a,cp,hv⟩:=h.pv_nil;have c1:w.cell? ⟨R.blk,1,none⟩=some (.string (S R.head)):=h.cell 1 _ rfl;have c2:w.cell? ⟨R.blk,2,none⟩=some (.int .i64 (R.size:Int)):=h.cell 2 _ rfl;have c3:w.cell? ⟨R.blk,3,none⟩=some (.slice a R.n cp):=h.cell 3 _ (by show some R.pv=_; rw [hv]);have c4:w.cell? ⟨R.blk,4,none⟩=some (.int .i64 (R.e:Int)):=h.cell 4 _ rfl;obtain ⟨da,dc⟩:=h.sz;have dd:=h.e_le;have b9:R.room=R.size:=by unfold SegD.room; exact if_neg ho
 have bs:=zq (λ(k:Nat)=>room_any (w.drewN k) (h.below (((Drawn.refl w).drewN k).below _)));rw [b9] at bs;have ca:Zq (∀ w2:World,Below w.heap.size w w2->w2.cell? ⟨R.blk,1,none⟩=some (.string (S R.head))):=λw2 hb=>by rw [hb.cell (bq c1)]; exact c1
 have cb:Zq (∀ w2:World,Below w.heap.size w w2->w2.cell? ⟨R.blk,4,none⟩=some (.int .i64 (R.e:Int))):=λw2 hb=>by rw [hb.cell (bq c4)]; exact c4
 obtain ⟨nm,ap⟩:∃ nm,Zq (nm=xz R.head (R.e:Int)):=⟨_,rfl⟩;obtain ⟨ok,ar⟩:∃ ok,Zq (ok=decide (0<=(R.e:Int)/\(R.e:Int)<=99999999)):=⟨_,rfl⟩
 have cc:Zq (∀ w2:World,Below w.heap.size w w2->Calls Tryz.prog 140 #[.string (S R.head),.int .i64 (R.e:Int)] w2 λe w'=>e=.returned (.tuple #[.string (S nm),.bool ok])/\Below w2.heap.size w2 w'):=λw2 hb=>by
  rw [ap.o,ar.o];exact af3 R.head (R.e:Int) w2 (ht.below hb) (by omega) (by have:=h.hd; omega)
 have HH:=zq h;have br:=zq hD
 have E:R.n=0\/(0 < R.n/\R.txt.length=R.n * R.size):=by
  rcases Nat.eq_zero_or_pos R.n with h0 | h0
  . exact .inl h0
  ·
   right
   refine ⟨h0,?_⟩;have:=(h.long h0).2.1;have de:¬ (R.txt.length < R.n * R.size):=λhh=>ho ⟨h0,hh⟩
   omega
 have cd:=zq E
 have bw:R.n=0\/∃ g cap,R.pv=.slice (some ⟨g,0,Option.none⟩) R.n cap/\R.n<=cap/\w.cell? ⟨g,R.n - 1,Option.none⟩=some (.int .i64 ((R.b+(R.n - 1) * R.size:Nat):Int))/\0 < R.n:=by
  rcases E with h0 | ⟨h0,_⟩
  . exact .inl h0
  . obtain ⟨g,cap,r1,r2,r3⟩:=h.place (R.n - 1) (by omega)
    exact .inr ⟨g,cap,r1,r2,r3,h0⟩
 have cx:R.n<=1073741824:=by
  rcases E with h0 | ⟨h0,h1⟩
  . omega
  . have:=Nat.le_mul_of_pos_right R.n (by omega:0 < R.size)
    have:=h.e_le;unfold SegD.e at this;omega
 have bz:R.n=0\/¬ (R.e:Int)=((R.b+(R.n - 1) * R.size:Nat):Int):=by
  rcases E with h0 | ⟨h0,h1⟩
  . exact .inl h0
  . right
    have:=vv (s:=R.size) h0;unfold SegD.e;omega
 clear h hD c1 b9 E ht
 rcases bw with h0 | ⟨g,cap,hp,hnc,hc,hnpos⟩
 ·
  rw [h0] at c3;clear bz;go_enter Tryz.func183,Tryz.ntmps183;go_wp2_with fail;go_quiet (first | (go_at_call 180; exact qb (bs.o _)));go_wp2_with fail;refine Grow.ja 14 [none,none,none,some (.inl (.string (S R.head))),none,none,none,some (.inl (.int .i64 (R.e:Int))),some (.inl (.tuple #[.string (S nm),.bool ok])),none,none,none,none,none] Ext (by kernel_rfl) (by kernel_rfl) (by kernel_rfl) Ext.refl (λ_ _ _=>Ext.trans) ?_ ?_
  . intro K hK Y hY v w w' hR h
    simp only [List.mem_cons,List.not_mem_nil,or_false] at hK
    rcases hK with rfl | rfl | rfl | rfl | rfl | rfl | rfl | rfl | rfl | rfl | rfl | rfl | rfl | rfl <;> simp only [reduceCtorEq,Option.some.injEq,Sum.inr.injEq] at hY
  simp only [List.take_succ_cons,List.take_zero,List.drop_succ_cons,List.drop_zero]
  iterate 3
   refine Grow.g_det rfl ?_;apply Exists.intro;refine ⟨λw X B=>?_,?_⟩
   . clear B
     go_simp;exact ⟨rfl,Ext.refl _⟩
   go_frame
  refine Grow.g_con rfl (λF X B=>?_) ?_
  . clear B
    have c1:=ca.o F ((((Drawn.refl w).drewN nq).below w.heap.size).trans (((Below.refl _ _).drew.trans X).mono (Nat.le_refl _)));go_simp
    all_goals exact Ext.refl _
  iterate 3
   go_frame;refine Grow.g_det rfl ?_;apply Exists.intro;refine ⟨λw X B=>?_,?_⟩
   . clear B
     go_simp;exact ⟨rfl,Ext.refl _⟩
  go_frame;refine Grow.g_con rfl (λF X B=>?_) ?_
  . clear B
    have c4:=cb.o F ((((Drawn.refl w).drewN nq).below w.heap.size).trans (((Below.refl _ _).drew.trans X).mono (Nat.le_refl _)));go_simp
    all_goals exact Ext.refl _
  go_frame;refine Grow.g_con rfl (λF X B=>?_) ?_
  . clear B
    go_simp;exact (cc.o F ((((Drawn.refl w).drewN nq).below w.heap.size).trans (((Below.refl _ _).drew.trans X).mono (Nat.le_refl _)))).mono λe w3 h=>⟨_,h.1,rfl,h.2⟩
  iterate 5
   go_frame;refine Grow.g_det rfl ?_;apply Exists.intro;refine ⟨λw X B=>?_,?_⟩
   . clear B
     go_simp;exact ⟨rfl,Ext.refl _⟩
  go_frame;refine Grow.g_nil λw3 av B=>?_
  clear B;refine wpList_nil ?_;have J:=zq ((((Drawn.refl w).drewN nq).below w.heap.size).trans (((Below.refl _ _).drew.trans av).mono (Nat.le_refl _)));clear av
  by_cases h99:99999999 < R.e
  ·
   have Z:ok=false:=by rw [ar.o]; exact decide_eq_false (by omega)
   subst Z;have N:Zq (R.freshE D=2):=if_pos h99;go_wp2_with fail;go_ret;rw [N.o];exact ⟨rfl,λ_=>⟨HH.o.below J.o,.inl ⟨h99,br.o.below J.o⟩,Mod.of_below J.o⟩,λh=>absurd h (by decide)⟩
  ·
   have Z:ok=true:=by rw [ar.o]; exact decide_eq_true (by omega)
   subst Z;have b0:nm=af R.head R.e:=by rw [ap.o]; unfold xz; rw [if_pos (by omega)]; rfl
   subst b0;have N:Zq (R.freshE D=D.createE (af R.head R.e)):=if_neg h99;have ab:=br.o.below J.o;have ac:=HH.o.below J.o;have c0:w3.cell? ⟨R.blk,0,none⟩=some (.pointer (some ⟨D.blk,0,none⟩)):=ac.cell 0 _ (by rw [<- hdb]; rfl);have a1:=zq (xe (af R.head R.e) w3 ab (Nat.le_trans hbase J.o.size));have b1:=zq ab;have a6:=zq ac;clear ab ac;go_wp2_with fail;refine a1.o.mono ?_;rintro e w4 ⟨bk,a7,rfl,a8,ad⟩;have ba:=zq a7;have ak:=zq a8;have bb:=zq (a6.o.mod ad (λk hk A=>hap k A hk));have O:=zq ((Mod.of_below (M:=D.foot) J.o).trans ad);clear a8 ad a1 b1 a6 c0 a7
   by_cases hce:D.createE (af R.head R.e)=0
   ·
    have b2:Zq (R.freshE D=0):=N.o.trans hce;rw [hce];have I:SegAt base w4.drew R:=bb.o.below (Below.refl _ _).drew;have co:w4.drew.heap.size=w4.heap.size:=rfl;obtain ⟨a5,al,U⟩:=I.pv_nil
    try clear h0
    obtain ⟨v',w8,bc,bd,bh,⟨a9,bj,rfl⟩,b3,cq,ci,bl⟩:=aa8 I cd.o (by omega) (Nat.le_trans hbase O.o.size);have b4:=zq bd;have b5:=zq bh;have bm:=zq bl;have b6:Zq ((Builtin.append_ #[65,65] 65 #[.slice a5 R.n al,.slice (some ⟨w4.heap.size,0,none⟩) 1 1]).run Tryz.prog (w4.alloc (.cells #[.int .i64 (R.e:Int)] 3)).drew=.ok (.slice a9 (R.n+1) bj) w8):=by rw [<- U]; exact bc
    have bo:w4.drew.cell? ⟨R.blk,4,none⟩=some (.int .i64 (R.e:Int)):=I.cell 4 _ rfl;have bp:w4.drew.cell? ⟨R.blk,3,none⟩=some (.slice a5 R.n al):=I.cell 3 _ (by show some R.pv=_; rw [U]);have am:Below w4.drew.heap.size w4.drew (w4.drew.alloc (.cells #[.int .i64 (R.e:Int)] 3)):=(Below.refl _ _).alloc (Nat.le_refl _) _;have cr:(w4.alloc (.cells #[.int .i64 (R.e:Int)] 3)).drew.cell? ⟨R.blk,3,none⟩=some (.slice a5 R.n al):=(am.cell (bq bp)).trans bp;have cs:(w4.alloc (.cells #[.int .i64 (R.e:Int)] 3)).drew.cell? ⟨R.blk,4,none⟩=some (.int .i64 (R.e:Int)):=(am.cell (bq bo)).trans bo;rw [U] at b3;clear bc bd bh bl am hce c2 c3 c4 I U;go_wp2_with fail;go_region_law (refine yg _ (by rfl) _ _ _ _ (by rfl) _ _ (by rfl) (by rfl) (.slice a9 (R.n+1) bj) w8 b6.o ?_)
    all_goals (
     go_wp2_with fail;go_ret;rw [b2.o];have hm:=(Mod.of_below (Below.refl w4.heap.size w4).drew).trans b5.o
     have an:∀ k,(D.create (af R.head R.e) bk).foot k->¬ R.foot k:=λk hk A=>by
      rcases uk hk with h | h
      . exact hap k h A
      . have h1:=HH.o.lt A
        have h2:=J.o.size;have h3:=ba.o;omega
     refine ⟨rfl,λh=>absurd rfl h,λ_=>⟨bk,_,Nat.le_trans J.o.size ba.o,ak.o.mod hm (λk hk A=>an k hk A),b4.o,(O.o.mono λ_ _ h=>.inl h).trans (hm.mono λ_ _ h=>.inr h),λk hk=>(bm.o k hk).imp_right λh=>Nat.le_trans O.o.size h,λk hk A=>?_⟩⟩
     rcases A with rfl | A
     . exact an _ hk (.inl rfl)
     . rcases bm.o k A with h | h
       . exact an k hk h
       . have h1:=ak.o.lt hk
         have h2:w4.heap.size<=k:=h;omega)
   ·
    have b7:Zq (D.createE (af R.head R.e)≠0):=hce;have ck:¬ D.createE (af R.head R.e)=0:=hce;clear hce;generalize D.createE (af R.head R.e)=ce at *
    go_wp2_with fail;go_ret;rw [N.o];exact ⟨rfl,λ_=>⟨bb.o,.inr ⟨h99,bk,ak.o⟩,O.o⟩,λh=>absurd h b7.o⟩
 ·
  rw [hv] at hp;injection hp with e1 e2 e3
  subst e1;have cw:¬ R.n=0:=by omega
  have cy:=bz.resolve_left cw;have ds:((R.n - 1:Nat):Int)=(R.n:Int) - 1:=by omega
  have c6:(0:Int) < (R.n:Int):=by omega
  have c7:0 < R.n:=by omega
  clear bz e3 hv;generalize hpl:R.b+(R.n - 1) * R.size=pl at *
  go_enter Tryz.func183,Tryz.ntmps183;go_wp2_with fail;go_quiet (first | (go_at_call 180; exact qb (bs.o _)));go_wp2_with fail;refine Grow.ja 14 [none,none,none,some (.inl (.string (S R.head))),none,none,none,some (.inl (.int .i64 (R.e:Int))),some (.inl (.tuple #[.string (S nm),.bool ok])),none,none,none,none,none] Ext (by kernel_rfl) (by kernel_rfl) (by kernel_rfl) Ext.refl (λ_ _ _=>Ext.trans) ?_ ?_
  . intro K hK Y hY v w w' hR h
    simp only [List.mem_cons,List.not_mem_nil,or_false] at hK
    rcases hK with rfl | rfl | rfl | rfl | rfl | rfl | rfl | rfl | rfl | rfl | rfl | rfl | rfl | rfl <;> simp only [reduceCtorEq,Option.some.injEq,Sum.inr.injEq] at hY
  simp only [List.take_succ_cons,List.take_zero,List.drop_succ_cons,List.drop_zero]
  iterate 3
   refine Grow.g_det rfl ?_;apply Exists.intro;refine ⟨λw X B=>?_,?_⟩
   . clear B
     go_simp;exact ⟨rfl,Ext.refl _⟩
   go_frame
  refine Grow.g_con rfl (λF X B=>?_) ?_
  . clear B
    have c1:=ca.o F ((((Drawn.refl w).drewN nq).below w.heap.size).trans (((Below.refl _ _).drew.trans X).mono (Nat.le_refl _)));go_simp
    all_goals exact Ext.refl _
  iterate 3
   go_frame;refine Grow.g_det rfl ?_;apply Exists.intro;refine ⟨λw X B=>?_,?_⟩
   . clear B
     go_simp;exact ⟨rfl,Ext.refl _⟩
  go_frame;refine Grow.g_con rfl (λF X B=>?_) ?_
  . clear B
    have c4:=cb.o F ((((Drawn.refl w).drewN nq).below w.heap.size).trans (((Below.refl _ _).drew.trans X).mono (Nat.le_refl _)));go_simp
    all_goals exact Ext.refl _
  go_frame;refine Grow.g_con rfl (λF X B=>?_) ?_
  . clear B
    go_simp;exact (cc.o F ((((Drawn.refl w).drewN nq).below w.heap.size).trans (((Below.refl _ _).drew.trans X).mono (Nat.le_refl _)))).mono λe w3 h=>⟨_,h.1,rfl,h.2⟩
  iterate 5
   go_frame;refine Grow.g_det rfl ?_;apply Exists.intro;refine ⟨λw X B=>?_,?_⟩
   . clear B
     go_simp;exact ⟨rfl,Ext.refl _⟩
  go_frame;refine Grow.g_nil λw3 av B=>?_
  clear B;refine wpList_nil ?_;have J:=zq ((((Drawn.refl w).drewN nq).below w.heap.size).trans (((Below.refl _ _).drew.trans av).mono (Nat.le_refl _)));clear av
  by_cases h99:99999999 < R.e
  ·
   have Z:ok=false:=by rw [ar.o]; exact decide_eq_false (by omega)
   subst Z;have N:Zq (R.freshE D=2):=if_pos h99;go_wp2_with fail;go_ret;rw [N.o];exact ⟨rfl,λ_=>⟨HH.o.below J.o,.inl ⟨h99,br.o.below J.o⟩,Mod.of_below J.o⟩,λh=>absurd h (by decide)⟩
  ·
   have Z:ok=true:=by rw [ar.o]; exact decide_eq_true (by omega)
   subst Z;have b0:nm=af R.head R.e:=by rw [ap.o]; unfold xz; rw [if_pos (by omega)]; rfl
   subst b0;have N:Zq (R.freshE D=D.createE (af R.head R.e)):=if_neg h99;have ab:=br.o.below J.o;have ac:=HH.o.below J.o;have c0:w3.cell? ⟨R.blk,0,none⟩=some (.pointer (some ⟨D.blk,0,none⟩)):=ac.cell 0 _ (by rw [<- hdb]; rfl);have a1:=zq (xe (af R.head R.e) w3 ab (Nat.le_trans hbase J.o.size));have b1:=zq ab;have a6:=zq ac;clear ab ac;go_wp2_with fail;refine a1.o.mono ?_;rintro e w4 ⟨bk,a7,rfl,a8,ad⟩;have ba:=zq a7;have ak:=zq a8;have bb:=zq (a6.o.mod ad (λk hk A=>hap k A hk));have O:=zq ((Mod.of_below (M:=D.foot) J.o).trans ad);clear a8 ad a1 b1 a6 c0 a7
   by_cases hce:D.createE (af R.head R.e)=0
   ·
    have b2:Zq (R.freshE D=0):=N.o.trans hce;rw [hce];have I:SegAt base w4.drew R:=bb.o.below (Below.refl _ _).drew;have co:w4.drew.heap.size=w4.heap.size:=rfl;obtain ⟨a5,al,U⟩:=I.pv_nil
    try clear h0
    obtain ⟨v',w8,bc,bd,bh,⟨a9,bj,rfl⟩,b3,cq,ci,bl⟩:=aa8 I cd.o (by omega) (Nat.le_trans hbase O.o.size);have b4:=zq bd;have b5:=zq bh;have bm:=zq bl;have b6:Zq ((Builtin.append_ #[65,65] 65 #[.slice a5 R.n al,.slice (some ⟨w4.heap.size,0,none⟩) 1 1]).run Tryz.prog (w4.alloc (.cells #[.int .i64 (R.e:Int)] 3)).drew=.ok (.slice a9 (R.n+1) bj) w8):=by rw [<- U]; exact bc
    have bo:w4.drew.cell? ⟨R.blk,4,none⟩=some (.int .i64 (R.e:Int)):=I.cell 4 _ rfl;have bp:w4.drew.cell? ⟨R.blk,3,none⟩=some (.slice a5 R.n al):=I.cell 3 _ (by show some R.pv=_; rw [U]);have am:Below w4.drew.heap.size w4.drew (w4.drew.alloc (.cells #[.int .i64 (R.e:Int)] 3)):=(Below.refl _ _).alloc (Nat.le_refl _) _;have cr:(w4.alloc (.cells #[.int .i64 (R.e:Int)] 3)).drew.cell? ⟨R.blk,3,none⟩=some (.slice a5 R.n al):=(am.cell (bq bp)).trans bp;have cs:(w4.alloc (.cells #[.int .i64 (R.e:Int)] 3)).drew.cell? ⟨R.blk,4,none⟩=some (.int .i64 (R.e:Int)):=(am.cell (bq bo)).trans bo;rw [U] at b3;clear bc bd bh bl am hce c2 c3 c4 I U;go_wp2_with fail;go_region_law (refine yg _ (by rfl) _ _ _ _ (by rfl) _ _ (by rfl) (by rfl) (.slice a9 (R.n+1) bj) w8 b6.o ?_)
    all_goals (
     go_wp2_with fail;go_ret;rw [b2.o];have hm:=(Mod.of_below (Below.refl w4.heap.size w4).drew).trans b5.o
     have an:∀ k,(D.create (af R.head R.e) bk).foot k->¬ R.foot k:=λk hk A=>by
      rcases uk hk with h | h
      . exact hap k h A
      . have h1:=HH.o.lt A
        have h2:=J.o.size;have h3:=ba.o;omega
     refine ⟨rfl,λh=>absurd rfl h,λ_=>⟨bk,_,Nat.le_trans J.o.size ba.o,ak.o.mod hm (λk hk A=>an k hk A),b4.o,(O.o.mono λ_ _ h=>.inl h).trans (hm.mono λ_ _ h=>.inr h),λk hk=>(bm.o k hk).imp_right λh=>Nat.le_trans O.o.size h,λk hk A=>?_⟩⟩
     rcases A with rfl | A
     . exact an _ hk (.inl rfl)
     . rcases bm.o k A with h | h
       . exact an k hk h
       . have h1:=ak.o.lt hk
         have h2:w4.heap.size<=k:=h;omega)
   ·
    have b7:Zq (D.createE (af R.head R.e)≠0):=hce;have ck:¬ D.createE (af R.head R.e)=0:=hce;clear hce;generalize D.createE (af R.head R.e)=ce at *
    go_wp2_with fail;go_ret;rw [N.o];exact ⟨rfl,λ_=>⟨bb.o,.inr ⟨h99,bk,ak.o⟩,O.o⟩,λh=>absurd h b7.o⟩
def TabB (base:Nat) (w:World):Prop:=∃ W,Tab W/\W.heap.size<=base/\Below W.heap.size W w
theorem TabB.tab {base:Nat} {w:World} (h:TabB base w):Tab w:=by
 obtain ⟨W,h1,B,A⟩:=h;exact h1.below A
theorem TabB.mod {base:Nat} {w w':World} {M:Nat->Prop} (h:TabB base w) (hm:Mod M w w') (hM:∀ k,M k->base<=k):TabB base w':=by
 obtain ⟨W,h1,A,B⟩:=h;exact ⟨W,h1,A,B.trans (hm.to_below W.heap.size B.size (λk hk=>Nat.le_trans A (hM k hk)))⟩
theorem TabB.below {base:Nat} {w w':World} (h:TabB base w) (hb:Below w.heap.size w w'):TabB base w' :=
 h.mod (M:=λ_=>False) (Mod.of_below hb) (λ_ h=>h.elim)
structure Quiet (D:DiskD):Prop where
 left:D.left = -1
 up:D.down=false
theorem Quiet.burn {D:DiskD} (h:Quiet D):D.burn=D:=by
 unfold DiskD.burn;rw [h.left];simp
theorem Quiet.done {D:DiskD} (h:Quiet D):D.done=0:=by unfold DiskD.done; rw [h.left]; simp
theorem Quiet.createE {D:DiskD} (h:Quiet D) {n:List UInt8} (hf:D.find n=none):D.createE n=0:=by
 unfold DiskD.createE;rw [h.up,hf,h.done]; simp
theorem Quiet.create {D:DiskD} (h:Quiet D) {n:List UInt8} (hf:D.find n=none) (b:Nat):D.create n b={ D with files:=D.files++[(n,⟨b,[],[]⟩)] }:=by
 unfold DiskD.create;rw [h.up,hf,h.left,h.burn]; simp [h.left,h.up]
theorem yx {D:DiskD} (h:Quiet D) {n:List UInt8} (hf:D.find n=none) (b:Nat) (m:List UInt8):(D.create n b).find m=if m=n then some ⟨b,[],[]⟩ else D.find m:=by
 rw [h.create hf];unfold DiskD.find at *
 simp only;rw [List.find?_append]
 by_cases e:m=n
 ·
  subst e;rw [if_pos rfl]
  cases hh:D.files.find? (λp=>p.1 == m) with
  | none=>simp
  | some x=>rw [hh] at hf; cases hf
 . rw [if_neg e]
   have:([(n,(⟨b,[],[]⟩:FileD))].find? λp=>p.1 == m)=none:=by simp; exact λh=>e h.symm
   rw [this]; simp
theorem qh (l:List (List UInt8×FileD)) (n t m:List UInt8):(((setNow l n t).find? λp=>p.1 == m).map (·.2))=if m=n then ((l.find? λp=>p.1 == m).map (·.2)).map (λf=>{ f with now:=t }) else (l.find? λp=>p.1 == m).map (·.2):=by
 induction l with
 | nil=>simp [setNow]
 | cons p l ih =>
   unfold setNow at *
   rw [List.map_cons,List.find?_cons,List.find?_cons];have A:(if p.1=n then (p.1,{ p.2 with now:=t }) else p).1=p.1:=by split <;> rfl
   rw [A]
   by_cases hp:p.1=m
   . rw [show (p.1 == m)=true by simp [hp]]
     simp only [Option.map_some]
     by_cases hm:m=n
     . rw [if_pos hm,if_pos (hp.trans hm)]
     . rw [if_neg hm,if_neg (by rw [hp]; exact hm)]
   . rw [show (p.1 == m)=false by simp [hp]]
     exact ih
theorem am6 (s t:List UInt8):laidL s s.length t=s++t:=by
 unfold laidL
 by_cases h:t=[]
 . rw [if_pos h,h,List.append_nil]
 ·
  rw [if_neg h];unfold oh;rw [List.take_append_of_le_length (Nat.le_refl _),List.take_length];have:s.length+t.length - s.length=t.length:=by omega
  rw [this,List.drop_of_length_le (by simp),List.append_nil]
theorem Quiet.write {D:DiskD} (h:Quiet D) (hn:(D.files.map (·.1)).Nodup) {n:List UInt8} {f:FileD} (hf:D.find n=some f) {o:Int} (ho:o=(f.now.length:Int)) {t:List UInt8} (ht:t≠[]) (hr:(t.length:Int)<=D.room) (wv:Value) :
 D.writeE n o t=0/\D.write n o t wv={ D with files:=setNow D.files n (f.now++t),wv:=wv,waits:=D.waits++[⟨f.blk,f.now.length,t⟩] }:=by
 have hb:D.bars [n]=0:=by rw [rz,h.up,hf]; rfl
 have A:D.fitB f o t=0:=by
  unfold DiskD.fitB;subst ho;rw [if_neg (by omega),if_neg (by omega)]
 subst ho;unfold DiskD.writeE DiskD.write;rw [if_pos hb,if_pos hb,hf];simp only;rw [if_pos A,if_pos A,if_neg (by rw [h.left]; simp [ht]),h.done,h.burn,Int.toNat_natCast,am6];exact ⟨rfl,rfl⟩
theorem xg (a b:List (List UInt8×FileD)):fe (a++b)=fe a+fe b:=by unfold fe; simp
def SegD.lastP (R:SegD):Nat:=R.b+(R.n - 1) * R.size
def SegD.add (R:SegD) (s:List UInt8):SegD:={ R with txt:=R.txt++s }
def ul (D:DiskD) (R:SegD):Prop:=∀ p,p<=99999999->(∀ i,i < R.n->p≠R.b+i * R.size)->D.find (af R.head p)=none
structure Whole (base:Nat) (w:World) (D:DiskD) (R:SegD):Prop where
 seg:SegAt base w R
 dsk:DiskAt base w D
 db:R.db=D.blk
 ap:∀ k,D.foot k->¬ R.foot k
 ok:aad D R
 only:ul D R
theorem Whole.mod {base:Nat} {w w':World} {D:DiskD} {R:SegD} {M:Nat->Prop} (h:Whole base w D R) (hm:Mod M w w') (h1:∀ k,D.foot k->¬ M k) (h2:∀ k,R.foot k->¬ M k):Whole base w' D R :=
 { h with seg:=h.seg.mod hm h2,dsk:=h.dsk.mod hm h1 }
theorem Whole.below {base:Nat} {w w':World} {D:DiskD} {R:SegD} (h:Whole base w D R) (hb:Below w.heap.size w w'):Whole base w' D R :=
 { h with seg:=h.seg.below hb,dsk:=h.dsk.below hb }
structure AppOk (D D':DiskD) (R R':SegD) (s:List UInt8):Prop where
 quiet:Quiet D'
 blk:D'.blk=D.blk
 ok:aad D' R'
 only:ul D' R'
 other:∀ m,(∀ p,p<=99999999->m≠af R.head p)->D'.find m=D.find m
 room:D'.room=D.room - (s.length:Int)
 waits:∃ f o,D'.find (af R.head R'.lastP)=some f/\D'.waits=D.waits++[⟨f.blk,o,s⟩]
 blks:∀ m f,D.find m=some f->∃ f',D'.find m=some f'/\f'.blk=f.blk/\f'.img=f.img
 files:D'.files.length<=D.files.length+1
 names:∀ p∈D'.files,p.1.length<=R.head.length+8\/∃ q∈D.files,q.1=p.1
 cap:D'.cap=D.cap
theorem aae (l:List (List UInt8×FileD)) (n t:List UInt8):(setNow l n t).length=l.length:=by unfold setNow; simp
theorem am7 {base:Nat} {w:World} {D:DiskD} {R:SegD} {s:List UInt8} (hR:SegAt base w R) (hD:DiskAt base w D) (hok:aad D R) (hon:ul D R) (I:Quiet D) (hn:0 < R.n) (hs:s≠[])
 (hle:R.txt.length+s.length<=R.n * R.size) (hrm:(s.length:Int)<=D.room) (wv:Value) :
 D.writeE (af R.head R.lastP) ((R.e:Int) - (R.lastP:Int)) s=0/\AppOk D (D.write (af R.head R.lastP) ((R.e:Int) - (R.lastP:Int)) s wv) R (R.add s) s /\
  (D.write (af R.head R.lastP) ((R.e:Int) - (R.lastP:Int)) s wv).files.length=D.files.length/\∀ p∈(D.write (af R.head R.lastP) ((R.e:Int) - (R.lastP:Int)) s wv).files,∃ q∈D.files,q.1=p.1:=by
 obtain ⟨l1,l2,l3⟩:=hR.long hn;have Y:=hR.sz;obtain ⟨hb,E⟩:=hok (R.n - 1) (by omega);have Z:=vv (s:=R.size) hn;obtain ⟨f,E⟩:=Option.isSome_iff_exists.1 E
 have F:f.now=R.txt.drop ((R.n - 1) * R.size):=by
  have:D.bytes (af R.head (R.b+(R.n - 1) * R.size))=f.now:=by unfold DiskD.bytes; rw [E]; rfl
  rw [<- this,hb];exact List.take_of_length_le (by rw [List.length_drop]; omega)
 have M:(R.e:Int) - (R.lastP:Int)=(f.now.length:Int):=by
  rw [F,List.length_drop];unfold SegD.e SegD.lastP;omega
 obtain ⟨h1,h2⟩:=I.write hD.names (n:=af R.head R.lastP) (f:=f) E M hs hrm wv;refine ⟨h1,?_⟩;rw [h2]
 have J:∀ p∈setNow D.files (af R.head R.lastP) (f.now++s),∃ q∈D.files,q.1=p.1:=λp hp=>by
  obtain ⟨q,I,_,e,_⟩:=ou hp;exact ⟨q,I,e.symm⟩
 have A:∀ m,DiskD.find { D with files:=setNow D.files (af R.head R.lastP) (f.now++s),wv:=wv,waits:=D.waits++[⟨f.blk,f.now.length,s⟩] } m=if m=af R.head R.lastP then (D.find m).map (λf=>{ f with now:=f.now++s }) else D.find m:=by
  intro m;unfold DiskD.find;simp only;rw [qh]
  by_cases e:m=af R.head R.lastP
  . rw [if_pos e,if_pos e]
    subst e;have:(D.files.find? λp=>p.1 == af R.head R.lastP).map (·.2)=some f:=E;rw [this]; rfl
  . rw [if_neg e,if_neg e]
 refine ⟨⟨⟨I.left,I.up⟩,rfl,λi hi=>?_,λp hp B=>?_,λm N=>?_,?_,?_,λm g N=>?_,by simp [aae],λp hp=>.inr (J p hp),rfl⟩,aae _ _ _,J⟩
 ·
  have O:i < R.n:=hi;obtain ⟨k1,k2⟩:=hok i O;show DiskD.bytes _ (af R.head (R.b+i * R.size))=((R.txt++s).drop (i * R.size)).take R.size/\_
  by_cases e:i=R.n - 1
  ·
   subst e;refine ⟨?_,?_⟩
   . unfold DiskD.bytes
     rw [A,if_pos (show af R.head (R.b+(R.n - 1) * R.size)=af R.head R.lastP from rfl),show D.find (af R.head (R.b+(R.n - 1) * R.size))=some f from E];show f.now++s=_;rw [List.drop_append_of_le_length l1,<- F,List.take_of_length_le];rw [List.length_append,F,List.length_drop]; omega
   . show (DiskD.find _ (af R.head (R.b+(R.n - 1) * R.size))).isSome=true
     rw [A,if_pos (show af R.head (R.b+(R.n - 1) * R.size)=af R.head R.lastP from rfl),show D.find (af R.head (R.b+(R.n - 1) * R.size))=some f from E]; rfl
  ·
   have U:i+1<=R.n - 1:=by omega
   have X:(i+1) * R.size<=(R.n - 1) * R.size:=Nat.mul_le_mul_right _ U;rw [Nat.add_mul,Nat.one_mul] at X
   have B:af R.head (R.b+i * R.size)≠af R.head R.lastP:=λh=>by
    have:=aa5 h;unfold SegD.lastP at this;omega
   refine ⟨?_,?_⟩
   . have:DiskD.bytes { D with files:=setNow D.files (af R.head R.lastP) (f.now++s),wv:=wv,waits:=D.waits++[⟨f.blk,f.now.length,s⟩] } (af R.head (R.b+i * R.size))=D.bytes (af R.head (R.b+i * R.size)):=by
      unfold DiskD.bytes; rw [A,if_neg B]
     rw [this,k1,List.drop_append_of_le_length (by omega),List.take_append_of_le_length (by rw [List.length_drop]; omega)]
   . show (DiskD.find _ (af R.head (R.b+i * R.size))).isSome=true
     rw [A,if_neg B]; exact k2
 ·
  rw [A,if_neg ?_]
  . exact hon p hp B
  . intro h
    exact B (R.n - 1) (by show R.n - 1 < R.n; omega) (aa5 h)
 . rw [A,if_neg]
   . intro h; exact N R.lastP (by unfold SegD.lastP; omega) h
 ·
  unfold DiskD.room DiskD.size;simp only;have:=zu D.files (af R.head R.lastP) (f.now++s) f hD.names (lm E);rw [List.length_append] at this;omega
 . refine ⟨{ f with now:=f.now++s },f.now.length,?_,rfl⟩
   show DiskD.find _ (af R.head R.lastP)=_;rw [A,if_pos rfl,show D.find (af R.head R.lastP)=some f from E]; rfl
 ·
  rw [A,N]
  by_cases e:m=af R.head R.lastP
  . rw [if_pos e]; exact ⟨_,rfl,rfl,rfl⟩
  . rw [if_neg e]; exact ⟨_,rfl,rfl,rfl⟩
theorem aqs {base:Nat} {w:World} {D:DiskD} {R:SegD} (hR:SegAt base w R) (hok:aad D R) (hon:ul D R) (hq:Quiet D) (hfull:R.n=0\/(0 < R.n/\R.txt.length=R.n * R.size)) (he:R.e<=99999999) (bk:Nat) (pv:Value) :
 D.createE (af R.head R.e)=0/\Quiet (D.create (af R.head R.e) bk)/\aad (D.create (af R.head R.e) bk) (R.more pv)/\ul (D.create (af R.head R.e) bk) (R.more pv) /\
  (∀ m,(∀ p,p<=99999999->m≠af R.head p)->(D.create (af R.head R.e) bk).find m=D.find m)/\(D.create (af R.head R.e) bk).room=D.room/\(D.create (af R.head R.e) bk).waits=D.waits /\
  (D.create (af R.head R.e) bk).files=D.files++[(af R.head R.e,⟨bk,[],[]⟩)]/\(D.create (af R.head R.e) bk).blk=D.blk/\(D.create (af R.head R.e) bk).cap=D.cap:=by
 have N:=hR.sz
 have E:R.e=R.b+R.n * R.size:=by
  unfold SegD.e
  rcases hfull with h0 | ⟨h0,h1⟩
  . obtain ⟨O,U⟩:=hR.empty h0
    rw [h0,O,U]; simp
  . rw [h1]
 have X:R.txt.length=R.n * R.size:=by unfold SegD.e at E; omega
 have F:∀ i,i < R.n->R.e≠R.b+i * R.size:=λi J h=>by
  have:(i+1) * R.size<=R.n * R.size:=Nat.mul_le_mul_right _ J;rw [Nat.add_mul,Nat.one_mul] at this;omega
 have M:D.find (af R.head R.e)=none:=hon R.e he F;have B:=yx hq M bk;have A:=hq.create M bk;refine ⟨hq.createE M,?_,λi J=>?_,λp hp I=>?_,λm Y=>?_,?_,?_,?_,?_,?_⟩
 . rw [A]; exact ⟨hq.left,hq.up⟩
 ·
  show DiskD.bytes _ (af R.head (R.b+i * R.size))=(R.txt.drop (i * R.size)).take R.size/\(DiskD.find _ (af R.head (R.b+i * R.size))).isSome=true;have Z:i < R.n+1:=J
  by_cases e:i=R.n
  ·
   subst e;have h1:(D.create (af R.head R.e) bk).find (af R.head (R.b+R.n * R.size))=some ⟨bk,[],[]⟩:=by rw [B,if_pos (by rw [E])]
   refine ⟨?_,by rw [h1]; rfl⟩;unfold DiskD.bytes;rw [h1,List.drop_of_length_le (by omega),List.take_nil];rfl
  ·
   obtain ⟨k1,k2⟩:=hok i (by omega)
   have h1:(D.create (af R.head R.e) bk).find (af R.head (R.b+i * R.size))=D.find (af R.head (R.b+i * R.size)):=by
    rw [B,if_neg];intro h;exact F i (by omega) (aa5 h).symm
   refine ⟨?_,by rw [h1]; exact k2⟩;rw [<- k1];unfold DiskD.bytes;rw [h1]
 ·
  show DiskD.find _ (af R.head p)=none;rw [B,if_neg ?_]
  . exact hon p hp λi J=>I i (by show i < R.n+1; omega)
  . intro h
    have:=aa5 h;exact I R.n (by show R.n < R.n+1; omega) (this.trans E)
 . rw [B,if_neg (Y R.e he)]
 ·
  unfold DiskD.room DiskD.size;rw [A];simp only;rw [xg];show D.cap - ((fe D.files+0:Nat):Int)=_;rw [Nat.add_zero]
 . rw [A]
 . rw [A]
 . rw [A]
 . rw [A]
theorem aph {base:Nat} {w:World} {R:SegD} (h:SegAt base w R):(0 < R.n/\R.txt.length < R.n * R.size)\/(R.n=0\/(0 < R.n/\R.txt.length=R.n * R.size)):=by
 rcases Nat.eq_zero_or_pos R.n with h0 | h0
 . exact .inr (.inl h0)
 ·
  have:=(h.long h0).2.1
  by_cases h1:R.txt.length < R.n * R.size
  . exact .inl ⟨h0,h1⟩
  . exact .inr (.inr ⟨h0,by omega⟩)
structure FrOk (D D1:DiskD) (R R1:SegD):Prop where
 quiet:Quiet D1
 blk:D1.blk=D.blk
 other:∀ m,(∀ p,p<=99999999->m≠af R.head p)->D1.find m=D.find m
 room:D1.room=D.room
 waits:D1.waits=D.waits
 files:D1.files=D.files\/∃ n bk,n.length<=R.head.length+8/\D1.files=D.files++[(n,⟨bk,[],[]⟩)]
 same:R1={ R with n:=R1.n,pv:=R1.pv }
 pos:0 < R1.n
 fit:R.txt.length+R.room<=R1.n * R1.size
 cap:D1.cap=D.cap
theorem FrOk.refl {D:DiskD} {R:SegD} (hq:Quiet D) (ho:0 < R.n/\R.txt.length < R.n * R.size):FrOk D D R R :=
 ⟨hq,rfl,λ_ _=>rfl,rfl,rfl,.inl rfl,rfl,ho.1,by unfold SegD.room; rw [if_pos ho]; omega,rfl⟩
theorem AppOk.join {D D1 D':DiskD} {R R1 R':SegD} {s:List UInt8} (h:AppOk D1 D' R1 R' s) (hlen:D'.files.length=D1.files.length) (hnm:∀ p∈D'.files,∃ q∈D1.files,q.1=p.1) (hf:FrOk D D1 R R1):AppOk D D' R R' s:=by
 have E:R1.head=R.head:=by rw [hf.same]
 refine ⟨h.quiet,h.blk.trans hf.blk,h.ok,h.only,λm B=>?_,by rw [h.room,hf.room],?_,λm f B=>?_,?_,λp hp=>?_,h.cap.trans hf.cap⟩
 . rw [h.other m (by rw [E]; exact B),hf.other m B]
 . obtain ⟨f,o,h1,F⟩:=h.waits
   exact ⟨f,o,by rw [<- E]; exact h1,by rw [F,hf.waits]⟩
 ·
  have:D1.find m=some f:=by
   rcases hf.files with e | ⟨n,bk,_,e⟩
   . unfold DiskD.find at *
     rw [e]; exact B
   . unfold DiskD.find at *
     rw [e,List.find?_append]
     cases hx:D.files.find? (λp=>p.1 == m) with
     | none=>rw [hx] at B; cases B
     | some x=>rw [hx] at B; exact B
  exact h.blks m f this
 . rw [hlen]
   rcases hf.files with e | ⟨n,bk,_,e⟩ <;> rw [e] <;> simp
 ·
  obtain ⟨q,A,e⟩:=hnm p hp
  rcases hf.files with e2 | ⟨n,bk,hn,e2⟩
  . rw [e2] at A; exact .inr ⟨q,A,e⟩
  ·
   rw [e2,List.mem_append] at A
   rcases A with A | A
   . exact .inr ⟨q,A,e⟩
   . rw [List.mem_singleton] at A
     subst A
     left
     rw [<- e]; exact hn
theorem am8 {base:Nat} {D:DiskD} {R:SegD} (w:World) (hT:TabB base w) (hW:Whole base w D R) (hq:Quiet D) (hbase:base<=w.heap.size) (he:(R.n=0\/(0 < R.n/\R.txt.length=R.n * R.size))->R.e<=99999999) :
 Calls Tryz.prog 183 #[.pointer (some ⟨R.blk,0,none⟩)] w λe w'=>e=.returned (.int .i64 0)/\∃ D1 R1,Whole base w' D1 R1/\FrOk D D1 R R1/\Mod (λk=>D.foot k\/R.foot k) w w' /\
  (∀ k,D1.foot k->D.foot k\/w.heap.size<=k)/\∀ k,R1.foot k->R.foot k\/w.heap.size<=k:=by
 rcases aph hW.seg with ho | hfull
 . refine (am5 w hW.seg ho).mono ?_
   rintro e w' ⟨rfl,hd⟩;exact ⟨rfl,D,R,hW.below (hd.below _),FrOk.refl hq ho,Mod.of_below (hd.below _),λk h=>.inl h,λk h=>.inl h⟩
 ·
  have A:¬ R.open_:=by rintro ⟨h1,I⟩; rcases hfull with h | h <;> omega
  have B:=he hfull;have J:=λ(E:Nat) (pv:Value)=>aqs hW.seg hW.ok hW.only hq hfull B E pv
  have M:R.freshE D=0:=by unfold SegD.freshE; rw [if_neg (by omega)]; exact (J 0 (.bool true)).1
  refine (aeu w hT.tab hW.seg hW.dsk hW.db hW.ap A hbase).mono ?_;rintro e w' ⟨rfl,-,h⟩;obtain ⟨E,pv,h1,I,O,U,X,Y⟩:=h M;obtain ⟨p1,p2,p3,p4,Z,p6,p7,p8,N,F⟩:=J E pv;rw [M];refine ⟨rfl,D.create (af R.head R.e) E,R.more pv,⟨O,I,hW.db.trans N.symm,Y,p3,p4⟩,⟨p2,N,Z,p6,p7,.inr ⟨_,E,?_,p8⟩,rfl,?_,?_,F⟩,U,λk hk=>?_,λk hk=>?_⟩
  . unfold af; rw [List.length_append,acr R.e B]; exact Nat.le_refl _
  . show 0 < R.n+1; omega
  ·
   show R.txt.length+R.room<=(R.n+1) * R.size;have:R.room=R.size:=by unfold SegD.room; exact if_neg A
   rw [this,Nat.add_mul,Nat.one_mul]
   rcases hfull with h0 | ⟨h0,h1'⟩
   . obtain ⟨-,e2⟩:=hW.seg.empty h0
     rw [h0,e2]; simp
   . omega
  . rcases uk hk with h | h
    . exact .inl h
    . right; omega
  . rcases hk with h | h
    . exact .inl (.inl h)
    . exact X k h
theorem aqt {base:Nat} {D:DiskD} {R:SegD} (s:List UInt8) (w:World) (hW:Whole base w D R) (hs:s=[]\/R.room < s.length) :
 Calls Tryz.prog 118 #[.pointer (some ⟨R.blk,0,none⟩),.string (S s)] w λe w'=>e=.returned (.tuple #[.int .i64 0,.int .i64 1])/\Below w.heap.size w w':=by
 have B:=ah;have E:=S_toList
 by_cases h0:s=[]
 ·
  subst h0;clear hs hW;go_enter Tryz.func118,Tryz.ntmps118;go_wp2_with fail;go_ret2;exact ⟨rfl,Below.refl _ _⟩
 ·
  have F:R.room < s.length:=by rcases hs with h | h; exact absurd h h0; exact h
  have A:=zq (room_any w hW.seg);have I:(R.room:Int) < (s.length:Int):=by omega
  clear hs hW F;generalize R.room=r at *
  go_enter Tryz.func118,Tryz.ntmps118;go_wp2_with fail;refine A.o.mono ?_;rintro e w' ⟨rfl,hd⟩;go_wp2_with fail;go_ret2;exact ⟨rfl,hd.below _⟩
theorem aqu {base:Nat} {D:DiskD} {R:SegD} (s:List UInt8) (w:World) (hT:TabB base w) (hW:Whole base w D R) (hbase:base<=w.heap.size) (hq:Quiet D) (h0:s≠[]) (hr:s.length<=R.room) (hf:(s.length:Int)<=D.room)
 (hfull:R.n=0\/(0 < R.n/\R.txt.length=R.n * R.size)) (h99:99999999 < R.e) :
 Calls Tryz.prog 118 #[.pointer (some ⟨R.blk,0,none⟩),.string (S s)] w λe w'=>e=.returned (.tuple #[.int .i64 0,.int .i64 2])/\Whole base w' D R/\Mod D.foot w w':=by
 have ad:=ah;have ak:=S_toList;have al:s.isEmpty=false:=by cases s with | nil=>exact absurd rfl h0 | cons _ _=>rfl
 have E:=zq (room_any w hW.seg);have F:=zq (λ(w2:World) (hb:Below w.heap.size w w2)=>DskW.room_any w2 (hW.dsk.below hb));have I:¬ R.open_:=by rintro ⟨h1,B⟩; rcases hfull with h | h <;> omega
 have hE:R.freshE D=2:=if_pos h99;have J:=zq (λ(w2:World) (hb:Below w.heap.size w w2)=>aeu w2 (hT.below hb).tab (hW.seg.below hb) (hW.dsk.below hb) hW.db hW.ap I (Nat.le_trans hbase hb.size));rw [hE] at J;have O:=zq (λ(w2:World) (hb:Below w.heap.size w w2)=>(hW.seg.below hb).cell 0 (.pointer (some ⟨D.blk,0,none⟩)) (by rw [<- hW.db]; rfl));have HW:=zq hW;have U:=zq h99;have an:¬ R.room < s.length:=by omega
 have ao:¬ D.room < (s.length:Int):=by omega
 clear hW hr h0 hq hT hfull I hE h99 hf;generalize R.room=r at *
 generalize D.room=dr at *
 go_enter Tryz.func118,Tryz.ntmps118;go_wp2_with fail;refine E.o.mono ?_;rintro e w1 ⟨rfl,hd⟩;have A:=zq (hd.below w.heap.size);have c0:=O.o w1 A.o;clear hd E;go_wp2_with fail;refine (F.o w1 A.o).mono ?_;rintro e w2 ⟨rfl,hb⟩;have N:=zq (A.o.trans (hb.mono A.o.size));clear hb F;go_wp2_with fail;refine (J.o w2 N.o).mono ?_;rintro e w3 ⟨rfl,h,-⟩;obtain ⟨h1,B,h3⟩:=h (by decide)
 have X:Zq (DiskAt base w3 D):=by
  rcases B with B | ⟨B,-⟩
  . exact B.2
  . exact absurd U.o B
 have Y:=zq h1;have Z:=zq ((Mod.of_below (M:=D.foot) N.o).trans h3);clear h1 B h3 h;go_wp2_with fail;go_ret2;exact ⟨rfl,{ HW.o with seg:=Y.o,dsk:=X.o },Z.o⟩
theorem jb {M M':Nat->Prop} {u v w:World} (h:Mod M u v) (h':Mod M' v w) (hk:∀ k,M' k->M k\/u.heap.size<=k):Mod M u w :=
 ⟨h'.os.trans h.os,h'.tape.trans h.tape,h'.output.trans h.output,Nat.le_trans h.size h'.size,λk A B=>(h'.block k (Nat.lt_of_lt_of_le A h.size) (λE=>by
  rcases hk k E with h1 | h1
  . exact B h1
  . omega)).trans (h.block k A B)⟩
theorem api {base:Nat} {w:World} {R:SegD} {s:List UInt8} (h:SegAt base w R) (hn:0 < R.n) (hl:R.txt.length+s.length<=R.n * R.size):SegAt base (w.setCell ⟨R.blk,4,none⟩ (.int .i64 ((R.e:Int)+(s.length:Int)))) (R.add s):=by
 obtain ⟨l1,l2,B⟩:=h.long hn;have A:((R.add s).e:Int)=(R.e:Int)+(s.length:Int):=by unfold SegD.add SegD.e; simp only; rw [List.length_append]; omega
 refine ⟨heap_set1 h.cells _ ?_,ownsRow_mod (M:=λk=>k=R.blk) h.row (jm _ _ _ _) (λk hk e=>h.apart k hk e),h.apart,h.above,h.sz,λh0=>absurd (show R.n=0 from h0) (by omega),λ_=>?_,h.mult,?_,h.hd⟩
 . rw [<- A]; rfl
 . show (R.n - 1) * R.size<=(R.txt++s).length/\(R.txt++s).length<=R.n * R.size/\R.b+(R.n - 1) * R.size<=99999999
   rw [List.length_append]; omega
 . have:=h.syn
   show R.synced<=(R.add s).e;omega
theorem append_ok {base:Nat} {D:DiskD} {R:SegD} (s:List UInt8) (w:World) (hT:TabB base w) (hW:Whole base w D R) (hbase:base<=w.heap.size) (hq:Quiet D) (h0:s≠[]) (hr:s.length<=R.room) (hf:(s.length:Int)<=D.room) (hwl:D.waits.length<=1048576)
 (he:(R.n=0\/(0 < R.n/\R.txt.length=R.n * R.size))->R.e<=99999999) :
 Calls Tryz.prog 118 #[.pointer (some ⟨R.blk,0,none⟩),.string (S s)] w λe w'=>e=.returned (.tuple #[.int .i64 (R.e:Int),.int .i64 0])/\Mod (λk=>D.foot k\/R.foot k) w w' /\
  ∃ D' R',Whole base w' D' R'/\AppOk D D' R R' s/\R'={ R with n:=R'.n,pv:=R'.pv,txt:=R.txt++s }/\(∀ k,D'.foot k->D.foot k\/w.heap.size<=k)/\∀ k,R'.foot k->R.foot k\/w.heap.size<=k:=by
 have ck:=ah;have cm:=S_toList;have cn:s.isEmpty=false:=by cases s with | nil=>exact absurd rfl h0 | cons _ _=>rfl
 have bc:=zq (room_any w hW.seg);have bd:=zq (λ(w2:World) (hb:Below w.heap.size w w2)=>DskW.room_any w2 (hW.dsk.below hb));have bh:=zq (λ(w2:World) (hb:Below w.heap.size w w2)=>am8 w2 (hT.below hb) (hW.below hb) hq (Nat.le_trans hbase hb.size) he);have F:=zq (λ(w2:World) (hb:Below w.heap.size w w2)=>(hW.seg.below hb).cell 0 (.pointer (some ⟨D.blk,0,none⟩)) (by rw [<- hW.db]; rfl));have HW:=zq hW;have HT:=zq hT;have b2:=zq hf;have b3:=zq hr
 have cp:Zq (∀ k,R.foot k\/D.foot k->k < w.heap.size):=λk hk=>by
  rcases hk with h | h
  . exact hW.seg.lt h
  . exact hW.dsk.lt h
 have cq:¬ R.room < s.length:=by omega
 have cr:¬ D.room < (s.length:Int):=by omega
 have cs:s.length<=4096:=by
  have h1:=hW.seg.sz.2
  have h2:R.room<=R.size:=by
   unfold SegD.room
   split
   . rename_i h
     have h3:=(hW.seg.long h.1).1;have h4:=vv (s:=R.size) h.1;omega
   . exact Nat.le_refl _
  omega
 clear hW hr hq hT he hf;generalize hrr:R.room=r at *
 generalize hdr:D.room=dr at *
 go_enter Tryz.func118,Tryz.ntmps118;go_wp2_with fail;refine bc.o.mono ?_;rintro e w1 ⟨rfl,hd⟩;have Z:=zq (hd.below w.heap.size);have c0:=F.o w1 Z.o;clear hd bc;go_wp2_with fail;refine (bd.o w1 Z.o).mono ?_;rintro e w2 ⟨rfl,hb⟩;have I:=zq (Z.o.trans (hb.mono Z.o.size));clear hb bd F c0;go_wp2_with fail;refine (bh.o w2 I.o).mono ?_;rintro e w3 ⟨rfl,D1,R1,A,B,hM,bj,bk⟩
 have ao:TabB base w3:=(HT.o.below I.o).mod hM (λk hk=>by
  rcases hk with h | h
  . exact HW.o.dsk.base_le h
  . rcases h with h | h
    . rw [h]; exact HW.o.seg.above
    . exact ay HW.o.seg.row k h)
 have ar:=zq ((Mod.of_below (M:=λk=>D.foot k\/R.foot k) I.o).trans hM);have bl:=zq (λk (hk:D1.foot k)=>(bj k hk).imp_right λh=>Nat.le_trans I.o.size h);have b5:=zq (λk (hk:R1.foot k)=>(bk k hk).imp_right λh=>Nat.le_trans I.o.size h);have J:=zq A;have HF:=zq B;have cw:=zq ao;have av:R1.e=R.e:=by rw [B.same]; rfl
 have a1:R1.blk=R.blk:=by rw [B.same]
 have bm:=zq av;have E:=zq a1;obtain ⟨l1,l2,l3⟩:=A.seg.long B.pos;obtain ⟨g,cap,hp,cy,hc⟩:=A.seg.place (R1.n - 1) (by have:=B.pos; omega);have c3:w3.cell? ⟨R1.blk,3,none⟩=some (.slice (some ⟨g,0,none⟩) R1.n cap):=A.seg.cell 3 _ (by show some R1.pv=_; rw [hp]);have c4:w3.cell? ⟨R1.blk,4,none⟩=some (.int .i64 (R1.e:Int)):=A.seg.cell 4 _ rfl;have F:=zq (λ(w2:World) (hb:Below w3.heap.size w3 w2)=>(A.seg.below hb).cell 0 (.pointer (some ⟨D1.blk,0,none⟩)) (by rw [<- A.db]; rfl));have ab:=zq (λ(w2:World) (hb:Below w3.heap.size w3 w2)=>adj w2 (A.seg.below hb) (ao.tab.below hb) R1.lastP (by unfold SegD.lastP; omega))
 have bo:R1.txt.length+s.length<=R1.n * R1.size:=by
  have e1:R1.txt=R.txt:=by rw [B.same]
  have h1:=B.fit;have h2:=b3.o;rw [e1]; omega
 have b7:=zq bo;have N:=am7 A.seg A.dsk A.ok A.only B.quiet B.pos h0 bo (by rw [B.room,hdr]; exact b2.o);have ak:D1.waits.length<=1048576:=by rw [B.waits]; exact hwl
 have O:=zq (λ(w2:World) (hb:Below w3.heap.size w3 w2)=>DskW.zw (af R1.head R1.lastP) ((R1.e:Int) - (R1.lastP:Int)) (by have:=A.seg.e_le; unfold SegD.lastP; omega) s (by omega) ak w2 (A.dsk.below hb) (Nat.le_trans hbase (Nat.le_trans ar.o.size hb.size)));rw [(N D1.wv).1] at O;have al:=zq N;have c7:((R1.n - 1:Nat):Int)=(R1.n:Int) - 1:=by have:=B.pos; omega
 have c8:(0:Int) < (R1.n:Int):=by have:=B.pos; omega
 have da:R1.n<=1073741824:=by
  have:=A.seg.sz;have h3:=Nat.le_mul_of_pos_right (R1.n - 1) (by omega:0 < R1.size);omega
 have b8:w3.cell? ⟨g,R1.n - 1,none⟩=some (.int .i64 (R1.lastP:Int)):=hc;have bp:IntKind.i64.wrap ((R1.e:Int) - (R1.lastP:Int))=(R1.e:Int) - (R1.lastP:Int):=IntWalk.i64_in _ (by have:=A.seg.e_le; unfold SegD.lastP; omega);have b9:=A.seg.e_le;obtain ⟨nm,am⟩:∃ nm,Zq (nm=af R1.head R1.lastP):=⟨_,rfl⟩;have br:af R1.head R1.lastP=nm:=am.o.symm;rw [br] at ab O;have dc:R1.lastP<=99999999:=by unfold SegD.lastP; omega
 rw [a1] at c3 c4 F ab;rw [av] at c4 O bp b9 al;clear A B hM bj bk av a1 N bh hc hp ao l1 l2 l3 hwl ak br hrr hdr;generalize hlpg:R1.lastP=lp at *
 go_wp2_with fail;go_quiet (fail);go_wp2_with fail;refine Grow.ja 11 [none,none,none,some (.inl (.pointer (some ⟨D1.blk,0,none⟩))),none,none,some (.inl (.string (S nm))),none,none,none,none] Ext (by kernel_rfl) (by kernel_rfl) (by kernel_rfl) Ext.refl (λ_ _ _=>Ext.trans) ?_ ?_
 . intro K hK Y hY v w w' hR h
   simp only [List.mem_cons,List.not_mem_nil,or_false] at hK
   rcases hK with rfl | rfl | rfl | rfl | rfl | rfl | rfl | rfl | rfl | rfl | rfl <;> simp only [reduceCtorEq,Option.some.injEq,Sum.inr.injEq] at hY
 simp only [List.take_succ_cons,List.take_zero,List.drop_succ_cons,List.drop_zero]
 iterate 3
  refine Grow.g_det rfl ?_;apply Exists.intro;refine ⟨λw hw B=>?_,?_⟩
  . clear B
    go_simp;exact ⟨rfl,Ext.refl _⟩
  go_frame
 refine Grow.g_con rfl (λa6 hw B=>?_) ?_
 ·
  clear B;have c0:=F.o a6 ((((Drawn.refl w3).drewN nq).below w3.heap.size).trans (((Below.refl _ _).drew.trans hw).mono (Nat.le_refl _)));go_simp
  all_goals exact Ext.refl _
 iterate 2
  go_frame;refine Grow.g_det rfl ?_;apply Exists.intro;refine ⟨λw hw B=>?_,?_⟩
  . clear B
    go_simp;exact ⟨rfl,Ext.refl _⟩
 go_frame;refine Grow.g_con rfl (λa6 hw B=>?_) ?_
 . clear B
   go_simp;exact (ab.o a6 ((((Drawn.refl w3).drewN nq).below w3.heap.size).trans (((Below.refl _ _).drew.trans hw).mono (Nat.le_refl _)))).mono λe w3 h=>⟨_,h.1,rfl,h.2⟩
 iterate 4
  go_frame;refine Grow.g_det rfl ?_;apply Exists.intro;refine ⟨λw hw B=>?_,?_⟩
  . clear B
    go_simp;exact ⟨rfl,Ext.refl _⟩
 go_frame;refine Grow.g_nil λw4 bs B=>?_
 clear B;have U:=zq ((((Drawn.refl w3).drewN nq).below w3.heap.size).trans (((Below.refl _ _).drew.trans bs).mono (Nat.le_refl _)));clear bs F ab c3 c4 b8;go_wp2_with fail;refine (O.o w4 U.o).mono ?_;rintro e w5 ⟨wv,rfl,a7,X,a8⟩;rw [am.o] at a7 a8;have ac:SegAt base w5 R1:=(J.o.seg.below U.o).mod X (λk hk ad=>J.o.ap k ad hk);have ca:=zq ((Mod.of_below (M:=D1.foot) U.o).trans X)
 have ci:w5.frozen? ⟨R.blk,4,none⟩=false:=by
  unfold World.frozen?;rw [<- E.o,show w5.heap[(⟨R1.blk,4,none⟩:Addr).block]?=_ from ac.cells]; rfl
 have de:w5.cell? ⟨R.blk,4,none⟩=some (.int .i64 (R.e:Int)):=by rw [<- E.o,<- bm.o]; exact ac.cell 4 _ rfl
 have cb:=zq a7;have cc:=zq ac;have bz:=zq a8;have cj:IntKind.i64.wrap ((R.e:Int)+(s.length:Int))=(R.e:Int)+(s.length:Int):=IntWalk.i64_in _ (by omega);clear a7 X a8 ac O;go_wp2_with fail;go_ret2;have hA:=al.o wv;have cd:=HF.o.pos;have ce:=cc.o;have an:=api ce cd b7.o;rw [E.o,bm.o] at an
 have b0:∀ k,(D1.write (af R1.head lp) ((R.e:Int) - (lp:Int)) s wv).foot k->¬ R1.foot k:=λk hk ad=>by
  rcases bz.o k hk with h | h
  . exact J.o.ap k h ad
  . have h1:=J.o.seg.lt ad
    have h2:=U.o.size;omega
 have X:Mod (λk=>D.foot k\/R.foot k) w w5:=jb ar.o ca.o (λk hk=>(bl.o k hk).imp_left .inl);have dj:=ar.o.size;have dk:=U.o.size;refine ⟨rfl,X.setCell (.inl (.inr (.inl rfl))) _,_,R1.add s,⟨an,cb.o.mod (jm _ _ _ _) (λk hk e=>b0 k hk (.inl (e.trans E.o.symm))),J.o.db.trans hA.2.1.blk.symm,b0,hA.2.1.ok,hA.2.1.only⟩,?_,?_,λk hk=>?_,λk hk=>b5.o k hk⟩
 . exact AppOk.join hA.2.1 hA.2.2.1 hA.2.2.2 HF.o
 ·
  unfold SegD.add;have:=HF.o.same;generalize hn:R1.n=n1 at *
  generalize hp:R1.pv=p1 at *
  rw [this]
 . rcases bz.o k hk with h | h
   . exact bl.o k h
   . right; omega
end SegW
end Go.Proofs.YtcgonejkkpbepaaGreatDoor
