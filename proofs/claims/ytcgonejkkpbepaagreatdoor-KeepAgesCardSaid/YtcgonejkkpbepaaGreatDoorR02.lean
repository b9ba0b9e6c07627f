/- seg: Name, Place. And what follows. -/
import Derived.Test.YtcgonejkkpbepaaGreatDoorR01
import Derived.Lib.ItoaMem
import Derived.Shelf.Strings.SlTrimAscii
import Derived.Lib.LaidTab
import Derived.Lib.AppendIntMem
import Derived.Laws.OwnMore
import Derived.Laws.AppendOwn
import Derived.MapKept
import Derived.Deep.DeepCutAuto
import Derived.Maps.RangeRun
import Derived.Lib.AppendZerosOnto
import Derived.Lib.LazyBuf
import Derived.Maps.AppendAt
import Derived.LaidEqlPtr
set_option linter.unusedVariables false
set_option linter.unusedSimpArgs false
set_option maxHeartbeats 25600000
set_option maxRecDepth 100000
namespace Go.Proofs.YtcgonejkkpbepaaGreatDoor
namespace SegW
open Go.RowKit OctMath
def Tab (w:World):Prop:=Lib.TabIs Tryz.prog w "internal/strconv.uint64pow10" .u64 Lib.pow10Tab
theorem Tab.below {W w:World} (h:Tab W) (hb:Below W.heap.size W w):Tab w:=Lib.tabBelow_of_tabIs h w hb
theorem ade (c:UInt8):∀ n,Lib.repeatL [c] n=List.replicate n c
 | 0=>rfl
 | n+1=>by show c :: Lib.repeatL [c] n=_; rw [ade c n]; rfl
theorem af2 (n:Nat) (w:World) (ht:Tab w) (hn:n<=9223372036854775807) :
 Calls Tryz.prog 194 #[.int .i64 (n:Int)] w λe w'=>e=.returned (.string (S (Lib.decDigits n)))/\Below w.heap.size w w':=by
 refine (Tryz.strconv_Itoa (n:Int) (by omega) (by omega) w ht).mono ?_;rintro e w' ⟨rfl,k,os,rfl⟩;rw [Lib.itoa_nonneg];exact ⟨rfl,⟨rfl,rfl,rfl,by simp [Go.Sort.grow,World.drewN],λj A=>Go.Sort.heap_grow_old _ os A⟩⟩
theorem ah5 (c:UInt8) (n:Nat) (w:World) (hn:n<=1073741824) :
 Calls Tryz.prog 142 #[.string (S [c]),.int .i64 (n:Int)] w λe w'=>e=.returned (.string (S (List.replicate n c)))/\Below w.heap.size w w':=by
 refine (Tryz.strings_Repeat (S [c]) n w (by omega) (by rw [ah]; simp; omega)).mono ?_;rintro e w' ⟨rfl,hb⟩;rw [jv,ade];exact ⟨rfl,hb⟩
def xz (hd:List UInt8) (n:Int):List UInt8:=if 0<=n/\n<=99999999 then af hd n.toNat else []
theorem af3 (hd:List UInt8) (n:Int) (w:World) (ht:Tab w) (hn : -9223372036854775808<=n/\n<=9223372036854775807) (hh:hd.length<=1073741824) :
 Calls Tryz.prog 140 #[.string (S hd),.int .i64 n] w λe w'=>e=.returned (.tuple #[.string (S (xz hd n)),.bool (decide (0<=n/\n<=99999999))])/\Below w.heap.size w w':=by
 have I:=ah
 by_cases h:0<=n/\n<=99999999
 ·
  obtain ⟨u,rfl⟩:∃ u:Nat,n=(u:Int):=⟨n.toNat,by omega⟩;have hu:u<=99999999:=by omega
  have A:Zq (xz hd (u:Int)=hd++adb u):=by unfold xz; rw [if_pos h]; rfl
  rw [decide_eq_true h];have J:=afd u hu;have c1:=zq (af2 u w ht (by omega));have N:=zq ht;have M:Zq (adb u=List.replicate (8 - (Lib.decDigits u).length) 48++Lib.decDigits u):=rfl;clear ht;generalize Lib.decDigits u=ds at *
  generalize xz hd (u:Int)=r at *
  go_enter Tryz.func140,Tryz.ntmps140;go_wp2_with fail;refine c1.o.mono ?_;rintro e w2 ⟨rfl,hb⟩;have F:=zq hb;have c2:=zq (ah5 48 (8 - ds.length) w2 (by omega));rw [show ((8 - ds.length:Nat):Int)=8 - (ds.length:Int) by omega] at c2;clear hb c1;go_wp2_with fail;refine c2.o.mono ?_;rintro e w3 ⟨rfl,hb⟩;have B:=zq hb;clear hb c2;go_wp2_with fail;go_ret2;rw [A.o,M.o,gm,gm,List.append_assoc];exact ⟨rfl,F.o.trans (B.o.mono F.o.size)⟩
 ·
  have A:Zq (xz hd n=[]):=by unfold xz; rw [if_neg h]; rfl
  rw [decide_eq_false h];have E:n < 0\/99999999 < n:=by omega
  clear ht;generalize xz hd n=r at *
  rcases E with h1 | h1
  iterate 2
   . go_enter Tryz.func140,Tryz.ntmps140
     go_wp2_with fail;go_ret2;rw [A.o];exact ⟨rfl,Below.refl _ _⟩
theorem amx (l:List UInt8) (w:World) (hl:l.length<=1073741824) :
 Calls Tryz.prog 270 #[.string (S l),.string (S ac9)] w λe w'=>e=.returned (.string (S (Lib.trimS l ac9)))/\Below w.heap.size w w':=by
 have h:=Any.strings_Trim_laid Tryz.lays160 (by kernel_rfl) (S l) (S ac9) w (by rw [ah]; omega) (by rw [ah]; decide) (ascii_of_all (by rw [jv]; decide));rw [jv,jv] at h;exact h
theorem aea (l p:List UInt8) (w:World) :
 Calls Tryz.prog 110 #[.string (S l),.string (S p)] w λe w'=>e=.returned (.tuple #[.string (S (Lib.trimPrefix l p)),.bool (Lib.hasPrefix l p)])/\w'=w:=by
 have h:=Tryz.strings_CutPrefix (S l) (S p) w;rw [jv,jv] at h;exact h
theorem amy (l:List UInt8) (h0:l≠[]) (h8:l.length<=8) (h:∀ c∈l,dig c=true) (w:World) :
 Calls Tryz.prog 271 #[.string (S l)] w λe w'=>e=.returned (.tuple #[.int .i64 (yt l:Int),.nilIface])/\Below w.heap.size w w':=by
 refine (Tryz.strconv_Atoi_ok (S l) (by rw [ah]; omega) (yt l) (by rw [jv]; exact amw l h0 h8 h) w).mono ?_;rintro e w' ⟨rfl,A⟩;refine ⟨rfl,?_⟩
 rcases A with rfl | ⟨t,rfl⟩
 . exact Below.refl _ _
 . exact Lib.bytesWorld_below _ _ _
def arz:Option Nat->Int
 | some n=>(n:Int)
 | none=>0
theorem akq (hd nm:List UInt8) (w:World) (hn:nm.length<=1073741824) :
 Calls Tryz.prog 240 #[.string (S hd),.string (S nm)] w λe w'=>e=.returned (.tuple #[.int .i64 (arz (placeL hd nm)),.bool (placeL hd nm).isSome])/\Below w.heap.size w w':=by
 have U:=ah;have c1:=zq (aea nm hd w);obtain ⟨r,E⟩:∃ r,Zq (r=placeL hd nm):=⟨_,rfl⟩;rw [<- E.o]
 by_cases h1:Lib.hasPrefix nm hd=true
 ·
  have R:Lib.trimPrefix nm hd=nm.drop hd.length:=by unfold Lib.trimPrefix; rw [if_pos h1]
  rw [h1,R] at c1
  have B:Zq (placeL hd nm=if (nm.drop hd.length).length=8/\∀ c∈nm.drop hd.length,dig c=true then some (yt (nm.drop hd.length)) else none):=by
   show _=_;unfold placeL;simp only [h1,true_and]
  have X:(nm.drop hd.length).length<=1073741824:=by rw [List.length_drop]; omega
  rw [<- E.o] at B;clear h1 R E hn;generalize nm.drop hd.length=d at *
  by_cases h8:d.length=8
  ·
   have c2:=zq (amx d w X)
   by_cases hdg:∀ c∈d,dig c=true
   ·
    rw [(aeq d).2 hdg] at c2;have A:r=some (yt d):=by rw [B.o,if_pos ⟨h8,hdg⟩]
    subst A;have F:d≠[]:=by intro e; rw [e] at h8; cases h8
    have I:Zq (∀ W:World,Calls Tryz.prog 271 #[.string (S d)] W λe w'=>e=.returned (.tuple #[.int .i64 (yt d:Int),.nilIface])/\Below W.heap.size W w'):=λW=>amy d F (by omega) hdg W
    clear hdg B F;have N:(S []).toList.isEmpty=true:=by rw [ByteArray.toList_eq,jv]; rfl
    show Calls _ _ _ _ λe w'=>e=.returned (.tuple #[.int .i64 (yt d:Int),.bool true])/\_
    generalize yt d=n at *
    go_enter Tryz.func240,Tryz.ntmps240;go_wp2_with fail;refine c1.o.mono ?_;rintro e w' ⟨rfl,rfl⟩;go_wp2_with fail;refine c2.o.mono ?_;rintro e w3 ⟨rfl,hb⟩;have M:=zq hb;clear hb c2 c1;go_wp2_with fail;refine (I.o w3).mono ?_;rintro e w4 ⟨rfl,hb⟩;have O:=zq hb;clear hb I;go_wp2_with fail;go_ret2;exact ⟨rfl,M.o.trans (O.o.mono M.o.size)⟩
   ·
    have A:r=none:=by rw [B.o,if_neg (λh=>hdg h.2)]
    subst A;have J:(Lib.trimS d ac9).length≠0:=by intro e; exact hdg ((aeq d).1 (List.length_eq_zero_iff.1 e))
    have N:(S (Lib.trimS d ac9)).toList.isEmpty=false:=by
     rw [ByteArray.toList_eq,jv]
     cases hh:Lib.trimS d ac9 with
     | nil=>rw [hh] at J; exact absurd rfl J
     | cons _ _=>rfl
    clear hdg B;show Calls _ _ _ _ λe w'=>e=.returned (.tuple #[.int .i64 0,.bool false])/\_
    generalize Lib.trimS d ac9=y at *
    go_enter Tryz.func240,Tryz.ntmps240;go_wp2_with fail;refine c1.o.mono ?_;rintro e w' ⟨rfl,rfl⟩;go_wp2_with fail;refine c2.o.mono ?_;rintro e w3 ⟨rfl,hb⟩;have M:=zq hb;clear hb c2 c1;go_wp2_with fail;go_ret2;exact ⟨rfl,M.o⟩
  ·
   have A:r=none:=by rw [B.o,if_neg (λh=>h8 h.1)]
   subst A;clear B;show Calls _ _ _ _ λe w'=>e=.returned (.tuple #[.int .i64 0,.bool false])/\_
   have Y:¬ (d.length:Int)=8:=by omega
   go_enter Tryz.func240,Tryz.ntmps240;go_wp2_with fail;refine c1.o.mono ?_;rintro e w' ⟨rfl,rfl⟩;go_wp2_with fail;go_ret2;exact ⟨rfl,Below.refl _ _⟩
 ·
  rw [Bool.not_eq_true] at h1;have A:r=none:=by rw [E.o]; unfold placeL; rw [if_neg (λh=>by rw [h1] at h; cases h.1)]
  subst A;rw [h1] at c1;clear h1 E;show Calls _ _ _ _ λe w'=>e=.returned (.tuple #[.int .i64 0,.bool false])/\_
  generalize Lib.trimPrefix nm hd=y at *
  go_enter Tryz.func240,Tryz.ntmps240;go_wp2_with fail;refine c1.o.mono ?_;rintro e w' ⟨rfl,rfl⟩;go_wp2_with fail;go_ret2;exact ⟨rfl,Below.refl _ _⟩
end SegW
section
open Go.RowKit
def Row1 (w:World) (a:Option Addr) (vs:List Value):Prop:=∀ i (h:i < vs.length),∃ b off,a=some ⟨b,off,none⟩/\w.cell? ⟨b,off+i,none⟩=some vs[i]
theorem Row1.below {W w:World} {a:Option Addr} {vs:List Value} (h:Row1 W a vs) (hb:Below W.heap.size W w):Row1 w a vs:=by
 intro i A;obtain ⟨b,off,rfl,hc⟩:=h i A;exact ⟨b,off,rfl,by rw [hb.cell (bq hc)]; exact hc⟩
theorem Row1.mod {M:Nat->Prop} {W w:World} {a:Option Addr} {vs:List Value} (h:Row1 W a vs) (hb:Mod M W w) (hM:∀ ad,a=some ad->¬ M ad.block):Row1 w a vs:=by
 intro i A;obtain ⟨b,off,rfl,hc⟩:=h i A;exact ⟨b,off,rfl,by rw [hb.cell (p:=⟨b,off+i,none⟩) (bq hc) (show ¬ M b from hM ⟨b,off,none⟩ rfl)]; exact hc⟩
theorem Row1.of_strs {w:World} {a:Option Addr} {ss:List ByteArray} (h:Strs w a ss):Row1 w a (ss.map .string):=by
 intro i A;obtain ⟨b,off,rfl,hc⟩:=h i (by simpa using A);exact ⟨b,off,rfl,by rw [hc,List.getElem_map]⟩
theorem Row1.to_strs {w:World} {a:Option Addr} {ss:List ByteArray} (h:Row1 w a (ss.map .string)):Strs w a ss:=by
 intro i A;obtain ⟨b,off,rfl,hc⟩:=h i (by simpa using A);exact ⟨b,off,rfl,by rw [hc,List.getElem_map]⟩
theorem Row1.of_own {w:World} {base n:Nat} {e:TypeId} {v:Value} {xs:List Value} (h:w.ownsRow base e 1 v n xs):∃ a cap,v=.slice a n cap/\Row1 w a xs/\xs.length=n:=by
 obtain ⟨B,h⟩:=h
 rcases h with ⟨rfl,h0⟩ | ⟨g,cap,cur,rfl,hb,hg,hc1,hc2,hcs,hcur⟩
 . exact ⟨none,0,by rw [h0],λi A=>by omega,by omega⟩
 ·
  refine ⟨some ⟨g,0,none⟩,cap,rfl,λi A=>⟨g,0,rfl,?_⟩,by omega⟩;unfold World.cell?;rw [hg]
  have:cur[0+i]?=(cur.toList.take (n * 1))[i]?:=by
   rw [List.getElem?_take,if_pos (by omega)]; simp
  simp only [this,hcur];simp [A]
section
variable {P:Program} {w:World}
end
theorem ay {w:World} {base n:Nat} {e:TypeId} {sz:Nat} {v:Value} {xs:List Value} (h:w.ownsRow base e sz v n xs):∀ g,v.ownBlock=some g->base<=g:=by
 intro g A
 rcases h.2 with ⟨rfl,_⟩ | ⟨g',cap,cur,rfl,hb,_⟩
 . cases A
 . cases A; exact hb
end
namespace DskW
open Go.RowKit Go.MapKept OctMath
structure FileD where
 blk:Nat
 img:List UInt8
 now:List UInt8
structure WriteD where
 blk:Nat
 pos:Nat
 txt:List UInt8
def WriteD.cells (x:WriteD):List Value:=[.pointer (some ⟨x.blk,0,none⟩),.int .i64 (x.pos:Int),.string (S x.txt)]
def dh (l:List WriteD):List Value:=l.flatMap WriteD.cells
theorem jq (l:List WriteD):(dh l).length=l.length * 3:=by
 induction l with
 | nil=>rfl
 | cons x l ih =>
   show (x.cells++dh l).length=_;rw [List.length_append,ih,List.length_cons]; show 3+_=_; omega
structure DiskD where
 blk:Nat
 left:Int
 down:Bool
 mB:Nat
 files:List (List UInt8×FileD)
 wv:Value
 waits:List WriteD
 cap:Int
def DiskD.foot (D:DiskD) (k:Nat):Prop:=k=D.blk\/k=D.mB\/(∃ p∈D.files,k=p.2.blk)\/D.wv.ownBlock=some k
def DiskD.head (D:DiskD):Array Value:=#[.int .i64 D.left,.bool D.down,.map (some D.mB),D.wv,.int .i64 D.cap]
def FileD.cells (f:FileD):Array Value:=#[.string (S f.img),.string (S f.now)]
def fe (l:List (List UInt8×FileD)):Nat:=(l.map λp=>p.2.now.length).sum
def DiskD.size (D:DiskD):Nat:=fe D.files
structure DiskAt (base:Nat) (w:World) (D:DiskD):Prop where
 head:w.heap[D.blk]?=some (.cells D.head 83 (0,0))
 map:∃ es c,w.heap[D.mB]?=some (.map es c)/\Stamped es c/\es.toList.map (λe=>(e.key,e.val))=D.files.map (λp=>(.string (S p.1),.pointer (some ⟨p.2.blk,0,none⟩)))
 file:∀ p∈D.files,w.heap[p.2.blk]?=some (.cells p.2.cells 293 (0,0))
 row:w.ownsRow base 296 3 D.wv D.waits.length (dh D.waits)
 names:(D.files.map (·.1)).Nodup
 blocks:(D.files.map (·.2.blk)).Nodup
 apart:D.blk≠D.mB/\(∀ p∈D.files,p.2.blk≠D.blk/\p.2.blk≠D.mB)/\∀ k,D.wv.ownBlock=some k->k≠D.blk/\k≠D.mB/\∀ p∈D.files,k≠p.2.blk
 above:base<=D.blk/\base<=D.mB/\∀ p∈D.files,base<=p.2.blk
 ints : -1<=D.left/\D.left<=9223372036854775807/\0<=D.cap/\D.cap<=16777216
 fits:(D.size:Int)<=D.cap
 waitf:∀ x∈D.waits,∃ p∈D.files,p.2.blk=x.blk
theorem DiskAt.lt {base:Nat} {w:World} {D:DiskD} (h:DiskAt base w D) {k:Nat} (hk:D.foot k):k < w.heap.size:=by
 rcases hk with rfl | rfl | ⟨p,hp,rfl⟩ | hk
 . exact (Array.getElem?_eq_some_iff.1 h.head).1
 . obtain ⟨es,c,h1,_⟩:=h.map; exact (Array.getElem?_eq_some_iff.1 h1).1
 . exact (Array.getElem?_eq_some_iff.1 (h.file p hp)).1
 . rcases h.row.2 with ⟨e,_⟩ | ⟨g,cap,cur,e,_,hg,_⟩
   . rw [e] at hk; cases hk
   . rw [e] at hk; cases hk; exact (Array.getElem?_eq_some_iff.1 hg).1
theorem DiskAt.base_le {base:Nat} {w:World} {D:DiskD} (h:DiskAt base w D) {k:Nat} (hk:D.foot k):base<=k:=by
 rcases hk with rfl | rfl | ⟨p,hp,rfl⟩ | hk
 . exact h.above.1
 . exact h.above.2.1
 . exact h.above.2.2 p hp
 . exact ay h.row k hk
theorem DiskAt.mod {base:Nat} {w w':World} {D:DiskD} {M:Nat->Prop} (h:DiskAt base w D) (hm:Mod M w w') (hM:∀ k,D.foot k->¬ M k):DiskAt base w' D:=by
 have key:∀ k,D.foot k->w'.heap[k]?=w.heap[k]?:=λk hk=>hm.block k (h.lt hk) (hM k hk)
 obtain ⟨es,c,m1,m2,m3⟩:=h.map;refine ⟨(key _ (.inl rfl)).trans h.head,⟨es,c,(key _ (.inr (.inl rfl))).trans m1,m2,m3⟩,λp hp=>(key _ (.inr (.inr (.inl ⟨p,hp,rfl⟩)))).trans (h.file p hp),?_,h.names,h.blocks,h.apart,h.above,h.ints,h.fits,h.waitf⟩;refine ⟨h.row.1,?_⟩
 rcases h.row.2 with h0 | ⟨g,cap,cur,e,hb,hg,r⟩
 . exact .inl h0
 . exact .inr ⟨g,cap,cur,e,hb,(key g (.inr (.inr (.inr (by rw [e]; rfl))))).trans hg,r⟩
theorem DiskAt.below {base:Nat} {w w':World} {D:DiskD} (h:DiskAt base w D) (hb:Below w.heap.size w w'):DiskAt base w' D :=
 h.mod (M:=λ_=>False) (Mod.of_below hb) (λ_ _ h=>h)
/-! what the calls make of it -/
def DiskD.find (D:DiskD) (n:List UInt8):Option FileD:=(D.files.find? λp=>p.1 == n).map (·.2)
def DiskD.burn (D:DiskD):DiskD:=if D.left=0 then { D with left := -1,down:=true } else if 0 < D.left then { D with left:=D.left - 1 } else D
def DiskD.bars (D:DiskD) (ns:List (List UInt8)):Int:=if D.down then 8 else if ns.all λn=>(D.find n).isSome then 0 else 9
theorem S_inj {a b:List UInt8} (h:S a=S b):a=b:=by
 have:=congrArg (λx:ByteArray=>x.data.toList) h
 simpa [S] using this
def ry (f:Option FileD):Value:=.pointer (f.map λf=>⟨f.blk,0,none⟩)
theorem amz {P:Program} {t:TypeId} {i:TypeInfo} {z:Value} {w:World} (hi:P.info? t=some i) (hz:i.zero=some z):(zeroValue t).run P w=.ok z w:=by
 simp [zeroValue,typeInfo,hi,hz]
theorem jw {base:Nat} {w:World} {D:DiskD} (h:DiskAt base w D) (n:List UInt8) :
 (Instr.lookup 80 (.map (some D.mB)) (.string (S n)) false).run Tryz.prog w=.ok (ry (D.find n)) w:=by
 obtain ⟨es,c,hb,an,E⟩:=h.map;have hm:=Tryz.underlying80;have hd:=Tryz.underlying9
 have R:∀ x∈es.toList,IsKey .string x.key:=λx hx=>by
  have:(x.key,x.val)∈D.files.map (λp=>(Value.string (S p.1),Value.pointer (some ⟨p.2.blk,0,none⟩))):=by rw [<- E]; exact List.mem_map.2 ⟨x,hx,rfl⟩
  obtain ⟨p,_,hp⟩:=List.mem_map.1 this;have:x.key=.string (S p.1):=(Prod.mk.inj hp).1.symm;rw [this]; trivial
 have hk:IsKey .string (.string (S n)):=trivial
 obtain ⟨i0,U,X⟩:∃ i,Tryz.prog.info? 261=some i/\i.zero=some (.pointer none):=by
  have:=(show (Tryz.prog.info? 261).map (λi=>i.zero)=some (some (.pointer none)) by kernel_rfl)
  cases hh:Tryz.prog.info? 261 with
  | none=>rw [hh] at this; cases this
  | some i=>rw [hh] at this; exact ⟨i,rfl,Option.some.inj this⟩
 have Y:=amz (w:=w) U X
 have F:∀ (l:List (List UInt8×FileD)) (el:List MapEntry),el.map (λe:MapEntry=>(e.key,e.val))=l.map (λp=>(Value.string (S p.1),Value.pointer (some ⟨p.2.blk,0,none⟩))) ->
  ((∀ x∈el,x.key≠.string (S n))->l.find? (λp=>p.1 == n)=none) /\
  ∀ (j:Nat) (e:MapEntry),el[j]?=some e->e.key=.string (S n)->(l.map (·.1)).Nodup->∃ p,l.find? (λp=>p.1 == n)=some p/\e.val=.pointer (some ⟨p.2.blk,0,none⟩):=by
  intro l
  induction l with
  | nil=>intro el A; cases el with
    | nil=>exact ⟨λ_=>rfl,λj e I=>by cases I⟩
    | cons x el=>cases A
  | cons p l ih =>
    intro el A
    cases el with
    | nil=>cases A
    | cons x el =>
      simp only [List.map_cons,List.cons.injEq,Prod.mk.injEq] at A;obtain ⟨⟨N,Z⟩,A⟩:=A;obtain ⟨ab,ac⟩:=ih el A
      constructor
      . intro hn
        have h1:(p.1 == n)=false:=by
         rw [beq_eq_false_iff_ne]; intro e; exact hn x (.head _) (by rw [N,e])
        rw [List.find?_cons,h1];exact ab λy hy=>hn y (.tail _ hy)
      ·
       intro j e I B J;simp only [List.map_cons,List.nodup_cons] at J
       cases j with
       | zero =>
         simp only [List.getElem?_cons_zero,Option.some.injEq] at I;subst I;have:p.1=n:=S_inj (by rw [N] at B; cases B; rfl);refine ⟨p,by rw [List.find?_cons,show (p.1 == n)=true from by simp [this]],Z⟩
       | succ j =>
         simp only [List.getElem?_cons_succ] at I
         have O:n∈l.map (·.1):=by
          have:(e.key,e.val)∈l.map (λp=>(Value.string (S p.1),Value.pointer (some ⟨p.2.blk,0,none⟩))):=by rw [<- A]; exact List.mem_map.2 ⟨e,List.mem_of_getElem? I,rfl⟩
          obtain ⟨q,hq,ad⟩:=List.mem_map.1 this;have M:=(Prod.mk.inj ad).1;rw [B] at M;have:q.1=n:=S_inj (by cases M; rfl);exact List.mem_map.2 ⟨q,hq,this⟩
         have h1:(p.1 == n)=false:=by
          rw [beq_eq_false_iff_ne]; intro e'; exact J.1 (e' ▸ O)
         rw [List.find?_cons,h1];exact ac j e I B J.2
 have hF:=F D.files es.toList E
 rcases findNow_spec hk es.toList 0 R with ⟨h1,M⟩ | ⟨j,e,h1,M,h3⟩
 . have:=hF.1 M
   simp [Instr.lookup,run_underlying hm,Go.MapKept.run_getObj_map hb,Go.MapKept.run_checkKey hd hk,Go.MapKept.run_findKey hd h1,Result.andThen,Y,DiskD.find,this,ry]
 . obtain ⟨p,hp,hv⟩:=hF.2 j e M h3 h.names
   simp [Instr.lookup,run_underlying hm,Go.MapKept.run_getObj_map hb,Go.MapKept.run_checkKey hd hk,Go.MapKept.run_findKey hd h1,Result.andThen,DiskD.find,hp,hv,ry]
theorem DiskAt.cell {base:Nat} {w:World} {D:DiskD} (h:DiskAt base w D) (i:Nat) (v:Value) (hv:D.head[i]?=some v):w.cell? ⟨D.blk,i,none⟩=some v:=by
 unfold World.cell?; rw [show w.heap[(⟨D.blk,i,none⟩:Addr).block]?=_ from h.head]; exact hv
theorem DiskAt.frozen {base:Nat} {w:World} {D:DiskD} (h:DiskAt base w D) (i:Nat):w.frozen? ⟨D.blk,i,none⟩=false:=by
 unfold World.frozen?; rw [show w.heap[(⟨D.blk,i,none⟩:Addr).block]?=_ from h.head]; rfl
theorem am0 (base:Nat) (w:World) (hb:base<=w.heap.size) (cap:Int) (hc:0<=cap/\cap<=16777216) :
 DiskAt base ((w.alloc (.map #[] 0)).alloc (.cells #[.int .i64 (-1),.bool false,.map (some w.heap.size),.slice none 0 0,.int .i64 cap] 83)) ⟨w.heap.size+1,-1,false,w.heap.size,[],.slice none 0 0,[],cap⟩:=by
 have A:(w.alloc (.map #[] 0)).heap.size=w.heap.size+1:=World.size_alloc _ _;refine ⟨?_,⟨#[],0,?_,stamped_empty 0,rfl⟩,λp hp=>(by cases hp),⟨rfl,.inl ⟨rfl,rfl⟩⟩,List.nodup_nil,List.nodup_nil,⟨by show w.heap.size+1≠w.heap.size; omega,λp hp=>(by cases hp),λk hk=>(by cases hk)⟩,⟨by show base<=w.heap.size+1; omega,hb,λp hp=>(by cases hp)⟩,⟨by show (-1:Int) <= -1; omega,by show (-1:Int)<=_; omega,hc.1,hc.2⟩,hc.1,λx B=>(by cases B)⟩
 . show _[w.heap.size+1]?=_
   rw [<- A]; exact heap_alloc_new _ _
 . show _[w.heap.size]?=_
   rw [Below.heap_alloc _ _ _ (by rw [A]; omega)]; exact heap_alloc_new _ _
theorem new_any (c:Int) (base:Nat) (w:World) (hb:base<=w.heap.size) :
 Calls Tryz.prog 11 #[.int .i64 c] w λe w'=>∃ D,e=.returned (.pointer (some ⟨D.blk,0,none⟩))/\DiskAt base w' D/\Below w.heap.size w w'/\w.heap.size<=D.blk/\w.heap.size<=D.mB /\
  D.left = -1/\D.down=false/\D.files=[]/\D.waits=[]/\D.wv=.slice none 0 0/\D.cap=min (max c 0) 16777216:=by
 have E:∀ w:World,(Instr.makeMap 80 none).run Tryz.prog w=.ok (.map (some w.heap.size)) (w.alloc (.map #[] 0)):=λ_=>rfl
 have A:∀ o,Below w.heap.size w ((w.alloc (.map #[] 0)).alloc o):=λo=>((Below.refl _ _).alloc (Nat.le_refl _) _).alloc (by simp) _
 have B:=am0 base w hb;have F:=zq A;have I:=zq B;clear A B hb;go_enter Tryz.func11,Tryz.ntmps11;go_wp2_with fail
 all_goals
  go_ret;refine ⟨_,rfl,I.o _ (by omega),F.o _,by simp,Nat.le_refl _,rfl,rfl,rfl,rfl,rfl,?_⟩
  first | (dsimp only; done) | (dsimp only; omega)
theorem aa6 {base:Nat} {D:DiskD} (w:World) (h:DiskAt base w D) :
 Calls Tryz.prog 61 #[.pointer (some ⟨D.blk,0,none⟩)] w λe w'=>e=.returned (.bool D.down)/\w'=w:=by
 have c1:w.cell? ⟨D.blk,1,none⟩=some (.bool D.down):=h.cell 1 _ rfl;clear h;go_enter Tryz.func61,Tryz.ntmps61;go_wp2_with fail;go_ret;exact ⟨rfl,rfl⟩
theorem yw {base:Nat} {D:DiskD} (a:Option Addr) (cap:Nat) (ns:List (List UInt8)) (hns:ns.length<=1048576) (w:World) (h:DiskAt base w D) (hr:Row1 w a (ns.map λx=>.string (S x))) :
 Calls Tryz.prog 167 #[.pointer (some ⟨D.blk,0,none⟩),.slice a ns.length cap] w λe w'=>e=.returned (.int .i64 (D.bars ns))/\w'=w:=by
 have c1:w.cell? ⟨D.blk,1,none⟩=some (.bool D.down):=h.cell 1 _ rfl;have c2:w.cell? ⟨D.blk,2,none⟩=some (.map (some D.mB)):=h.cell 2 _ rfl;have X:=zq (λn=>jw h n);have Y:=zq hr;have I:Zq (D.bars ns=if D.down then 8 else if ns.all λn=>(D.find n).isSome then 0 else 9):=rfl;clear h hr;generalize D.down=dn at *
 cases dn
 ·
  go_enter Tryz.func167,Tryz.ntmps167;go_wp2_with fail;go_loopw [18] (λi wr=>∃ k:Nat,k<=ns.length/\i=.int .i64 (k:Int)/\Zq ((ns.take k).all λn=>(D.find n).isSome)/\wr=w) (λi _=>ns.length+1 - (intOf i).toNat)
  case atStart=>exact ⟨0,by omega,rfl,rfl,rfl⟩
  case round =>
   obtain ⟨k,hk,rfl,N,rfl⟩:=hrel
   by_cases hlt:k < ns.length
   ·
    obtain ⟨b,off,O,B⟩:=Y.o k (by rw [List.length_map]; exact hlt);rw [List.getElem_map] at B;have A:=X.o ns[k]
    have J:(ns.take (k+1)).all (λn=>(D.find n).isSome)=((ns.take k).all (λn=>(D.find n).isSome) && (D.find ns[k]).isSome):=by
     rw [List.take_succ_eq_append_getElem hlt,List.all_append]; simp
    have M:(D.find ns[k]).isSome=false->(ns.all λn=>(D.find n).isSome)=false:=λh=>by
     rw [List.all_eq_false]; exact ⟨ns[k],List.getElem_mem hlt,by rw [h]; simp⟩
    have E:=zq J;have F:=zq M;clear J M;generalize ns[k]=x at *
    generalize D.find x=f at *
    rw [O] at *
    cases f with
    | none =>
      have R:Zq (D.bars ns=9):=by show _=_; rw [I.o,F.o rfl]; rfl
      clear E F I;unfold ry at A;simp only [Option.map_none] at A;go_wp2_with fail;go_ret;rw [R.o];exact ⟨rfl,rfl⟩
    | some f =>
      have U:Zq ((ns.take (k+1)).all (λn=>(D.find n).isSome)=true):=by show _=_; rw [E.o,N.o]; rfl
      clear E F N;unfold ry at A;simp only [Option.map_some] at A;go_wp2_with fail;go_roundw
      case rel=>exact ⟨k+1,by omega,by go_num,U,trivial⟩
      case measure=>simp [intOf]; omega
   ·
    obtain rfl:k=ns.length:=by omega
    rw [List.take_length] at N;have R:Zq (D.bars ns=0):=by show _=_; rw [I.o,N.o]; rfl
    clear I;go_wp2_with fail;go_ret;rw [R.o];exact ⟨rfl,rfl⟩
 ·
  go_enter Tryz.func167,Tryz.ntmps167;go_wp2_with fail;go_ret;rw [I.o];exact ⟨rfl,rfl⟩
theorem DiskAt.rehead {base:Nat} {w w':World} {D:DiskD} (h:DiskAt base w D) (l:Int) (d:Bool) (hl : -1<=l/\l<=9223372036854775807) (hm:Mod (λk=>k=D.blk) w w')
 (hh:w'.heap[D.blk]?=some (.cells ({ D with left:=l,down:=d }:DiskD).head 83 (0,0))):DiskAt base w' { D with left:=l,down:=d }:=by
 have key:∀ k,D.foot k->k≠D.blk->w'.heap[k]?=w.heap[k]?:=λk hk B=>hm.block k (h.lt hk) B
 obtain ⟨es,c,m1,m2,m3⟩:=h.map;refine ⟨hh,⟨es,c,(key _ (.inr (.inl rfl)) (λe=>h.apart.1 e.symm)).trans m1,m2,m3⟩,λp hp=>(key _ (.inr (.inr (.inl ⟨p,hp,rfl⟩))) (h.apart.2.1 p hp).1).trans (h.file p hp),?_,h.names,h.blocks,h.apart,h.above,⟨hl.1,hl.2,h.ints.2.2⟩,h.fits,h.waitf⟩;refine ⟨h.row.1,?_⟩
 rcases h.row.2 with h0 | ⟨g,cap,cur,e,hb,hg,r⟩
 . exact .inl h0
 . have A:D.wv.ownBlock=some g:=by rw [e]; rfl
   exact .inr ⟨g,cap,cur,e,hb,(key g (.inr (.inr (.inr A))) (h.apart.2.2 g A).1).trans hg,r⟩
theorem heap_set1 {w:World} {B i:Nat} {cs:Array Value} {ty:TypeId} (h:w.heap[B]?=some (.cells cs ty (0,0))) (v:Value) {cs':Array Value} (he:cs.setIfInBounds i v=cs') :
 (w.setCell ⟨B,i,none⟩ v).heap[B]?=some (.cells cs' ty (0,0)):=by rw [<- he]; exact heap_setCell_same w B i cs ty v h
theorem jm (w:World) (B i:Nat) (v:Value):Mod (λk=>k=B) w (w.setCell ⟨B,i,none⟩ v):=(Mod.refl (λk=>k=B) w).setCell (a:=⟨B,i,none⟩) (.inl rfl) v
theorem am1 {base:Nat} {D:DiskD} (w:World) (h:DiskAt base w D) :
 Calls Tryz.prog 219 #[.pointer (some ⟨D.blk,0,none⟩)] w λe w'=>e=.returned (.bool (!decide (D.left=0)))/\DiskAt base w' D.burn/\Mod (λk=>k=D.blk) w w':=by
 have c0:w.cell? ⟨D.blk,0,none⟩=some (.int .i64 D.left):=h.cell 0 _ rfl;have c1:w.cell? ⟨D.blk,1,none⟩=some (.bool D.down):=h.cell 1 _ rfl;have I:=h.frozen;have J:=h.ints.1;have M:=h.ints.2.1;have A:=zq h;have E:Zq (D.burn=if D.left=0 then { D with left := -1,down:=true } else if 0 < D.left then { D with left:=D.left - 1 } else D):=rfl;clear h
 by_cases h0:D.left=0
 ·
  have B:Zq (Mod (λk=>k=D.blk) w ((w.setCell ⟨D.blk,0,none⟩ (.int .i64 (-1))).setCell ⟨D.blk,1,none⟩ (.bool true))):=(jm _ _ _ _).trans (jm _ _ _ _)
  have F:Zq (((w.setCell ⟨D.blk,0,none⟩ (.int .i64 (-1))).setCell ⟨D.blk,1,none⟩ (.bool true)).heap[D.blk]?=some (.cells ({ D with left := -1,down:=true }:DiskD).head 83 (0,0))) :=
   heap_set1 (heap_set1 A.o.head _ rfl) _ rfl
  rw [h0] at c0;go_enter Tryz.func219,Tryz.ntmps219;go_wp2_with fail;go_ret;refine ⟨by rw [h0]; rfl,?_,B.o⟩;rw [E.o,if_pos h0];exact A.o.rehead _ _ (by omega) B.o F.o
 ·
  have O:(D.left == 0)=false:=by simp [h0]
  have hd:decide (D.left=0)=false:=decide_eq_false h0
  by_cases h1:0 < D.left
  ·
   have B:Zq (Mod (λk=>k=D.blk) w (w.setCell ⟨D.blk,0,none⟩ (.int .i64 (D.left - 1)))):=jm _ _ _ _;have F:Zq ((w.setCell ⟨D.blk,0,none⟩ (.int .i64 (D.left - 1))).heap[D.blk]?=some (.cells ({ D with left:=D.left - 1 }:DiskD).head 83 (0,0))):=heap_set1 A.o.head _ rfl;have N:decide (0 < D.left)=true:=decide_eq_true h1;go_enter Tryz.func219,Tryz.ntmps219;go_wp2_with fail;go_ret;refine ⟨by rw [hd]; rfl,?_,B.o⟩;rw [E.o,if_neg h0,if_pos h1];exact A.o.rehead _ D.down (by omega) B.o F.o
  ·
   have N:decide (0 < D.left)=false:=decide_eq_false h1;go_enter Tryz.func219,Tryz.ntmps219;go_wp2_with fail;go_ret;refine ⟨by rfl,?_,Mod.refl _ _⟩;rw [E.o,if_neg h0,if_neg (by omega)];exact A.o
def DiskD.done (D:DiskD):Int:=if D.left=0 then 8 else 0
theorem aa7 {base:Nat} {D:DiskD} (w:World) (h:DiskAt base w D) :
 Calls Tryz.prog 168 #[.pointer (some ⟨D.blk,0,none⟩)] w λe w'=>e=.returned (.int .i64 D.done)/\DiskAt base w' D.burn/\Mod (λk=>k=D.blk) w w':=by
 have B:=zq (am1 w h);have A:Zq (D.done=if D.left=0 then 8 else 0):=rfl;clear h;go_enter Tryz.func168,Tryz.ntmps168;go_wp2_with fail;refine B.o.mono ?_;rintro e w2 ⟨rfl,hd,E⟩;have F:=zq hd;have I:=zq E;clear hd E B
 by_cases h0:D.left=0
 ·
  have hd:decide (D.left=0)=true:=decide_eq_true h0;rw [if_pos h0] at A;rw [hd];go_wp2_with fail;go_ret;rw [A.o];exact ⟨rfl,F.o,I.o⟩
 ·
  have hd:decide (D.left=0)=false:=decide_eq_false h0;rw [if_neg h0] at A;rw [hd];go_wp2_with fail;go_ret;rw [A.o];exact ⟨rfl,F.o,I.o⟩
open Go.ChangeMaps
/-! a loop over a map's entries: each comes once -/
theorem af4 (es:Array MapEntry) (seen:Array Nat) (b:Nat):(leftOf es (seen.push b)).toList=(leftOf es seen).toList.filter (λx=>!(x.born == b)):=by
 unfold leftOf;simp only [Array.toList_filter,List.filter_filter];apply List.filter_congr;intro x _;simp only [Array.contains_push]
 cases h1:seen.contains x.born <;> cases h2:(x.born == b) <;> simp_all
theorem ah6 (es:Array MapEntry):(leftOf es #[]).toList=es.toList:=by
 unfold leftOf;simp
theorem aff {es:Array MapEntry} (h:(es.toList.map (·.born)).Nodup) (seen:Array Nat):((leftOf es seen).toList.map (·.born)).Nodup:=by
 unfold leftOf;rw [Array.toList_filter];exact (List.filter_sublist.map _).nodup h
theorem ah7 (f:MapEntry->Nat):∀ (l:List MapEntry) (e:MapEntry),e∈l->(l.map (·.born)).Nodup->(l.map f).sum=f e+((l.filter λx=>!(x.born == e.born)).map f).sum/\(l.filter λx=>!(x.born == e.born)).length+1=l.length:=by
 intro l
 induction l with
 | nil=>intro e A; cases A
 | cons x l ih =>
   intro e A B;simp only [List.map_cons,List.nodup_cons] at B
   rcases List.mem_cons.1 A with rfl | A
   ·
    have E:l.filter (λx=>!(x.born == e.born))=l:=by
     rw [List.filter_eq_self];intro y I;simp only [Bool.not_eq_true',beq_eq_false_iff_ne];intro h; exact B.1 (h ▸ List.mem_map.2 ⟨y,I,rfl⟩)
    rw [List.filter_cons_of_neg (by simp),E];exact ⟨by simp,rfl⟩
   ·
    have F:(x.born == e.born)=false:=by
     rw [beq_eq_false_iff_ne]; intro h; exact B.1 (h ▸ List.mem_map.2 ⟨e,A,rfl⟩)
    obtain ⟨h1,J⟩:=ih e A B.2;rw [List.filter_cons_of_pos (by rw [F]; rfl)];simp only [List.map_cons,List.sum_cons,List.length_cons,h1];exact ⟨by omega,by omega⟩
def wtL (fs:List (List UInt8×FileD)) (v:Value):Nat:=match v with
 | .pointer (some a)=>((fs.find? λp=>p.2.blk == a.block).map (·.2.now.length)).getD 0
 | _=>0
theorem qf:∀ (A:List (List UInt8×FileD)),(A.map (·.2.blk)).Nodup->∀ p∈A,A.find? (λq=>q.2.blk == p.2.blk)=some p:=by
 intro A
 induction A with
 | nil=>intro _ p hp; cases hp
 | cons x l ih =>
   intro B p hp;simp only [List.map_cons,List.nodup_cons] at B
   rcases List.mem_cons.1 hp with rfl | hp
   . simp
   . have E:(x.2.blk == p.2.blk)=false:=by
      rw [beq_eq_false_iff_ne]; intro h; exact B.1 (h ▸ List.mem_map.2 ⟨p,hp,rfl⟩)
     rw [List.find?_cons,E];exact ih B.2 p hp
theorem aqp {fs:List (List UInt8×FileD)} {l:List MapEntry} (hn:(fs.map (·.2.blk)).Nodup) (h:l.map (λe:MapEntry=>(e.key,e.val))=fs.map (λp=>(Value.string (S p.1),Value.pointer (some ⟨p.2.blk,0,none⟩)))) :
 (l.map λe=>wtL fs e.val).sum=fe fs:=by
 have A:l.map (λe=>wtL fs e.val)=(l.map (λe:MapEntry=>(e.key,e.val))).map (λq=>wtL fs q.2):=by rw [List.map_map]; rfl
 rw [A,h,List.map_map];unfold fe;congr 1;apply List.map_congr_left;intro p hp;show wtL fs (.pointer (some ⟨p.2.blk,0,none⟩))=_;show ((fs.find? λq=>q.2.blk == p.2.blk).map (·.2.now.length)).getD 0=_;rw [qf fs hn p hp]; rfl
theorem xc {fs:List (List UInt8×FileD)} {l:List MapEntry} (h:l.map (λe:MapEntry=>(e.key,e.val))=fs.map (λp=>(Value.string (S p.1),Value.pointer (some ⟨p.2.blk,0,none⟩)))) {e:MapEntry} (he:e∈l) :
 ∃ p∈fs,e.key=.string (S p.1)/\e.val=.pointer (some ⟨p.2.blk,0,none⟩):=by
 have:(e.key,e.val)∈fs.map (λp=>(Value.string (S p.1),Value.pointer (some ⟨p.2.blk,0,none⟩))):=by rw [<- h]; exact List.mem_map.2 ⟨e,he,rfl⟩
 obtain ⟨p,hp,A⟩:=List.mem_map.1 this;exact ⟨p,hp,(Prod.mk.inj A).1.symm,(Prod.mk.inj A).2.symm⟩
structure Iter (w:World) (b r:Nat) (es:Array MapEntry) (clk:Nat) (seen:Array Nat):Prop where
 map:w.heap[b]?=some (.map es clk)
 iter:w.heap[r]?=some (.mapIter (some b) clk seen clk)
theorem akr {w:World} {b r:Nat} {es:Array MapEntry} {clk:Nat} {seen:Array Nat} (h:Iter w b r es clk seen) (hne:r≠b) (hst:Stamped es clk) (P:Program) (ty:TypeId) :
 ((leftOf es seen).size=0/\(Instr.next (.pointer (some ⟨r,0,none⟩)) false ty).run P w=.ok (.tuple #[.bool false]) w) \/
 ∃ e∈(leftOf es seen).toList,∃ w1:World,Iter w1 b r es clk (seen.push e.born)/\Mod (λk=>k=r) w w1/\(Instr.next (.pointer (some ⟨r,0,none⟩)) false ty).run P w=.ok (.tuple #[.bool true,e.key,e.val]) w1 /\
  (Instr.entry (.pointer (some ⟨r,0,none⟩))).run P w1=.ok (.tuple #[e.key,e.val]) w1:=by
 rcases run_next_at (P:=P) w ty r b clk clk seen es clk h.iter h.map hst.1 (Nat.le_refl _) with h0 | ⟨e,he,w1,hw1,hrun⟩
 . exact .inl h0
 ·
  right
  have A:w1.heap[r]?=some (.mapIter (some b) clk seen clk):=by rcases hw1 with rfl | rfl <;> exact h.iter
  have B:w1.heap[b]?=some (.map es clk):=by rcases hw1 with rfl | rfl <;> exact h.map
  have E:r < w1.heap.size:=(Array.getElem?_eq_some_iff.1 A).1
  have F:Iter (setBlock w1 r (.mapIter (some b) clk (seen.push e.born) clk)) b r es clk (seen.push e.born):=by
   refine ⟨?_,?_⟩
   . show (w1.heap.setIfInBounds r _)[b]?=_
     rw [Array.getElem?_setIfInBounds_ne hne]; exact B
   . show (w1.heap.setIfInBounds r _)[r]?=_
     simp [E]
  have I:e∈es.toList:=by
   unfold leftOf at he;rw [Array.toList_filter] at he;exact (List.mem_filter.1 he).1
  refine ⟨e,he,_,F,?_,hrun,run_entry_at _ r b clk seen es clk e F.iter F.map I hst.2.1⟩
  have J:Mod (λk=>k=r) w w1:=by
   rcases hw1 with rfl | rfl
   . exact Mod.refl _ _
   . exact (Mod.refl _ _).drew
  refine J.trans ⟨rfl,rfl,rfl,by simp [setBlock],λk hk M=>?_⟩;show (w1.heap.setIfInBounds r _)[k]?=_;exact Array.getElem?_setIfInBounds_ne (λe=>M e.symm)
theorem size_any {base:Nat} {D:DiskD} (w:World) (h:DiskAt base w D) :
 Calls Tryz.prog 182 #[.pointer (some ⟨D.blk,0,none⟩)] w λe w'=>e=.returned (.int .i64 (D.size:Int))/\Below w.heap.size w w':=by
 have c2:w.cell? ⟨D.blk,2,none⟩=some (.map (some D.mB)):=h.cell 2 _ rfl;obtain ⟨es,A,hb,X,B⟩:=h.map;have Y:=Tryz.underlying80
 have an:(Instr.range 80 (.map (some D.mB))).run Tryz.prog w=.ok (.pointer (some ⟨w.heap.size,0,none⟩)) (w.alloc (.mapIter (some D.mB) A #[] A)):=by
  simp [Instr.range,run_underlying Y,Go.MapKept.run_getObj_map hb,Result.andThen]
 have Z:=zq h;clear h;go_enter Tryz.func182,Tryz.ntmps182;go_wp2_with fail;have a7:D.mB < w.heap.size:=(Array.getElem?_eq_some_iff.1 hb).1;have HS:Zq ((es.toList.map λe=>wtL D.files e.val).sum=D.size):=aqp Z.o.blocks B;have HM:=zq B;have HI:Zq (Iter (w.alloc (.mapIter (some D.mB) A #[] A)) D.mB w.heap.size es A #[]):=⟨(Below.heap_alloc _ _ _ (by omega)).trans hb,heap_alloc_new _ _⟩;have HB:Zq (Below w.heap.size w (w.alloc (.mapIter (some D.mB) A #[] A))):=(Below.refl _ _).alloc (Nat.le_refl _) _;have O:=zq X;have ab:(D.size:Int)<=16777216:=by have h1:=Z.o.fits; have h2:=Z.o.ints; omega
 clear B hb X Y an;generalize w.alloc (.mapIter (some D.mB) A #[] A)=w1 at *
 generalize hr:w.heap.size=r at *
 have ac:w.heap.size=r:=hr;clear hr;obtain ⟨sz,F⟩:∃ s,D.size=s:=⟨_,rfl⟩;rw [F] at HS ab;have ao:=zq F;clear F;go_loopw [3] (λi wr=>∃ (seen:Array Nat) (k:Nat),i=.int .i64 (k:Int)/\Zq (k+((leftOf es seen).toList.map λe=>wtL D.files e.val).sum=sz)/\Zq (Iter wr D.mB r es A seen)/\Zq (Below r w wr)) (λ_ wr=>match wr.heap[D.mB]?,wr.heap[r]? with | some (.map es _),some (.mapIter _ _ seen _)=>(leftOf es seen).size | _,_=>0)
 case atStart=>exact ⟨#[],0,rfl,by show _=_; rw [ah6,HS.o]; omega,HI.o,HB.o⟩
 case round =>
  obtain ⟨seen,k,rfl,HK,I,R⟩:=hrel;clear HI HB
  rcases akr I.o (by omega) O.o Tryz.prog 0 with ⟨h0,hrun⟩ | ⟨e,he,w2,hi,Y,hrun,hent⟩
  ·
   have J:(leftOf es seen).toList=[]:=by rw [<- List.length_eq_zero_iff,Array.length_toList]; exact h0
   have ap:Zq (k=sz):=by show _=_; have:=HK.o; rw [J] at this; simpa using this
   clear HK J h0 I O;go_wp2_with fail;go_ret;rw [ao.o,ap.o];exact ⟨rfl,by rw [ac]; exact R.o⟩
  ·
   have M:e∈es.toList:=by
    unfold leftOf at he;rw [Array.toList_filter] at he;exact (List.mem_filter.1 he).1
   obtain ⟨p,hp,N,E⟩:=xc HM.o M;have ad:Below r wr w2:=Y.to_below r (by have:=R.o.size; omega) (λk hk=>by omega);have ak:=zq (R.o.trans ad)
   have hc:w2.cell? ⟨p.2.blk,1,none⟩=some (.string (S p.2.now)):=by
    have:=(Z.o.below (ac ▸ ak.o)).file p hp;unfold World.cell?; rw [show w2.heap[(⟨p.2.blk,1,none⟩:Addr).block]?=_ from this]; rfl
   have hw:wtL D.files e.val=p.2.now.length:=by
    rw [E];show ((D.files.find? λq=>q.2.blk == p.2.blk).map (·.2.now.length)).getD 0=_;rw [qf D.files Z.o.blocks p hp]; rfl
   obtain ⟨s1,s2⟩:=ah7 (λe=>wtL D.files e.val) _ e he (aff O.o.2.1 seen);rw [<- af4] at s1 s2;have al:Zq (k+p.2.now.length+((leftOf es (seen.push e.born)).toList.map λe=>wtL D.files e.val).sum=sz):=by show _=_; have:=HK.o; omega
   have ar:Zq ((leftOf es (seen.push e.born)).size < (leftOf es seen).size):=by show _ < _; rw [<- Array.length_toList,<- Array.length_toList]; omega
   have U:=zq hi;have bb:(k:Int)+(p.2.now.length:Int)<=16777216:=by have:=al.o; omega
   have F:=ah;rw [N,E] at hrun hent;clear he M N E hw s1 s2 HK hi Y ad;generalize p.2.now=nw at *
   generalize p.2.blk=pb at *
   go_wp2_with fail;go_roundw
   case rel=>exact ⟨seen.push e.born,k+nw.length,by go_num,al,U,ak⟩
   case measure =>
    rw [U.o.map,U.o.iter,I.o.map,I.o.iter];exact ar.o
def Ext (u v:World):Prop:=Below u.heap.size u v
theorem Ext.refl (w:World):Ext w w:=Below.refl _ _
theorem Ext.trans {u v w:World} (h:Ext u v) (k:Ext v w):Ext u w:=Below.trans h (Below.mono k h.size)
def DiskD.room (D:DiskD):Int:=D.cap - (D.size:Int)
theorem room_any {base:Nat} {D:DiskD} (w:World) (h:DiskAt base w D) :
 Calls Tryz.prog 117 #[.pointer (some ⟨D.blk,0,none⟩)] w λe w'=>e=.returned (.int .i64 D.room)/\Below w.heap.size w w':=by
 have F:=zq h;have J:Zq (D.room=D.cap - (D.size:Int)):=rfl;have h1:=h.ints.2.2;have R:=h.fits;have M:IntKind.i64.wrap (D.cap - (D.size:Int))=D.cap - (D.size:Int):=IntWalk.i64_in _ (by omega);clear h;go_enter Tryz.func117,Tryz.ntmps117;go_wp2_with fail;refine Grow.ja 8 [none,none,none,some (.inl (.int .i64 D.cap)),none,some (.inl (.int .i64 (D.size:Int))),none,none] Ext (by kernel_rfl) (by kernel_rfl) (by kernel_rfl) Ext.refl (λ_ _ _=>Ext.trans) ?_ ?_
 . intro K I Y N v w w' U h
   simp only [List.mem_cons,List.not_mem_nil,or_false] at I
   rcases I with rfl | rfl | rfl | rfl | rfl | rfl | rfl | rfl <;> simp only [reduceCtorEq,Option.some.injEq,Sum.inr.injEq] at N
 simp only [List.take_succ_cons,List.take_zero,List.drop_succ_cons,List.drop_zero]
 iterate 3
  refine Grow.g_det rfl ?_;apply Exists.intro;refine ⟨λw2 B A=>?_,?_⟩
  . clear A
    go_simp;exact ⟨rfl,Ext.refl _⟩
  go_frame
 refine Grow.g_con rfl (λw2 B A=>?_) ?_
 ·
  clear A;have c4:w2.cell? ⟨D.blk,4,none⟩=some (.int .i64 D.cap):=(F.o.below ((Below.refl _ _).drew.trans B)).cell 4 _ rfl;go_simp
  all_goals exact Ext.refl _
 go_frame;refine Grow.g_det rfl ?_;apply Exists.intro;refine ⟨λw2 B A=>?_,?_⟩
 . clear A
   go_simp;exact ⟨rfl,Ext.refl _⟩
 go_frame;refine Grow.g_con rfl (λw2 B A=>?_) ?_
 . clear A
   go_simp;exact (size_any w2 (F.o.below ((Below.refl _ _).drew.trans B))).mono λe w3 h=>⟨_,h.1,rfl,h.2⟩
 iterate 2
  go_frame;refine Grow.g_det rfl ?_;apply Exists.intro;refine ⟨λw2 B A=>?_,?_⟩
  . clear A
    go_simp;exact ⟨rfl,Ext.refl _⟩
 go_frame;refine Grow.g_nil λw3 E A=>?_
 clear A;refine wpList_nil ?_;have O:=zq ((Below.refl w.heap.size w).drew.trans E);clear E;go_wp2_with fail;go_ret;rw [J.o];exact ⟨rfl,O.o⟩
structure RowC (g:Nat) (l:List UInt8) (c:Nat) (w:World):Prop where
 row:Row g l w
 le:l.length<=c
 there:∀ j,j < c->(w.cell? ⟨g,j,none⟩).isSome=true
 free:∀ j,j < c->w.frozen? ⟨g,j,none⟩=false
def apf (l:List UInt8) (o:Nat) (v:UInt8):List UInt8:=if o < l.length then l.set o v else l++[v]
def oh (l:List UInt8) (o:Nat) (vs:List UInt8):List UInt8:=l.take o++vs++l.drop (o+vs.length)
theorem aks (l:List UInt8) (o:Nat) (v:UInt8) (h:o<=l.length):apf l o v=oh l o [v]:=by
 unfold apf oh
 split
 . rename_i A
   rw [List.set_eq_take_append_cons_drop,if_pos A]; simp
 . have:o=l.length:=by omega
   subst this; simp
theorem akt (l:List UInt8) (o:Nat) (v:UInt8) (vs:List UInt8) (h:o<=l.length):oh (oh l o [v]) (o+1) vs=oh l o (v :: vs):=by
 unfold oh
 have h1:(l.take o++[v]++l.drop (o+[v].length)).take (o+1)=l.take o++[v]:=by
  rw [List.take_append_of_le_length (by simp; omega)];rw [List.take_of_length_le (by simp; omega)]
 have A:(l.take o++[v]++l.drop (o+[v].length)).drop (o+1+vs.length)=l.drop (o+(v :: vs).length):=by
  rw [List.drop_append,List.drop_of_length_le (by simp; omega)];simp only [List.length_append,List.length_take,List.length_cons,List.length_nil,List.drop_drop,List.nil_append];congr 1; omega
 rw [h1,A]; simp
theorem am2 (l:List UInt8) (o:Nat):oh l o []=l:=by unfold oh; simp
theorem qg (l:List UInt8) (o:Nat) (vs:List UInt8) (h:o<=l.length):(oh l o vs).length=max l.length (o+vs.length):=by
 unfold oh; simp only [List.length_append,List.length_take,List.length_drop]; omega
theorem RowC.put {g:Nat} {l:List UInt8} {c:Nat} {w:World} (h:RowC g l c w) (o:Nat) (ho:o<=l.length) (hc:o < c) (v:UInt8):RowC g (apf l o v) c (w.setCell ⟨g,o,none⟩ (.int .u8 (v.toNat:Int))):=by
 have A:∀ j,j < c->((w.setCell ⟨g,o,none⟩ (.int .u8 (v.toNat:Int))).cell? ⟨g,j,none⟩).isSome=true:=λj E=>by
  by_cases e:o=j
  . subst e
    obtain ⟨u,hu⟩:=Option.isSome_iff_exists.1 (h.there o E);rw [World.cell?_setCell_same _ _ _ hu]; rfl
  . rw [World.cell?_setCell_other _ _ _ _ (λq=>e (congrArg Addr.off q))]; exact h.there j E
 have B:∀ j,j < c->(w.setCell ⟨g,o,none⟩ (.int .u8 (v.toNat:Int))).frozen? ⟨g,j,none⟩=false:=λj E=>by rw [World.frozen?_setCell]; exact h.free j E
 unfold apf
 split
 . rename_i I
   exact ⟨h.row.set o I v,by simpa using h.le,A,B⟩
 ·
  have J:o=l.length:=by omega
  subst J;refine ⟨⟨by simpa using h.row.lt,λj E=>?_,λj E=>?_⟩,by simp; omega,A,B⟩
  ·
   by_cases e:j < l.length
   . rw [World.cell?_setCell_other _ _ _ _ (λq=>by have:=congrArg Addr.off q; simp at this; omega),List.getElem_append_left e]; exact h.row.cell j e
   . have F:j=l.length:=by simp at E; omega
     subst F;obtain ⟨u,hu⟩:=Option.isSome_iff_exists.1 (h.there _ hc);rw [World.cell?_setCell_same _ _ _ hu]; simp
  . rw [World.frozen?_setCell]; exact h.free j (by simp at E; omega)
theorem RowC.puts {g c:Nat}:∀ (vs:List UInt8) (l:List UInt8) (o:Nat) (w:World),RowC g l c w->o<=l.length->o+vs.length<=c ->
 RowC g (oh l o vs) c (w.setCells g o (vs.map λx=>Value.int .u8 (x.toNat:Int)))/\Mod (λk=>k=g) w (w.setCells g o (vs.map λx=>Value.int .u8 (x.toNat:Int)))
 | [],l,o,w,h,_,_=>by rw [am2]; exact ⟨h,Mod.refl _ _⟩
 | v :: vs,l,o,w,h,ho,hc=>by
   simp only [List.length_cons] at hc;have h1:=h.put o ho (by omega) v;rw [aks l o v ho] at h1;obtain ⟨A,B⟩:=RowC.puts vs _ (o+1) _ h1 (by rw [qg _ _ _ ho]; simp only [List.length_cons,List.length_nil]; omega) (by omega);rw [akt l o v vs ho] at A;exact ⟨A,(jm w g o _).trans B⟩
theorem ah8 {P:Program} (w:World) (src dst e:TypeId) (l:List UInt8) (hs:P.underlying src=some .string) (hd:P.underlying dst=some (.slice e)) (he:P.underlying e=some (.int .u8)) :
 ∃ c w',(convert src dst (.string (S l))).run P w=.ok (.slice (some ⟨w.heap.size,0,none⟩) l.length c) w'/\Below w.heap.size w w'/\RowC w.heap.size l c w':=by
 have F:(S l).size=l.length:=ah l
 have hC:(Lib.bytesCells w e (S l)).size=grownCap w (S l).size 0 e:=by
  have:=grownCap_ge w (S l).size 0 e;unfold Lib.bytesCells; rw [Array.size_append,Array.size_map,Array.size_replicate];have J:(S l).data.size=(S l).size:=rfl;omega
 have I:=grownCap_ge w (S l).size 0 e
 have B:∀ j,j < grownCap w (S l).size 0 e->((Lib.bytesWorld w e (S l)).cell? ⟨w.heap.size,j,none⟩).isSome=true:=λj E=>by
  unfold World.cell?;rw [show (Lib.bytesWorld w e (S l)).heap[(⟨w.heap.size,j,none⟩:Addr).block]?=_ from Lib.bytesWorld_at_new w e (S l)];simp [hC,E]
 have A:∀ j,j < grownCap w (S l).size 0 e->(Lib.bytesWorld w e (S l)).frozen? ⟨w.heap.size,j,none⟩=false:=λj E=>by
  unfold World.frozen?;rw [show (Lib.bytesWorld w e (S l)).heap[(⟨w.heap.size,j,none⟩:Addr).block]?=_ from Lib.bytesWorld_at_new w e (S l)];simp [hC]; omega
 refine ⟨grownCap w (S l).size 0 e,Lib.bytesWorld w e (S l),by rw [Lib.run_convert_string_bytes w src dst e (S l) hs hd he,F],⟨?_,?_,?_,?_,?_⟩,⟨⟨by rw [Lib.bytesWorld_size]; omega,λj E=>?_,λj E=>A j (by omega)⟩,by omega,B,A⟩⟩
 iterate 3
  . simp [Lib.bytesWorld,World.freeze,World.alloc,World.drew,-World.alloc_eq,-World.drew_eq]
 . rw [Lib.bytesWorld_size]; omega
 . intro k hk; exact Lib.bytesWorld_at_old w e (S l) k hk
 . rw [Lib.bytesWorld_cell w e (S l) j (by omega)]
   have:(S l).data.toList=l:=by simp [S]
   rw [this]; simp [List.getD,E]
theorem afg {P:Program} (w:World) (t tn ty e:TypeId) (i:TypeInfo) (ht:P.underlying t=some (.slice e)) (htn:P.underlying tn=some (.int .i64)) (hi:P.info? e=some i) (hz:i.zero=some (.int .u8 0)) (h1:i.size=1) (hb:i.bytes=1)
 {g:Nat} {l:List UInt8} {c:Nat} (h:RowC g l c w) (k:Nat) (hk:0 < k) (hlim:l.length+k<=70368744177664) :
 ∃ g' c' w',(Builtin.append_ #[t,tn] ty #[.slice (some ⟨g,0,none⟩) l.length c,.int .i64 (k:Int)]).run P w=.ok (.slice (some ⟨g',0,none⟩) (l.length+k) c') w'/\RowC g' (l++List.replicate k 0) c' w'/\Mod (λb=>b=g) w w'/\(g'=g\/w.heap.size<=g'):=by
 by_cases hroom:l.length+k<=c
 ·
  obtain ⟨hr,hm⟩:=h.puts (List.replicate k 0) l l.length w (Nat.le_refl _) (by simpa using hroom);have ac:oh l l.length (List.replicate k 0)=l++List.replicate k 0:=by unfold oh; simp
  rw [ac] at hr;have O:(List.replicate k (0:UInt8)).map (λx=>Value.int .u8 (x.toNat:Int))=List.replicate k (.int .u8 0):=by simp
  rw [O] at hr hm;refine ⟨g,c,_,?_,hr,hm,.inl rfl⟩;have hw:IntKind.i64.wrap (k:Int)=k:=by rw [IntKind.wrap_i64]; omega
  have R:¬ ((k:Int) < 0):=by omega
  have ad:¬ (281474976710656 < (k:Int)):=by omega
  have ak:k≠0:=by omega
  have U:=run_storeCells_cells (P:=P) g l.length (List.replicate k (.int .u8 0)) 0 w (λj B=>h.there _ (by simp at B; omega)) (λj B=>h.free _ (by simp at B; omega)) (λv hv=>by rw [List.eq_of_mem_replicate hv]; rfl);simp only [Nat.add_zero] at U
  have al:Builtin.zeroCells #[.int .u8 0] k=(List.replicate k (Value.int .u8 0)).toArray:=by
   apply Array.ext';simp only [Builtin.zeroCells,Array.toList_map,Array.toList_range];apply List.ext_getElem?;intro j;simp only [List.getElem?_map,List.getElem?_replicate]
   by_cases B:j < k
   . simp [B,Nat.mod_one]
   . simp [B]
  have N:(Value.int .u8 0).cells=#[.int .u8 0]:=rfl;have F:(⟨g,0,none⟩:Addr).add l.length=⟨g,l.length,none⟩:=by unfold Addr.add; split <;> simp_all
  simp [Builtin.append_,run_underlying ht,run_underlying htn,sizeOf,typeInfo,zeroValue,hi,hz,asInt,asIntOf,hw,R,h1,hb,ad,ak,hroom,Result.andThen,N,al,F,U]
 ·
  have am:l.length+k<=maxLen:=by unfold maxLen; omega
  have N:(Value.int .u8 0).cells=#[.int .u8 0]:=rfl
  have M:∀ (j:Nat) (u:Value),(l.map λx=>Value.int .u8 (x.toNat:Int))[j]?=some u->w.drew.cell? ((⟨g,0,none⟩:Addr).add j)=some u:=by
   intro j u hu;rw [List.getElem?_map] at hu
   have B:j < l.length:=by
    rcases Nat.lt_or_ge j l.length with h | h
    . exact h
    . rw [List.getElem?_eq_none h] at hu; cases hu
   rw [List.getElem?_eq_getElem B] at hu;have F:(⟨g,0,none⟩:Addr).add j=⟨g,j,none⟩:=by unfold Addr.add; split <;> simp_all
   rw [F];have:=h.row.cell j B
   cases hu; exact this
  have hold:(Builtin.firstCells i.size l.length (.slice (some ⟨g,0,none⟩) l.length c)).run P w.drew=.ok (l.map λx=>Value.int .u8 (x.toNat:Int)).toArray w.drew:=by
   have:=run_loadCells_list (P:=P) w.drew ⟨g,0,none⟩ (l.map λx=>Value.int .u8 (x.toNat:Int)) M;rw [List.length_map] at this;simp only [Builtin.firstCells,h1,Nat.mul_one];exact this
  have X:Builtin.nextslicecap (l.length+k) c * i.bytes<=281474976710656:=growslice_fits (by omega) (by rw [hb]; omega);have I:=Lib.run_append_grow_zeros (P:=P) w t tn ty e i (.int .u8 0) .i64 .i64 ht htn hi hz (some ⟨g,0,none⟩) l.length c _ hold k hk (by omega) (by omega) (by omega) (by rw [hb]; omega) X;have a1:=grownCap_ge w (l.length+k) c e;rw [N] at I
  have Y:∀ n,Builtin.zeroCells #[.int .u8 0] n=Array.replicate n (Value.int .u8 0):=by
   intro n;apply Array.ext';simp only [Builtin.zeroCells,Array.toList_map,Array.toList_range,Array.toList_replicate];apply List.ext_getElem?;intro j;simp only [List.getElem?_map,List.getElem?_replicate]
   by_cases B:j < n
   . simp [B,Nat.mod_one]
   . simp [B]
  rw [Y,Y] at I;have a6:((l.map λx=>Value.int .u8 (x.toNat:Int)).toArray++Array.replicate k (Value.int .u8 0)++Array.replicate (grownCap w (l.length+k) c e - (l.length+k)) (Value.int .u8 0)).size=grownCap w (l.length+k) c e:=by simp; omega
  have an:∀ (j:Nat) (B:j < (l++List.replicate k 0).length),((l.map λx=>Value.int .u8 (x.toNat:Int)).toArray++Array.replicate k (Value.int .u8 0)++Array.replicate (grownCap w (l.length+k) c e - (l.length+k)) (Value.int .u8 0))[j]?=some (.int .u8 ((l++List.replicate k 0)[j].toNat:Int)):=by
   intro j B;have ao:=B;simp only [List.length_append,List.length_replicate] at ao
   by_cases hl:j < l.length
   . rw [Array.getElem?_append_left (by simp; omega),Array.getElem?_append_left (by simp; omega),List.getElem_append_left hl]
     simp [hl]
   . rw [Array.getElem?_append_left (by simp; omega),Array.getElem?_append_right (by simp; omega),List.getElem_append_right (by omega)]
     simp only [List.size_toArray,List.length_map,List.getElem_replicate,Array.getElem?_replicate];rw [if_pos (by omega)]; rfl
  generalize (l.map λx=>Value.int .u8 (x.toNat:Int)).toArray++Array.replicate k (Value.int .u8 0)++Array.replicate (grownCap w (l.length+k) c e - (l.length+k)) (Value.int .u8 0)=A at *
  refine ⟨_,_,_,I,?_,⟨rfl,rfl,rfl,by simp,λb hb _=>(by first | exact heap_alloc_old w.drew _ hb | exact heap_alloc_old w.drew _ _ hb)⟩,.inr (Nat.le_refl _)⟩;have Z:(w.drew.alloc (.cells A e)).heap[w.heap.size]?=some (.cells A e):=heap_alloc_new w.drew _
  have E:∀ j,(w.drew.alloc (.cells A e)).cell? ⟨w.heap.size,j,none⟩=A[j]?:=λj=>by
   unfold World.cell?;rw [show (w.drew.alloc (.cells A e)).heap[(⟨w.heap.size,j,none⟩:Addr).block]?=_ from Z]; rfl
  have J:∀ j,(w.drew.alloc (.cells A e)).frozen? ⟨w.heap.size,j,none⟩=false:=λj=>by
   unfold World.frozen?;rw [show (w.drew.alloc (.cells A e)).heap[(⟨w.heap.size,j,none⟩:Addr).block]?=_ from Z];simp
  refine ⟨⟨by simp,λj B=>by rw [E]; exact an j B,λj _=>J j⟩,by simp; omega,λj B=>?_,λj _=>J j⟩;rw [E,Array.getElem?_eq_getElem (by omega)]; rfl
def laidL (s:List UInt8) (o:Nat) (t:List UInt8):List UInt8:=if t=[] then s else oh (s++List.replicate (o+t.length - s.length) 0) o t
theorem aer {P:Program} (dT sT ty e:TypeId) (hu:P.underlying dT=some (.slice e)) (hz:∀ w,(Go.sizeOf e).run P w=.ok 1 w) {g:Nat} {l:List UInt8} {c:Nat} {w:World} (h:RowC g l c w) (o:Nat) (t:List UInt8) (ho:o<=l.length) (hc:o+t.length<=c) (dl dc:Nat) (hdl:t.length<=dl) :
 (Builtin.copy_ #[dT,sT] ty #[.slice (some ⟨g,o,none⟩) dl dc,.string (S t)]).run P w=.ok (goInt (S t).size) (w.setCells g o (t.map λx=>Value.int .u8 (x.toNat:Int))):=by
 have A:(S t).data.toList=t:=by simp [S]
 have E:(S t).size=t.length:=ah t;have:=Go.run_copy_string (P:=P) w dT sT ty e g o dl dc (S t) hu hz (by omega) (λj B=>h.there _ (by omega)) (λj B=>h.free _ (by omega));rw [A] at this;exact this
theorem S_toList (l:List UInt8):(S l).toList=l:=by rw [ByteArray.toList_eq,jv]
theorem am3 (s:List UInt8) (o:Nat) (t:List UInt8) (hs:s.length<=1099511627776) (ho:o<=1099511627776) (ht:t.length<=1099511627776) (w:World) :
 Calls Tryz.prog 195 #[.string (S s),.int .i64 (o:Int),.string (S t)] w λe w'=>e=.returned (.string (S (laidL s o t)))/\Below w.heap.size w w':=by
 have bj:=ah;have bk:=S_toList
 by_cases h0:t=[]
 ·
  subst h0;have hl:Zq (laidL s o []=s):=if_pos rfl;go_enter Tryz.func195,Tryz.ntmps195;go_wp2_with fail;go_ret;rw [hl.o];exact ⟨rfl,Below.refl _ _⟩
 have HL:Zq (laidL s o t=oh (s++List.replicate (o+t.length - s.length) 0) o t):=if_neg h0
 have bm:t.isEmpty=false:=by cases t with
  | nil=>exact absurd rfl h0
  | cons _ _=>rfl
 have bo:0 < t.length:=List.length_pos_iff.2 h0;obtain ⟨c,w1,N,ad,ak⟩:=ah8 (P:=Tryz.prog) w 9 231 5 s Tryz.underlying9 Tryz.underlying231 Tryz.underlying5;have A:=zq ak;have O:=zq ad;clear ak ad h0;go_enter Tryz.func195,Tryz.ntmps195;go_upto_region 5 with fail
 clear N;generalize hgw:w.heap.size=g at *
 have al:Zq (w.heap.size=g):=hgw;clear hgw
 obtain ⟨i0,J,R,M,U⟩:∃ i,Tryz.prog.info? 5=some i/\i.zero=some (.int .u8 0)/\i.size=1/\i.bytes=1:=by
  have:=(show (Tryz.prog.info? 5).map (λi=>(i.zero,i.size,i.bytes))=some (some (.int .u8 0),1,1) by kernel_rfl)
  cases hh:Tryz.prog.info? 5 with
  | none=>rw [hh] at this; cases this
  | some i=>rw [hh] at this; have h2:=Option.some.inj this; exact ⟨i,rfl,congrArg (·.1) h2,congrArg (·.2.1) h2,congrArg (·.2.2) h2⟩
 have am:Zq (∀ w,(Go.sizeOf 5).run Tryz.prog w=.ok 1 w):=λw=>by simp [sizeOf,typeInfo,J,M]
 by_cases hgr:s.length < o+t.length
 ·
  have an:(o:Int)+(t.length:Int) - (s.length:Int)=((o+t.length - s.length:Nat):Int):=by omega
  obtain ⟨g2,c2,w2,X,ao,ap,ar⟩:=afg (P:=Tryz.prog) w1 231 3 231 5 i0 Tryz.underlying231 Tryz.underlying3 J R M U A.o (o+t.length - s.length) (by omega) (by omega);rw [an];have av:s.length+(o+t.length - s.length)=o+t.length:=by omega
  rw [av] at X;have a7:=zq X;have B:=zq ao;have a8:=zq ap;have ba:=zq ar;clear X ao ap ar an av J R M U;have a1:0 < o+t.length - s.length:=by omega
  have bb:¬ c2=o:=by have:=B.o.le; simp only [List.length_append,List.length_replicate] at this; omega
  have bh:(s++List.replicate (o+t.length - s.length) (0:UInt8)).length=o+t.length:=by simp; omega
  have E:=aer (P:=Tryz.prog) 231 9 3 5 Tryz.underlying231 am.o B.o o t (by omega) (by have:=B.o.le; omega) t.length (c2 - o) (Nat.le_refl _);obtain ⟨F,I⟩:=B.o.puts t _ o _ (by omega) (by have:=B.o.le; omega);have Y:=zq F;have Z:=zq I;have ab:=zq E;clear F I E;generalize o+t.length - s.length=k at *
  generalize hw3:w2.setCells g2 o (t.map λx=>Value.int .u8 (x.toNat:Int))=w3 at *
  have bc:(convert 231 9 (.slice (some ⟨g2,0,none⟩) (o+t.length) c2)).run Tryz.prog w3=.ok (.string ⟨(oh (s++List.replicate k 0) o t).toArray⟩) w3 :=
   wm Y.o.row 231 5 9 Tryz.underlying231 Tryz.underlying5 Tryz.underlying9 c2 (o+t.length) (by rw [qg _ _ _ (by omega)]; omega)
  go_wp2_with (at_builtin; refine Lib.wpList_append_run _ rfl (.tmp 23) (.tmp 24) 231 3 rfl _ _ rfl rfl _ _ a7.o ?_);rw [ab.o];go_wp2_with fail;go_ret;rw [HL.o];have h2:=a8.o.to_below g (by have:=O.o.size; have:=A.o.row.lt; omega) (λk hk=>by omega);have h3:=Z.o.to_below g (by have:=h2.size; have:=A.o.row.lt; omega) (λk hk=>by have:=ba.o; have:=A.o.row.lt; omega);rw [al.o];exact ⟨rfl,(O.o.trans h2).trans h3⟩
 ·
  have a1:o+t.length - s.length=0:=by omega
  rw [a1,List.replicate_zero,List.append_nil] at HL;have bp:¬ (0 < (o:Int)+(t.length:Int) - (s.length:Int)):=by omega
  have bb:¬ c=o:=by have:=A.o.le; omega
  have E:=aer (P:=Tryz.prog) 231 9 3 5 Tryz.underlying231 am.o A.o o t (by omega) (by have:=A.o.le; omega) (s.length - o) (c - o) (by omega);obtain ⟨F,I⟩:=A.o.puts t _ o _ (by omega) (by have:=A.o.le; omega);have Y:=zq F;have Z:=zq I;have ab:=zq E;clear F I E J R M U;generalize hw3:w1.setCells g o (t.map λx=>Value.int .u8 (x.toNat:Int))=w3 at *
  have bc:(convert 231 9 (.slice (some ⟨g,0,none⟩) s.length c)).run Tryz.prog w3=.ok (.string ⟨(oh s o t).toArray⟩) w3 :=
   wm Y.o.row 231 5 9 Tryz.underlying231 Tryz.underlying5 Tryz.underlying9 c s.length (by rw [qg _ _ _ (by omega)]; omega)
  have br:o<=s.length:=by omega
  go_wp2_with fail;rw [ab.o];go_wp2_with fail;go_ret;rw [HL.o];have h3:=Z.o.to_below g (by have:=A.o.row.lt; omega) (λk hk=>by omega);rw [al.o];exact ⟨rfl,O.o.trans h3⟩
theorem vo {D:DiskD} {n:List UInt8} (h:D.find n=none):∀ p∈D.files,p.1≠n:=by
 unfold DiskD.find at h;rw [Option.map_eq_none_iff,List.find?_eq_none] at h;intro p hp e;exact h p hp (by simp [e])
theorem lm {D:DiskD} {n:List UInt8} {f:FileD} (h:D.find n=some f):(n,f)∈D.files:=by
 unfold DiskD.find at h
 cases hf:D.files.find? (λp=>p.1 == n) with
 | none=>rw [hf] at h; cases h
 | some p =>
   rw [hf] at h;have h1:=List.mem_of_find?_eq_some hf;have A:=List.find?_some hf;have B:p.2=f:=Option.some.inj h;have E:p.1=n:=by simpa using A
   rw [<- B,<- E]; exact h1
theorem af5 {base:Nat} {w:World} {D:DiskD} (h:DiskAt base w D) (n:List UInt8) (hn:D.find n=none) (b:Nat) (hb:w.heap[b]?=some (.cells #[.string (S []),.string (S [])] 293 (0,0))) (hfo:¬ D.foot b) (hba:base<=b) :
 ∃ w',(Instr.mapUpdate 80 (.map (some D.mB)) (.string (S n)) (.pointer (some ⟨b,0,none⟩))).run Tryz.prog w=.ok () w'/\DiskAt base w' { D with files:=D.files++[(n,⟨b,[],[]⟩)] }/\Mod (λk=>k=D.mB) w w':=by
 obtain ⟨es,c,O,R,A⟩:=h.map;have hu:=Tryz.underlying80;have hd:=Tryz.underlying9
 have U:∀ x∈es.toList,IsKey .string x.key:=λx F=>by
  obtain ⟨p,_,hk,_⟩:=xc A F;rw [hk]; trivial
 have hk:IsKey .string (.string (S n)):=trivial
 have X:∀ x∈es.toList,x.key≠.string (S n):=λx F e=>by
  obtain ⟨p,hp,hk,_⟩:=xc A F;rw [hk] at e;exact vo hn p hp (S_inj (by cases e; rfl))
 rcases findNow_spec hk es.toList 0 U with ⟨h1,h2⟩ | ⟨j,e,h1,h2,h3⟩
 ·
  have Y:D.mB < w.heap.size:=(Array.getElem?_eq_some_iff.1 O).1
  have I:(Instr.mapUpdate 80 (.map (some D.mB)) (.string (S n)) (.pointer (some ⟨b,0,none⟩))).run Tryz.prog w=.ok () { w with heap:=w.heap.setIfInBounds D.mB (.map (es.push ⟨.string (S n),.pointer (some ⟨b,0,none⟩),c⟩) (c+1)) }:=by
   simp [Instr.mapUpdate,run_underlying hu,Go.MapKept.run_getObj_map O,Go.MapKept.run_checkKey hd hk,Go.MapKept.run_findKey hd h1,Go.MapKept.run_setObj_map _ O,Result.andThen]
  have J:Mod (λk=>k=D.mB) w { w with heap:=w.heap.setIfInBounds D.mB (.map (es.push ⟨.string (S n),.pointer (some ⟨b,0,none⟩),c⟩) (c+1)) }:=⟨rfl,rfl,rfl,by simp,λk _ hk=>by
   show (w.heap.setIfInBounds D.mB _)[k]?=_;exact Array.getElem?_setIfInBounds_ne (λe=>hk e.symm)⟩
  refine ⟨_,I,?_,J⟩;have key:∀ k,k < w.heap.size->k≠D.mB->(w.heap.setIfInBounds D.mB (Obj.map (es.push ⟨.string (S n),.pointer (some ⟨b,0,none⟩),c⟩) (c+1)))[k]?=w.heap[k]?:=λk _ hk=>Array.getElem?_setIfInBounds_ne (λe=>hk e.symm)
  have M:b < w.heap.size:=(Array.getElem?_eq_some_iff.1 hb).1;have N:b≠D.mB:=λe=>hfo (.inr (.inl e))
  have Z:b≠D.blk:=λe=>hfo (.inl e)
  have ab:∀ p∈D.files,b≠p.2.blk:=λp hp e=>hfo (.inr (.inr (.inl ⟨p,hp,e⟩)))
  have ac:∀ k,D.wv.ownBlock=some k->k≠b:=λk hk e=>hfo (.inr (.inr (.inr (e ▸ hk))))
  refine ⟨?_,⟨es.push ⟨.string (S n),.pointer (some ⟨b,0,none⟩),c⟩,c+1,?_,stamped_push R h2,?_⟩,λp hp=>?_,?_,?_,?_,?_,?_,h.ints,?_,λx F=>by obtain ⟨p,hp,e⟩:=h.waitf x F; exact ⟨p,List.mem_append_left _ hp,e⟩⟩
  . exact (key _ (h.lt (.inl rfl)) h.apart.1).trans h.head
  . show (w.heap.setIfInBounds D.mB _)[D.mB]?=_
    simp [Y]
  . rw [Array.toList_push,List.map_append,A,List.map_append]; rfl
  . rcases List.mem_append.1 hp with hp | hp
    . exact (key _ (h.lt (.inr (.inr (.inl ⟨p,hp,rfl⟩)))) (h.apart.2.1 p hp).2).trans (h.file p hp)
    . rw [List.mem_singleton] at hp; subst hp
      exact (key b M N).trans hb
  ·
   refine ⟨h.row.1,?_⟩
   rcases h.row.2 with h0 | ⟨g,cap,cur,e,hbs,hg,r⟩
   . exact .inl h0
   . have B:D.wv.ownBlock=some g:=by rw [e]; rfl
     exact .inr ⟨g,cap,cur,e,hbs,(key g (h.lt (.inr (.inr (.inr B)))) (h.apart.2.2 g B).2.1).trans hg,r⟩
  ·
   show ((D.files++[(n,(⟨b,[],[]⟩:FileD))]).map (·.1)).Nodup;rw [List.map_append,List.nodup_append];refine ⟨h.names,by simp,λa ha c hc e=>?_⟩;simp only [List.map_cons,List.map_nil,List.mem_singleton] at hc;subst hc; subst e;obtain ⟨p,hp,E⟩:=List.mem_map.1 ha;exact vo hn p hp E
  ·
   show ((D.files++[(n,(⟨b,[],[]⟩:FileD))]).map (·.2.blk)).Nodup;rw [List.map_append,List.nodup_append];refine ⟨h.blocks,by simp,λa ha c hc e=>?_⟩;simp only [List.map_cons,List.map_nil,List.mem_singleton] at hc;subst hc; subst e;obtain ⟨p,hp,E⟩:=List.mem_map.1 ha;exact ab p hp E.symm
  ·
   refine ⟨h.apart.1,λp hp=>?_,λk hk=>⟨(h.apart.2.2 k hk).1,(h.apart.2.2 k hk).2.1,λp hp=>?_⟩⟩
   . rcases List.mem_append.1 hp with hp | hp
     . exact h.apart.2.1 p hp
     . rw [List.mem_singleton] at hp; subst hp; exact ⟨Z,N⟩
   . rcases List.mem_append.1 hp with hp | hp
     . exact (h.apart.2.2 k hk).2.2 p hp
     . rw [List.mem_singleton] at hp; subst hp; exact ac k hk
  . refine ⟨h.above.1,h.above.2.1,λp hp=>?_⟩
    rcases List.mem_append.1 hp with hp | hp
    . exact h.above.2.2 p hp
    . rw [List.mem_singleton] at hp; subst hp; exact hba
  . have:fe (D.files++[(n,(⟨b,[],[]⟩:FileD))])=fe D.files:=by unfold fe; simp
    show ((fe (D.files++[(n,(⟨b,[],[]⟩:FileD))]):Nat):Int)<=D.cap;rw [this]; exact h.fits
 . exact absurd h3 (X e (List.mem_of_getElem? h2))
def DiskD.createE (D:DiskD) (n:List UInt8):Int:=if D.down then 8 else if (D.find n).isSome then 10 else D.done
def DiskD.create (D:DiskD) (n:List UInt8) (b:Nat):DiskD:=if D.down=true\/(D.find n).isSome=true then D else if D.left=0 then D.burn else { D.burn with files:=D.files++[(n,⟨b,[],[]⟩)] }
theorem am4 (D:DiskD):D.bars []=if D.down then 8 else 0:=by unfold DiskD.bars; rfl
theorem j6 (D:DiskD):D.burn.foot=D.foot/\D.burn.blk=D.blk/\D.burn.mB=D.mB/\D.burn.files=D.files/\D.burn.wv=D.wv/\D.burn.waits=D.waits/\D.burn.cap=D.cap:=by
 unfold DiskD.burn
 split
 . exact ⟨rfl,rfl,rfl,rfl,rfl,rfl,rfl⟩
 . split
   iterate 2
    . exact ⟨rfl,rfl,rfl,rfl,rfl,rfl,rfl⟩
theorem aku (D:DiskD) (n:List UInt8):D.burn.find n=D.find n:=by unfold DiskD.find; rw [(j6 D).2.2.2.1]
theorem Mod.below_foot {D:DiskD} {w w':World} (h:Mod (λk=>k=D.blk) w w'):Mod D.foot w w':=h.mono (λk _ hk=>.inl hk)
theorem xe {base:Nat} {D:DiskD} (n:List UInt8) (w:World) (h:DiskAt base w D) (hbase:base<=w.heap.size) :
 Calls Tryz.prog 155 #[.pointer (some ⟨D.blk,0,none⟩),.string (S n)] w λe w'=>∃ b,w.heap.size<=b/\e=.returned (.int .i64 (D.createE n))/\DiskAt base w' (D.create n b)/\Mod D.foot w w':=by
 have M:=zq (yw none 0 [] (by simp) w h (λi hi=>absurd hi (Nat.not_lt_zero _)));rw [am4] at M;have I:Zq (D.createE n=if D.down then 8 else if (D.find n).isSome then 10 else D.done):=rfl;have J:Zq (∀ b,D.create n b=if D.down=true\/(D.find n).isSome=true then D else if D.left=0 then D.burn else { D.burn with files:=D.files++[(n,⟨b,[],[]⟩)] }):=λ_=>rfl
 have c2:w.cell? ⟨D.blk,2,none⟩=some (.map (some D.mB)):=h.cell 2 _ rfl;have B:=jw h n;have Y:=zq (aa7 w h);have HD:=zq h;clear h;go_enter Tryz.func155,Tryz.ntmps155;go_wp2_with fail;refine M.o.mono ?_;rintro e w1 ⟨rfl,rfl⟩;clear M
 cases hdn:D.down with
 | true =>
   rw [hdn] at I J;go_wp2_with fail;go_ret;exact ⟨w1.heap.size,Nat.le_refl _,by rw [I.o]; rfl,by rw [J.o,if_pos (by simp)]; exact HD.o,Mod.refl _ _⟩
 | false =>
   rw [hdn] at I J;clear hdn
   cases N:D.find n with
   | some f =>
     rw [N] at I J B;unfold ry at B;simp only [Option.map_some] at B;clear N;go_wp2_with fail;go_ret;exact ⟨w1.heap.size,Nat.le_refl _,by rw [I.o]; rfl,by rw [J.o,if_pos (by simp)]; exact HD.o,Mod.refl _ _⟩
   | none =>
     have HF:=zq N;rw [N] at I J B;unfold ry at B;simp only [Option.map_none] at B;clear N;go_wp2_with fail;refine Y.o.mono ?_;rintro e w2 ⟨rfl,Z,ab⟩;have E:=zq Z;have F:=zq ab;clear Z ab Y c2 B
     by_cases h0:D.left=0
     . have A:D.done=8:=if_pos h0
       have O:=zq A;rw [A];clear A;go_wp2_with fail;go_ret;exact ⟨w1.heap.size,Nat.le_refl _,by rw [I.o]; simp [O.o],by rw [J.o,if_neg (by simp),if_pos h0]; exact E.o,Mod.below_foot F.o⟩
     ·
      have A:D.done=0:=if_neg h0;have O:=zq A;rw [A];clear A
      have c2:w2.cell? ⟨D.blk,2,none⟩=some (.map (some D.mB)):=by
       have:w2.cell? ⟨D.burn.blk,2,none⟩=some (.map (some D.burn.mB)):=E.o.cell 2 _ rfl;rw [(j6 D).2.1,(j6 D).2.2.1] at this; exact this
      have R:Below w2.heap.size w2 (w2.alloc (.cells #[.string ⟨#[]⟩,.string ⟨#[]⟩] 293)):=(Below.refl _ _).alloc (Nat.le_refl _) _;have ac:base<=w2.heap.size:=Nat.le_trans hbase F.o.size;obtain ⟨w4,ad,U,X⟩:=af5 (E.o.below R) n (by rw [aku]; exact HF.o) w2.heap.size (heap_alloc_new _ _) (λN=>by have:=E.o.lt N; omega) ac;rw [(j6 D).2.2.1] at ad X;rw [(j6 D).2.2.2.1] at U;have ak:=zq U;have al:Zq (Mod D.foot w1 w4):=((Mod.below_foot F.o).trans (Mod.of_below R)).trans (X.mono (λk _ hk=>.inr (.inl hk)));have am:Zq (w1.heap.size<=w2.heap.size):=F.o.size;clear U X R ac;go_wp2_with fail;go_ret;exact ⟨w2.heap.size,am.o,by rw [I.o]; simp [O.o],by rw [J.o,if_neg (by simp),if_neg h0]; exact ak.o,al.o⟩
def aqr (f:Option FileD):List UInt8:=match f with | some f=>f.now | none=>[]
def DiskD.bytes (D:DiskD) (n:List UInt8):List UInt8:=aqr (D.find n)
def DiskD.allT (D:DiskD) (n:List UInt8):List UInt8:=if D.bars [n]=0 then D.bytes n else []
theorem rz (D:DiskD) (n:List UInt8):D.bars [n]=if D.down then 8 else if (D.find n).isSome then 0 else 9:=by unfold DiskD.bars; simp
theorem DiskAt.now {base:Nat} {w:World} {D:DiskD} (h:DiskAt base w D) {n:List UInt8} {f:FileD} (hf:D.find n=some f):w.cell? ⟨f.blk,1,none⟩=some (.string (S f.now)):=by
 have:=h.file _ (lm hf);unfold World.cell?; rw [show w.heap[(⟨f.blk,1,none⟩:Addr).block]?=_ from this]; rfl
theorem row_one (w:World) (n:List UInt8) (ty:TypeId):Row1 (w.alloc (.cells #[.string (S n)] ty)) (some ⟨w.heap.size,0,none⟩) ([n].map λx=>.string (S x)):=by
 intro i A;have:i=0:=by simpa using A
 subst this;exact ⟨_,_,rfl,by rw [World.cell?_alloc_new]; rfl⟩
theorem ajx {base:Nat} {D:DiskD} (n:List UInt8) (w:World) (h:DiskAt base w D) :
 Calls Tryz.prog 139 #[.pointer (some ⟨D.blk,0,none⟩),.string (S n)] w λe w'=>e=.returned (.tuple #[.string (S (D.allT n)),.int .i64 (D.bars [n])])/\Below w.heap.size w w':=by
 have I:Zq (Below w.heap.size w (w.alloc (.cells #[.string (S n)] 9))):=(Below.refl _ _).alloc (Nat.le_refl _) _;have hd:=h.below I.o;have B:=zq (yw (some ⟨w.heap.size,0,none⟩) 1 [n] (by simp) _ hd (row_one w n _));have E:=jw hd n;have c2:(w.alloc (.cells #[.string (S n)] 9)).cell? ⟨D.blk,2,none⟩=some (.map (some D.mB)):=hd.cell 2 _ rfl;have N:=zq hd;have A:Zq (D.allT n=if D.bars [n]=0 then D.bytes n else []):=rfl;have J:Zq (D.bytes n=aqr (D.find n)):=rfl;rw [rz] at B A;have F:=zq (rz D n);clear h hd;go_enter Tryz.func139,Tryz.ntmps139;go_wp2_with fail;refine B.o.mono ?_;rintro e w1 ⟨rfl,rfl⟩;clear B
 cases hdn:D.down with
 | true =>
   rw [hdn] at A F;go_wp2_with fail;go_ret2;rw [A.o,F.o];exact ⟨rfl,I.o⟩
 | false =>
   rw [hdn] at A F;clear hdn
   cases hf:D.find n with
   | none =>
     rw [hf] at A F;go_wp2_with fail;go_ret2;rw [A.o,F.o];exact ⟨rfl,I.o⟩
   | some f =>
     have M:=N.o.now hf;rw [hf] at A F E J;unfold ry at E;simp only [Option.map_some] at E;clear hf;go_wp2_with fail;go_ret2;rw [A.o,F.o,J.o];exact ⟨rfl,I.o⟩
def DiskD.readOk (D:DiskD) (nm:List UInt8) (o n:Int):Bool:=decide (0<=o) && decide (0<=n) && decide (o+n<=((D.bytes nm).length:Int))
def DiskD.readE (D:DiskD) (nm:List UInt8) (o n:Int):Int:=if D.bars [nm]=0 then (if D.readOk nm o n then 0 else 2) else D.bars [nm]
def DiskD.readT (D:DiskD) (nm:List UInt8) (o n:Int):List UInt8:=if D.bars [nm]=0/\D.readOk nm o n=true then ((D.bytes nm).drop o.toNat).take n.toNat else []
theorem akv {l:List (List UInt8×FileD)} {p:List UInt8×FileD} (h:p∈l):p.2.now.length<=fe l:=by
 unfold fe
 induction l with
 | nil=>cases h
 | cons x l ih =>
   simp only [List.map_cons,List.sum_cons]
   rcases List.mem_cons.1 h with rfl | h
   . omega
   . have:=ih h; omega
theorem DiskAt.small {base:Nat} {w:World} {D:DiskD} (h:DiskAt base w D) (n:List UInt8):(D.bytes n).length<=16777216:=by
 unfold DiskD.bytes
 cases hf:D.find n with
 | none=>simp [aqr]
 | some f =>
   have h1:=akv (lm hf);have A:=h.fits;have B:=h.ints.2.2.2;have E:D.size=fe D.files:=rfl;show f.now.length<=_;simp only at h1;omega
theorem akw (l:List UInt8) (o n:Nat):(S l).extract o (o+n)=S ((l.drop o).take n):=by
 have h:((S l).extract o (o+n)).data.toList=(l.drop o).take n:=by simp [S,List.extract]
 have e:∀ a:ByteArray,a=S a.data.toList:=λa=>by cases a; simp [S]
 rw [e ((S l).extract o (o+n)),h]
theorem read_any {base:Nat} {D:DiskD} (nm:List UInt8) (o n:Int) (ho : -9223372036854775808<=o/\o<=9223372036854775807) (hn : -9223372036854775808<=n/\n<=9223372036854775807) (w:World) (h:DiskAt base w D) :
 Calls Tryz.prog 74 #[.pointer (some ⟨D.blk,0,none⟩),.string (S nm),.int .i64 o,.int .i64 n] w λe w'=>e=.returned (.tuple #[.string (S (D.readT nm o n)),.int .i64 (D.readE nm o n)])/\Below w.heap.size w w':=by
 have N:=zq (ajx nm w h);have B:Zq (D.readE nm o n=if D.bars [nm]=0 then (if D.readOk nm o n then 0 else 2) else D.bars [nm]):=rfl;have E:Zq (D.readT nm o n=if D.bars [nm]=0/\D.readOk nm o n=true then ((D.bytes nm).drop o.toNat).take n.toNat else []):=rfl;have J:Zq (D.readOk nm o n=(decide (0<=o) && decide (0<=n) && decide (o+n<=((D.bytes nm).length:Int)))):=rfl;have F:Zq (D.allT nm=if D.bars [nm]=0 then D.bytes nm else []):=rfl;have O:=h.small nm;have R:=ah;have U:=S_toList
 have M:D.bars [nm]=0\/D.bars [nm]=8\/D.bars [nm]=9:=by
  rw [rz]; split
  . exact .inr (.inl rfl)
  . split
    . exact .inl rfl
    . exact .inr (.inr rfl)
 clear h;go_enter Tryz.func74,Tryz.ntmps74;go_wp2_with fail;refine N.o.mono ?_;rintro e w1 ⟨rfl,hb⟩;have I:=zq hb;clear hb N;generalize D.bars [nm]=bz at *
 rcases M with rfl | rfl | rfl
 ·
  rw [if_pos rfl] at F B;rw [F.o];clear F;generalize D.bytes nm=l at *
  generalize D.readOk nm o n=ok at *
  by_cases h1:o < 0
  ·
   have A:ok=false:=by rw [J.o,decide_eq_false (show ¬ 0<=o by omega)]; rfl
   subst A;have d1:decide (o < 0)=true:=decide_eq_true h1;go_wp2_with fail;go_ret2;rw [E.o,B.o];exact ⟨rfl,I.o⟩
  have d1:decide (o < 0)=false:=decide_eq_false h1
  by_cases h2:n < 0
  ·
   have A:ok=false:=by rw [J.o,decide_eq_false (show ¬ 0<=n by omega),Bool.and_false]; rfl
   subst A;have d2:decide (n < 0)=true:=decide_eq_true h2;go_wp2_with fail;go_ret2;rw [E.o,B.o];exact ⟨rfl,I.o⟩
  have d2:decide (n < 0)=false:=decide_eq_false h2
  by_cases h3:(l.length:Int) < o
  ·
   have A:ok=false:=by rw [J.o,decide_eq_false (show ¬ o+n<=(l.length:Int) by omega),Bool.and_false]
   subst A;have d3:decide ((l.length:Int) < o)=true:=decide_eq_true h3;go_wp2_with fail;go_ret2;rw [E.o,B.o];exact ⟨rfl,I.o⟩
  have d3:decide ((l.length:Int) < o)=false:=decide_eq_false h3
  by_cases h4:(l.length:Int) - o < n
  ·
   have A:ok=false:=by rw [J.o,decide_eq_false (show ¬ o+n<=(l.length:Int) by omega),Bool.and_false]
   subst A;have d4:decide ((l.length:Int) - o < n)=true:=decide_eq_true h4;go_wp2_with fail;go_ret2;rw [E.o,B.o];exact ⟨rfl,I.o⟩
  have d4:decide ((l.length:Int) - o < n)=false:=decide_eq_false h4;have A:ok=true:=by rw [J.o,decide_eq_true (show 0<=o by omega),decide_eq_true (show 0<=n by omega),decide_eq_true (show o+n<=(l.length:Int) by omega)]; rfl
  subst A;obtain ⟨o,rfl⟩:=Int.eq_ofNat_of_zero_le (show 0<=o by omega);obtain ⟨n,rfl⟩:=Int.eq_ofNat_of_zero_le (show 0<=n by omega);rw [if_pos ⟨rfl,rfl⟩] at E;go_wp2_with fail;go_ret2;rw [E.o,B.o];refine ⟨?_,I.o⟩;show Ending.returned (.tuple #[.string ((S l).extract o (o+n)),.int .i64 0])=_;rw [akw,Int.toNat_natCast,Int.toNat_natCast]; rfl
 iterate 2
  . go_wp2_with fail
    go_ret2;rw [E.o,B.o];exact ⟨rfl,I.o⟩
def setNow (l:List (List UInt8×FileD)) (n:List UInt8) (t:List UInt8):List (List UInt8×FileD):=l.map λp=>if p.1=n then (p.1,{ p.2 with now:=t }) else p
theorem aap (l:List (List UInt8×FileD)) (n t:List UInt8):(setNow l n t).map (·.1)=l.map (·.1):=by
 unfold setNow; rw [List.map_map]; apply List.map_congr_left; intro p _; show (if p.1=n then _ else p).1=_; split <;> rfl
theorem ah9 (l:List (List UInt8×FileD)) (n t:List UInt8):(setNow l n t).map (·.2.blk)=l.map (·.2.blk):=by
 unfold setNow; rw [List.map_map]; apply List.map_congr_left; intro p _; show (if p.1=n then _ else p).2.blk=_; split <;> rfl
theorem aia (l:List (List UInt8×FileD)) (n t:List UInt8):(setNow l n t).map (λp=>(Value.string (S p.1),Value.pointer (some ⟨p.2.blk,0,none⟩)))=l.map (λp=>(Value.string (S p.1),Value.pointer (some ⟨p.2.blk,0,none⟩))):=by
 unfold setNow; rw [List.map_map]; apply List.map_congr_left; intro p _; show ((Value.string (S (if p.1=n then _ else p).1),Value.pointer (some ⟨(if p.1=n then _ else p).2.blk,0,none⟩)):Value×Value)=_; split <;> rfl
theorem ou {l:List (List UInt8×FileD)} {n t:List UInt8} {q:List UInt8×FileD} (h:q∈setNow l n t):∃ p∈l,q.2.blk=p.2.blk/\q.1=p.1/\q.2.img=p.2.img/\(p.1=n->q.2.now=t)/\(p.1≠n->q=p):=by
 obtain ⟨p,hp,rfl⟩:=List.mem_map.1 h
 by_cases e:p.1=n
 . rw [if_pos e]; exact ⟨p,hp,rfl,rfl,rfl,λ_=>rfl,λh=>absurd e h⟩
 . rw [if_neg e]; exact ⟨p,hp,rfl,rfl,rfl,λh=>absurd h e,λ_=>rfl⟩
theorem adf {l:List (List UInt8×FileD)} {n t:List UInt8} {p:List UInt8×FileD} (h:p∈l):∃ q∈setNow l n t,q.2.blk=p.2.blk :=
 ⟨_,List.mem_map.2 ⟨p,h,rfl⟩,by show (if p.1=n then _ else p).2.blk=_; split <;> rfl⟩
theorem zu:∀ (l:List (List UInt8×FileD)) (n t:List UInt8) (f:FileD),(l.map (·.1)).Nodup->(n,f)∈l->fe (setNow l n t)+f.now.length=fe l+t.length:=by
 intro l
 induction l with
 | nil=>intro n t f _ h; cases h
 | cons x l ih =>
   intro n t f E F;simp only [List.map_cons,List.nodup_cons] at E;have A:∀ (y:List UInt8×FileD) (l:List (List UInt8×FileD)),fe (y :: l)=y.2.now.length+fe l:=λy l=>by unfold fe; simp
   have B:setNow (x :: l) n t=(if x.1=n then (x.1,{ x.2 with now:=t }) else x) :: setNow l n t:=rfl;rw [B,A,A]
   rcases List.mem_cons.1 F with e | F
   ·
    subst e;rw [if_pos rfl]
    have J:setNow l n t=l:=by
     unfold setNow
     conv=>rhs; rw [<- List.map_id l]
     apply List.map_congr_left;intro p hp;rw [if_neg (λe=>E.1 (by rw [<- e]; exact List.mem_map.2 ⟨p,hp,rfl⟩))]; rfl
    rw [J];show t.length+_+_=_;simp only;omega
   . have I:x.1≠n:=λe=>E.1 (by rw [e]; exact List.mem_map.2 ⟨_,F,rfl⟩)
     rw [if_neg I];have:=ih n t f E.2 F;omega
theorem DiskAt.set_now {base:Nat} {w:World} {D:DiskD} (h:DiskAt base w D) {n:List UInt8} {f:FileD} (hf:(n,f)∈D.files) (t:List UInt8) (hfit:((fe (setNow D.files n t):Nat):Int)<=D.cap) :
 DiskAt base (w.setCell ⟨f.blk,1,none⟩ (.string (S t))) { D with files:=setNow D.files n t }/\Mod D.foot w (w.setCell ⟨f.blk,1,none⟩ (.string (S t))):=by
 have Z:Mod (λk=>k=f.blk) w (w.setCell ⟨f.blk,1,none⟩ (.string (S t))):=jm _ _ _ _;have U:Mod D.foot w (w.setCell ⟨f.blk,1,none⟩ (.string (S t))):=Z.mono (λk _ hk=>.inr (.inr (.inl ⟨_,hf,hk⟩)));have key:∀ k,D.foot k->k≠f.blk->(w.setCell ⟨f.blk,1,none⟩ (.string (S t))).heap[k]?=w.heap[k]?:=λk hk B=>Z.block k (h.lt hk) B
 have E:(w.setCell ⟨f.blk,1,none⟩ (.string (S t))).heap[f.blk]?=some (.cells #[.string (S f.img),.string (S t)] 293 (0,0)):=heap_set1 (h.file _ hf) _ rfl;have J:=h.apart.2.1 _ hf;obtain ⟨es,c,m1,m2,m3⟩:=h.map;refine ⟨⟨(key _ (.inl rfl) (λe=>J.1 e.symm)).trans h.head,⟨es,c,(key _ (.inr (.inl rfl)) (λe=>J.2 e.symm)).trans m1,m2,by rw [m3]; exact (aia _ _ _).symm⟩,λq F=>?_,?_,by show ((setNow D.files n t).map (·.1)).Nodup; rw [aap]; exact h.names,by show ((setNow D.files n t).map (·.2.blk)).Nodup; rw [ah9]; exact h.blocks,⟨h.apart.1,λq F=>?_,λk hk=>⟨(h.apart.2.2 k hk).1,(h.apart.2.2 k hk).2.1,λq F=>?_⟩⟩,⟨h.above.1,h.above.2.1,λq F=>?_⟩,h.ints,hfit,λx hx=>by obtain ⟨p,hp,e⟩:=h.waitf x hx; rw [<- e]; exact adf hp⟩,U⟩
 ·
  obtain ⟨p,hp,hb,h1,M,h3,h4⟩:=ou F
  by_cases e:p.1=n
  ·
   have N:p=(n,f):=by
    have h5:=qf D.files h.blocks
    have:∀ (l:List (List UInt8×FileD)),(l.map (·.1)).Nodup->∀ a∈l,∀ b∈l,a.1=b.1->a=b:=by
     intro l
     induction l with
     | nil=>intro _ a X; cases X
     | cons x l ih =>
       intro R a X b hb I;simp only [List.map_cons,List.nodup_cons] at R
       rcases List.mem_cons.1 X with e1 | h1
       . rcases List.mem_cons.1 hb with O | M
         . rw [e1,O]
         . exact absurd (show x.1∈l.map (·.1) from List.mem_map.2 ⟨b,M,by rw [<- e1]; exact I.symm⟩) R.1
       . rcases List.mem_cons.1 hb with O | M
         . exact absurd (show x.1∈l.map (·.1) from List.mem_map.2 ⟨a,h1,by rw [<- O]; exact I⟩) R.1
         . exact ih R.2 a h1 b M I
    exact this _ h.names p hp _ hf e
   have Y:q.2.cells=#[.string (S f.img),.string (S t)]:=by
    show #[Value.string (S q.2.img),Value.string (S q.2.now)]=_;rw [M,h3 e,N]
   rw [hb,Y,N]; exact E
  ·
   rw [h4 e]
   have B:p.2.blk≠f.blk:=λO=>by
    have a1:=qf D.files h.blocks p hp;have a2:=qf D.files h.blocks _ hf;simp only at a2;rw [O,a2] at a1;have:(n,f)=p:=Option.some.inj a1;exact e (by rw [<- this])
   exact (key _ (.inr (.inr (.inl ⟨p,hp,rfl⟩))) B).trans (h.file p hp)
 ·
  refine ⟨h.row.1,?_⟩
  rcases h.row.2 with h0 | ⟨g,cap,cur,e,hb,hg,r⟩
  . exact .inl h0
  . have A:D.wv.ownBlock=some g:=by rw [e]; rfl
    exact .inr ⟨g,cap,cur,e,hb,(key g (.inr (.inr (.inr A))) ((h.apart.2.2 g A).2.2 _ hf)).trans hg,r⟩
 . obtain ⟨p,hp,hb,_⟩:=ou F
   rw [hb]; exact h.apart.2.1 p hp
 . obtain ⟨p,hp,hb,_⟩:=ou F
   rw [hb]; exact (h.apart.2.2 k hk).2.2 p hp
 . obtain ⟨p,hp,hb,_⟩:=ou F
   rw [hb]; exact h.above.2.2 p hp
theorem DiskAt.set_waits {base:Nat} {w w1:World} {D:DiskD} (h:DiskAt base w D) (wv:Value) (ws:List WriteD) (hg:w.grownBy w1 D.wv.ownBlock)
 (hrow:w1.ownsRow base 296 3 wv ws.length (dh ws)) (hfr:∀ k,wv.ownBlock=some k->D.wv.ownBlock=some k\/w.heap.size<=k) (hwf:∀ x∈ws,∃ p∈D.files,p.2.blk=x.blk) :
 DiskAt base (w1.setCell ⟨D.blk,3,none⟩ wv) { D with wv:=wv,waits:=ws }/\Mod D.foot w (w1.setCell ⟨D.blk,3,none⟩ wv):=by
 have A:∀ k,D.foot k->D.wv.ownBlock≠some k->w1.heap[k]?=w.heap[k]?:=λk hk F=>hg.block k (h.lt hk) (λe=>F e.symm)
 have B:∀ k,D.wv.ownBlock=some k->k≠D.blk/\k≠D.mB/\∀ p∈D.files,k≠p.2.blk:=h.apart.2.2;have I:w1.heap[D.blk]?=some (.cells D.head 83 (0,0)):=(A _ (.inl rfl) (λe=>(B _ e).1 rfl)).trans h.head
 have F:∀ k,wv.ownBlock=some k->k≠D.blk/\k≠D.mB/\∀ p∈D.files,k≠p.2.blk:=λk hk=>by
  rcases hfr k hk with e | e
  . exact B k e
  . refine ⟨λJ=>?_,λJ=>?_,λp hp J=>?_⟩
    . have:=h.lt (k:=k) (.inl J); omega
    . have:=h.lt (k:=k) (.inr (.inl J)); omega
    . have:=h.lt (k:=k) (.inr (.inr (.inl ⟨p,hp,J⟩))); omega
 have E:∀ k,k≠D.blk->(w1.setCell ⟨D.blk,3,none⟩ wv).heap[k]?=w1.heap[k]?:=λk hk=>Below.heap_setCell _ _ _ _ (λe=>hk e)
 obtain ⟨es,c,m1,m2,m3⟩:=h.map;refine ⟨⟨heap_set1 I _ rfl,⟨es,c,?_,m2,m3⟩,λp hp=>?_,?_,h.names,h.blocks,⟨h.apart.1,h.apart.2.1,F⟩,h.above,h.ints,h.fits,hwf⟩,?_⟩
 . exact ((E _ (λe=>h.apart.1 e.symm)).trans (A _ (.inr (.inl rfl)) (λe=>(B _ e).2.1 rfl))).trans m1
 . exact ((E _ (h.apart.2.1 p hp).1).trans (A _ (.inr (.inr (.inl ⟨p,hp,rfl⟩))) (λe=>(B _ e).2.2 p hp rfl))).trans (h.file p hp)
 ·
  refine ⟨hrow.1,?_⟩
  rcases hrow.2 with h0 | ⟨g,cap,cur,e,hb,hgg,r⟩
  . exact .inl h0
  . have N:wv.ownBlock=some g:=by rw [e]; rfl
    exact .inr ⟨g,cap,cur,e,hb,(E g (F g N).1).trans hgg,r⟩
 . have h1:Mod D.foot w w1:=⟨hg.os,hg.tape,hg.output,hg.size,λk hk M=>hg.block k hk (λe=>M (.inr (.inr (.inr e.symm))))⟩
   exact h1.setCell (.inl (.inl rfl)) _
theorem ajy (D:DiskD):∃ L Dn,D.burn={ D with left:=L,down:=Dn }:=by
 unfold DiskD.burn
 split
 . exact ⟨-1,true,rfl⟩
 . split
   . exact ⟨D.left - 1,D.down,rfl⟩
   . exact ⟨D.left,D.down,rfl⟩
theorem kg {w:World} {base n sz:Nat} {e:TypeId} {v:Value} {xs:List Value} (h:w.ownsRow base e sz v n xs):∃ a cp,v=.slice a n cp:=by
 rcases h.2 with ⟨rfl,rfl⟩ | ⟨g,cap,cur,rfl,_⟩
 . exact ⟨none,0,rfl⟩
 . exact ⟨_,_,rfl⟩
theorem afh {base:Nat} {w:World} {D:DiskD} (h:DiskAt base w D) (x:WriteD) (hx:∃ p∈D.files,p.2.blk=x.blk) (hwl:D.waits.length<=1048576) (hbase:base<=w.heap.size) :
 ∃ F A,(Builtin.append_ #[81,81] 81 #[D.wv,.slice (some ⟨w.heap.size,0,none⟩) 1 1]).run Tryz.prog (w.alloc (.cells #[.pointer (some ⟨x.blk,0,none⟩),.int .i64 (x.pos:Int),.string (S x.txt)] 296))=.ok F A /\
  DiskAt base (A.setCell ⟨D.blk,3,none⟩ F) { D with wv:=F,waits:=D.waits++[x] }/\Mod D.foot w (A.setCell ⟨D.blk,3,none⟩ F)/\(∃ a cp,F=.slice a (D.waits.length+1) cp) /\
  (∃ u,A.cell? ⟨D.blk,3,none⟩=some u)/\A.frozen? ⟨D.blk,3,none⟩=false/\∀ k,F.ownBlock=some k->D.foot k\/w.heap.size<=k:=by
 have J:Below w.heap.size w (w.alloc (.cells #[.pointer (some ⟨x.blk,0,none⟩),.int .i64 (x.pos:Int),.string (S x.txt)] 296)):=(Below.refl _ _).alloc (Nat.le_refl _) _;have B:=h.below J
 obtain ⟨i0,X,Y,Z,ab⟩:∃ i,Tryz.prog.info? 296=some i/\i.zero=some (.agg #[.pointer none,.int .i64 0,.string ⟨#[]⟩])/\i.size=3/\i.bytes=32:=by
  have:=(show (Tryz.prog.info? 296).map (λi=>(i.zero,i.size,i.bytes))=some (some (.agg #[.pointer none,.int .i64 0,.string ⟨#[]⟩]),3,32) by kernel_rfl)
  cases hh:Tryz.prog.info? 296 with
  | none=>rw [hh] at this; cases this
  | some i=>rw [hh] at this; have N:=Option.some.inj this; exact ⟨i,rfl,congrArg (·.1) N,congrArg (·.2.1) N,congrArg (·.2.2) N⟩
 obtain ⟨F,A,hr,I,O,_,R⟩:=run_append_own_at (P:=Tryz.prog) _ base 81 81 296 i0 (.agg #[.pointer none,.int .i64 0,.string ⟨#[]⟩]) 3 32 Tryz.underlying81 X Y Z ab rfl (by omega) _ _ _ B.row
  ⟨w.heap.size,0,none⟩ 1 1 x.cells rfl (λj u hu=>by
   have U:(⟨w.heap.size,0,none⟩:Addr).add j=⟨w.heap.size,j,none⟩:=by unfold Addr.add; split <;> simp_all
   rw [U,World.cell?_alloc_new]
   match j,hu with
   | 0,hu=>exact hu
   | 1,hu=>exact hu
   | 2,hu=>exact hu
   | j+3,hu=>cases hu) (λu hu=>by
   simp only [WriteD.cells,List.mem_cons,List.not_mem_nil,or_false] at hu
   rcases hu with rfl | rfl | rfl <;> rfl) (by unfold maxLen; omega) (by omega) (Nat.le_trans hbase J.size)
 have ac:dh D.waits++x.cells=dh (D.waits++[x]):=by unfold dh; simp
 have M:A.ownsRow base 296 3 F (D.waits++[x]).length (dh (D.waits++[x])):=by rw [<- ac,List.length_append]; exact I
 have ad:(w.alloc (.cells #[.pointer (some ⟨x.blk,0,none⟩),.int .i64 (x.pos:Int),.string (S x.txt)] 296)).heap.size=w.heap.size+1:=World.size_alloc _ _
 obtain ⟨h1,N⟩:=B.set_waits F (D.waits++[x]) O M (λk hk=>by
  rcases R with e | e
  . exact .inl (e ▸ hk)
  . rw [e] at hk; cases hk; exact .inr (Nat.le_refl _)) (λy hy=>by
  rcases List.mem_append.1 hy with h1 | h1
  . exact h.waitf y h1
  . rw [List.mem_singleton] at h1; subst h1; exact hx)
 have E:A.heap[D.blk]?=some (.cells D.head 83 (0,0)):=(O.block _ (B.lt (.inl rfl)) (λe=>(B.apart.2.2 _ e.symm).1 rfl)).trans B.head;refine ⟨F,A,hr,h1,(Mod.of_below J).trans N,kg I,⟨D.wv,?_⟩,?_,λk hk=>?_⟩
 . unfold World.cell?; rw [show A.heap[(⟨D.blk,3,none⟩:Addr).block]?=_ from E]; rfl
 . unfold World.frozen?; rw [show A.heap[(⟨D.blk,3,none⟩:Addr).block]?=_ from E]; rfl
 . rcases R with e | e
   . exact .inl (.inr (.inr (.inr (e ▸ hk))))
   . rw [e] at hk; cases hk; right; omega
def DiskD.fitB (D:DiskD) (f:FileD) (o:Int) (t:List UInt8):Int:=if o < 0\/(f.now.length:Int) < o then 2 else if D.room < o+(t.length:Int) - (f.now.length:Int) then 7 else 0
def DiskD.writeE (D:DiskD) (n:List UInt8) (o:Int) (t:List UInt8):Int :=
 if D.bars [n]=0 then (match D.find n with | none=>9 | some f=>if D.fitB f o t=0 then D.done else D.fitB f o t) else D.bars [n]
def DiskD.write (D:DiskD) (n:List UInt8) (o:Int) (t:List UInt8) (wv:Value):DiskD :=
 if D.bars [n]=0 then (match D.find n with
  | none=>D
  | some f=>if D.fitB f o t=0 then (if D.left=0\/t=[] then D.burn else { D.burn with files:=setNow D.files n (laidL f.now o.toNat t),wv:=wv,waits:=D.waits++[⟨f.blk,o.toNat,t⟩] }) else D)
 else D
theorem zw {base:Nat} {D:DiskD} (n:List UInt8) (o:Int) (ho : -9223372036854775808<=o/\o<=9223372036854775807) (t:List UInt8) (ht:t.length<=1099511627776) (hwl:D.waits.length<=1048576) (w:World) (h:DiskAt base w D) (hbase:base<=w.heap.size) :
 Calls Tryz.prog 138 #[.pointer (some ⟨D.blk,0,none⟩),.string (S n),.int .i64 o,.string (S t)] w λe w'=>∃ wv,e=.returned (.int .i64 (D.writeE n o t))/\DiskAt base w' (D.write n o t wv)/\Mod D.foot w w'/\∀ k,(D.write n o t wv).foot k->D.foot k\/w.heap.size<=k:=by
 have X:Zq (Below w.heap.size w (w.alloc (.cells #[.string (S n)] 9))):=(Below.refl _ _).alloc (Nat.le_refl _) _;have hd:=h.below X.o;have a7:=zq (yw (some ⟨w.heap.size,0,none⟩) 1 [n] (by simp) _ hd (row_one w n _));have Z:=jw hd n;have c2:(w.alloc (.cells #[.string (S n)] 9)).cell? ⟨D.blk,2,none⟩=some (.map (some D.mB)):=hd.cell 2 _ rfl;have E:=zq hd;have F:Zq (D.writeE n o t=if D.bars [n]=0 then (match D.find n with | none=>9 | some f=>if D.fitB f o t=0 then D.done else D.fitB f o t) else D.bars [n]):=rfl;have B:Zq (∀ wv,D.write n o t wv=if D.bars [n]=0 then (match D.find n with | none=>D | some f=>if D.fitB f o t=0 then (if D.left=0\/t=[] then D.burn else { D.burn with files:=setNow D.files n (laidL f.now o.toNat t),wv:=wv,waits:=D.waits++[⟨f.blk,o.toNat,t⟩] }) else D) else D):=λ_=>rfl
 have cr:=ah;have cs:=S_toList;rw [rz] at a7 F B;have bl:Zq (w.heap.size<=(w.alloc (.cells #[.string (S n)] 9)).heap.size):=X.o.size;clear h hd;go_enter Tryz.func138,Tryz.ntmps138;go_wp2_with fail;refine a7.o.mono ?_;rintro e w1 ⟨rfl,rfl⟩;clear a7;generalize hw1:w.alloc (.cells #[.string (S n)] 9)=w1 at *
 clear hw1
 cases hdn:D.down with
 | true =>
   rw [hdn] at F B;go_wp2_with fail;go_ret;exact ⟨D.wv,by rw [F.o]; rfl,by rw [B.o,if_neg (by simp)]; exact E.o,Mod.of_below X.o,λk hk=>by rw [B.o,if_neg (by simp)] at hk; exact .inl hk⟩
 | false =>
   rw [hdn] at F B;clear hdn
   cases hf:D.find n with
   | none =>
     rw [hf] at F B;go_wp2_with fail;go_ret;exact ⟨D.wv,by rw [F.o]; rfl,by rw [B.o,if_neg (by simp)]; exact E.o,Mod.of_below X.o,λk hk=>by rw [B.o,if_neg (by simp)] at hk; exact .inl hk⟩
   | some f =>
     have ap:=lm hf;have I:=zq ap;have bm:=E.o.now hf;have cv:f.now.length<=16777216:=by have:=E.o.small n; unfold DiskD.bytes at this; rw [hf] at this; exact this
     rw [hf] at F B Z;unfold ry at Z;simp only [Option.map_some] at Z;clear hf ap;replace F:Zq (D.writeE n o t=if D.fitB f o t=0 then D.done else D.fitB f o t):=by show _=_; rw [F.o,if_pos (by simp)]
     replace B:Zq (∀ wv,D.write n o t wv=if D.fitB f o t=0 then (if D.left=0\/t=[] then D.burn else { D.burn with files:=setNow D.files n (laidL f.now o.toNat t),wv:=wv,waits:=D.waits++[⟨f.blk,o.toNat,t⟩] }) else D):=λwv=>by rw [B.o,if_pos (by simp)]
     have ab:Zq (D.fitB f o t=if o < 0\/(f.now.length:Int) < o then 2 else if D.room < o+(t.length:Int) - (f.now.length:Int) then 7 else 0):=rfl
     by_cases h1:o < 0
     . have J:D.fitB f o t=2:=by rw [ab.o,if_pos (.inl h1)]
       have d1:decide (o < 0)=true:=decide_eq_true h1;rw [J] at F B;clear J;go_wp2_with fail;go_ret;exact ⟨D.wv,by rw [F.o]; rfl,by rw [B.o,if_neg (by decide)]; exact E.o,Mod.of_below X.o,λk hk=>by rw [B.o,if_neg (by decide)] at hk; exact .inl hk⟩
     have d1:decide (o < 0)=false:=decide_eq_false h1
     by_cases h2:(f.now.length:Int) < o
     . have J:D.fitB f o t=2:=by rw [ab.o,if_pos (.inr h2)]
       have d2:decide ((f.now.length:Int) < o)=true:=decide_eq_true h2;rw [J] at F B;clear J;go_wp2_with fail;go_ret;exact ⟨D.wv,by rw [F.o]; rfl,by rw [B.o,if_neg (by decide)]; exact E.o,Mod.of_below X.o,λk hk=>by rw [B.o,if_neg (by decide)] at hk; exact .inl hk⟩
     obtain ⟨o,rfl⟩:=Int.eq_ofNat_of_zero_le (show 0<=o by omega);have cx:o<=f.now.length:=by omega
     have d2:decide (f.now.length < o)=false:=decide_eq_false (by omega);have cd:0<=D.room:=by have:=E.o.fits; show (0:Int)<=D.cap - (D.size:Int); omega
     have b8:D.room<=16777216:=by have:=E.o.ints; show D.cap - (D.size:Int)<=_; omega
     have cy:IntKind.i64.wrap ((o:Int)+(t.length:Int))=(o:Int)+(t.length:Int):=IntWalk.i64_in _ (by omega);have c6:IntKind.i64.wrap ((o:Int)+(t.length:Int) - (f.now.length:Int))=(o:Int)+(t.length:Int) - (f.now.length:Int):=IntWalk.i64_in _ (by omega)
     have ac:Zq (∀ w2,Ext w1.drew w2->w2.cell? ⟨f.blk,1,none⟩=some (.string (S f.now))):=λw2 N=>by
      have ce:=E.o.below ((Below.refl _ _).drew.trans N);have:=ce.file _ I.o;unfold World.cell?; rw [show w2.heap[(⟨f.blk,1,none⟩:Addr).block]?=_ from this]; rfl
     have ar:¬ ((o:Int) < 0\/(f.now.length:Int) < (o:Int)):=by omega
     by_cases h3:D.room < (o:Int)+(t.length:Int) - (f.now.length:Int)
     ·
      have J:D.fitB f o t=7:=by rw [ab.o,if_neg ar,if_pos h3]
      have d3:decide (D.room < (o:Int)+(t.length:Int) - (f.now.length:Int))=true:=decide_eq_true h3;have d4:decide ((f.now.length:Int) < (o:Int)+(t.length:Int))=true:=decide_eq_true (by omega);rw [J] at F B;clear J;go_upto_region 7 with fail
      refine Grow.ja 26 [none,none,none,none,none,none,none,some (.inl (.string (S f.now))),none,none,none,some (.inl (.int .i64 D.room)),some (.inl (.bool true)),some (.inl (.bool true)),none,none,none,none,none,none,none,some (.inl (.string (S f.now))),none,none,none,none] Ext (by kernel_rfl) (by kernel_rfl) (by kernel_rfl) Ext.refl (λ_ _ _=>Ext.trans) ?_ ?_
      . intro K hK Y hY v w w' hR h
        simp only [List.mem_cons,List.not_mem_nil,or_false] at hK
        rcases hK with rfl | rfl | rfl | rfl | rfl | rfl | rfl | rfl | rfl | rfl | rfl | rfl | rfl | rfl | rfl | rfl | rfl | rfl | rfl | rfl | rfl | rfl | rfl | rfl | rfl | rfl <;> simp only [reduceCtorEq,Option.some.injEq,Sum.inr.injEq] at hY
      simp only [List.take_succ_cons,List.take_zero,List.drop_succ_cons,List.drop_zero]
      iterate 7
       refine Grow.g_det rfl ?_;apply Exists.intro;refine ⟨λw2 N A=>?_,?_⟩
       . clear A
         go_simp;exact ⟨rfl,Ext.refl _⟩
       go_frame
      refine Grow.g_con rfl (λw2 N A=>?_) ?_
      . clear A
        have c1:=ac.o w2 N;go_simp
        all_goals exact Ext.refl _
      iterate 3
       go_frame;refine Grow.g_det rfl ?_;apply Exists.intro;refine ⟨λw2 N A=>?_,?_⟩
       . clear A
         go_simp;exact ⟨rfl,Ext.refl _⟩
      go_frame;refine Grow.g_con rfl (λw2 N A=>?_) ?_
      . clear A
        go_simp;exact (room_any w2 (E.o.below ((Below.refl _ _).drew.trans N))).mono λe w3 h=>⟨_,h.1,rfl,h.2⟩
      iterate 2
       go_frame;refine Grow.g_con rfl (λw2 N A=>?_) ?_
       . clear A
         go_simp
         all_goals exact Ext.refl _
      iterate 7
       go_frame;refine Grow.g_det rfl ?_;apply Exists.intro;refine ⟨λw2 N A=>?_,?_⟩
       . clear A
         go_simp;exact ⟨rfl,Ext.refl _⟩
      go_frame;refine Grow.g_con rfl (λw2 N A=>?_) ?_
      . clear A
        have c1:=ac.o w2 N;go_simp
        all_goals exact Ext.refl _
      iterate 4
       go_frame;refine Grow.g_det rfl ?_;apply Exists.intro;refine ⟨λw2 N A=>?_,?_⟩
       . clear A
         go_simp;exact ⟨rfl,Ext.refl _⟩
      go_frame;refine Grow.g_nil λw3 O A=>?_
      clear A;refine wpList_nil ?_;have ad:=zq (X.o.trans (((Below.refl w1.heap.size w1).drew.trans O).mono bl.o));have ak:=zq (E.o.below ((Below.refl _ _).drew.trans O));clear O;go_wp2_with fail;go_ret;exact ⟨D.wv,by rw [F.o]; rfl,by rw [B.o,if_neg (by decide)]; exact ak.o,Mod.of_below ad.o,λk hk=>by rw [B.o,if_neg (by decide)] at hk; exact .inl hk⟩
     ·
      have J:D.fitB f o t=0:=by rw [ab.o,if_neg ar,if_neg h3]
      have d3:decide (D.room < (o:Int)+(t.length:Int) - (f.now.length:Int))=false:=decide_eq_false h3;rw [J] at F B;clear J;have H3:=zq h3;clear h3;go_upto_region 7 with fail
      refine Grow.ja 26 [none,none,none,none,none,none,none,some (.inl (.string (S f.now))),none,none,none,some (.inl (.int .i64 D.room)),some (.inl (.bool false)),some (.inl (.bool false)),none,none,none,none,none,none,none,none,none,none,some (.inl (.bool false)),some (.inl (.bool false))] Ext (by kernel_rfl) (by kernel_rfl) (by kernel_rfl) Ext.refl (λ_ _ _=>Ext.trans) ?_ ?_
      . intro K hK Y hY v w w' hR h
        simp only [List.mem_cons,List.not_mem_nil,or_false] at hK
        rcases hK with rfl | rfl | rfl | rfl | rfl | rfl | rfl | rfl | rfl | rfl | rfl | rfl | rfl | rfl | rfl | rfl | rfl | rfl | rfl | rfl | rfl | rfl | rfl | rfl | rfl | rfl <;> simp only [reduceCtorEq,Option.some.injEq,Sum.inr.injEq] at hY
      simp only [List.take_succ_cons,List.take_zero,List.drop_succ_cons,List.drop_zero]
      iterate 7
       refine Grow.g_det rfl ?_;apply Exists.intro;refine ⟨λw2 N A=>?_,?_⟩
       . clear A
         go_simp;exact ⟨rfl,Ext.refl _⟩
       go_frame
      refine Grow.g_con rfl (λw2 N A=>?_) ?_
      . clear A
        have c1:=ac.o w2 N;go_simp
        all_goals exact Ext.refl _
      iterate 3
       go_frame;refine Grow.g_det rfl ?_;apply Exists.intro;refine ⟨λw2 N A=>?_,?_⟩
       . clear A
         go_simp;exact ⟨rfl,Ext.refl _⟩
      go_frame;refine Grow.g_con rfl (λw2 N A=>?_) ?_
      . clear A
        go_simp;exact (room_any w2 (E.o.below ((Below.refl _ _).drew.trans N))).mono λe w3 h=>⟨_,h.1,rfl,h.2⟩
      iterate 2
       go_frame;refine Grow.g_con rfl (λw2 N A=>?_) ?_
       . clear A
         go_simp
         all_goals exact Ext.refl _
      iterate 10
       go_frame;apply Grow.g_skip
       . kernel_rfl
      iterate 2
       go_frame;refine Grow.g_con rfl (λw2 N A=>?_) ?_
       . clear A
         go_simp
         all_goals exact Ext.refl _
      go_frame;refine Grow.g_nil λw3 O A=>?_
      clear A;refine wpList_nil ?_;have ad:=zq (X.o.trans (((Below.refl w1.heap.size w1).drew.trans O).mono bl.o));have ak:=zq (E.o.below ((Below.refl _ _).drew.trans O));clear O;have a8:=zq (aa7 w3 ak.o);replace F:Zq (D.writeE n (o:Int) t=D.done):=by show _=_; rw [F.o,if_pos (by simp)]
      replace B:Zq (∀ wv,D.write n (o:Int) t wv=if D.left=0\/t=[] then D.burn else { D.burn with files:=setNow D.files n (laidL f.now o t),wv:=wv,waits:=D.waits++[⟨f.blk,o,t⟩] }):=λwv=>by rw [B.o,if_pos (by simp),Int.toNat_natCast]
      obtain ⟨L,Dn,ba⟩:=ajy D;rw [ba] at a8 B;have da:=zq ba;clear ba;go_wp2_with fail;refine a8.o.mono ?_;rintro e w4 ⟨rfl,bp,br⟩;have U:=zq bp;have al:Zq (Mod D.foot w w4):=(Mod.of_below ad.o).trans ((Mod.below_foot br).mono (λ_ _ h=>h));have db:Zq (w.heap.size<=w4.heap.size):=al.o.size;clear bp br a8 ak ad ac
      by_cases h0:D.left=0
      . have M:D.done=8:=if_pos h0
        rw [M] at F ⊢;clear M;go_wp2_with fail;go_ret;exact ⟨D.wv,by rw [F.o]; rfl,by rw [B.o,if_pos (.inl h0)]; exact U.o,al.o,λk hk=>by rw [B.o,if_pos (.inl h0)] at hk; exact .inl hk⟩
      have M:D.done=0:=if_neg h0;rw [M] at F ⊢;clear M
      by_cases ht0:t=[]
      . subst ht0
        go_wp2_with fail;go_ret;exact ⟨D.wv,by rw [F.o]; rfl,by rw [B.o,if_pos (.inr trivial)]; exact U.o,al.o,λk hk=>by rw [B.o,if_pos (.inr trivial)] at hk; exact .inl hk⟩
      have dc:t.isEmpty=false:=by cases t with
       | nil=>exact absurd rfl ht0
       | cons _ _=>rfl
      have bs:¬ (D.left=0\/t=[]):=λh=>h.elim h0 ht0
      have bb:w4.cell? ⟨f.blk,1,none⟩=some (.string (S f.now)):=by
       have:=U.o.file (n,f) I.o;unfold World.cell?; rw [show w4.heap[(⟨f.blk,1,none⟩:Addr).block]?=_ from this]; rfl
      have bw:=zq (λw=>am3 f.now o t (by omega) (by omega) ht w);clear bm Z c2 E X d1 d2 d3;go_wp2_with fail;refine (bw.o _).mono ?_;rintro e w5 ⟨rfl,bd⟩;clear bw bb;have am:=U.o.below bd;have cg:Zq (Mod D.foot w w5):=al.o.trans (Mod.of_below bd)
      have ci:Zq ((laidL f.now o t).length=max f.now.length (o+t.length)):=by
       show _=_;unfold laidL;rw [if_neg ht0,qg _ _ _ (by simp; omega)];simp; omega
      have a1:((fe (setNow D.files n (laidL f.now o t)):Nat):Int)<=D.cap:=by
       have h1:=zu D.files n (laidL f.now o t) f U.o.names I.o;have h2:=ci.o;have h3:=H3.o;have h4:D.room=D.cap - (D.size:Int):=rfl;have h5:D.size=fe D.files:=rfl;rw [h4,h5] at h3;omega
      have bh:w5.cell? ⟨f.blk,1,none⟩=some (.string (S f.now)):=by
       have:=am.file (n,f) I.o;unfold World.cell?; rw [show w5.heap[(⟨f.blk,1,none⟩:Addr).block]?=_ from this]; rfl
      have bz:w5.frozen? ⟨f.blk,1,none⟩=false:=by
       have:=am.file (n,f) I.o;unfold World.frozen?; rw [show w5.heap[(⟨f.blk,1,none⟩:Addr).block]?=_ from this]; rfl
      obtain ⟨b0,b1⟩:=am.set_now (n:=n) (f:=f) I.o (laidL f.now o t) a1;have bj:Zq (Mod D.foot w (w5.setCell ⟨f.blk,1,none⟩ (.string (S (laidL f.now o t))))):=cg.o.trans b1;have an:=zq b0;clear b0 b1 am a1;go_upto_region 14 with fail
      clear bh bz bd;generalize w5.setCell ⟨f.blk,1,none⟩ (.string (S (laidL f.now o t)))=w6 at *
      obtain ⟨v',w8,hr,b2,b3,⟨a',b4,bk⟩,⟨u3,b5⟩,a6,b6⟩:=afh an.o ⟨f.blk,o,t⟩ (adf I.o) hwl (Nat.le_trans hbase bj.o.size);obtain ⟨aw,cw,R⟩:=kg an.o.row;replace R:D.wv=.slice aw D.waits.length cw:=R
      have c3:(w6.alloc (.cells #[.pointer (some ⟨f.blk,0,none⟩),.int .i64 (o:Int),.string (S t)] 296)).cell? ⟨D.blk,3,none⟩=some (.slice aw D.waits.length cw):=by
       have h1:Below w6.heap.size w6 (w6.alloc (.cells #[.pointer (some ⟨f.blk,0,none⟩),.int .i64 (o:Int),.string (S t)] 296)):=(Below.refl w6.heap.size w6).alloc (Nat.le_refl _) _;exact (an.o.below h1).cell 3 _ (by show some D.wv=_; rw [R])
      have dj:w6.cell? ⟨D.blk,3,none⟩=some (.slice aw D.waits.length cw):=an.o.cell 3 _ (by show some D.wv=_; rw [R]);have b7:(Builtin.append_ #[81,81] 81 #[.slice aw D.waits.length cw,.slice (some ⟨w6.heap.size,0,none⟩) 1 1]).run Tryz.prog (w6.alloc (.cells #[.pointer (some ⟨f.blk,0,none⟩),.int .i64 (o:Int),.string (S t)] 296))=.ok v' w8:=by rw [<- R]; exact hr
      have ao:∀ k,(∃ p∈setNow D.files n (laidL f.now o t),k=p.2.blk)->(∃ p∈D.files,k=p.2.blk):=λk ⟨p,hp,hk⟩=>by
       obtain ⟨q,hq,hb,_⟩:=ou hp;exact ⟨q,hq,hk.trans hb⟩
      have cj:Zq (Mod D.foot w (w8.setCell ⟨D.blk,3,none⟩ v')):=bj.o.trans (b3.mono (λk _ hk=>by
       rcases hk with h | h | h | h
       . exact .inl h
       . exact .inr (.inl h)
       . exact .inr (.inr (.inl (ao k h)))
       . exact .inr (.inr (.inr h))))
      have ck:Zq (∀ k,v'.ownBlock=some k->D.foot k\/w.heap.size<=k):=λk hk=>by
       rcases b6 k hk with h | h
       . rcases h with h | h | h | h
         . exact .inl (.inl h)
         . exact .inl (.inr (.inl h))
         . exact .inl (.inr (.inr (.inl (ao k h))))
         . exact .inl (.inr (.inr (.inr h)))
       . exact .inr (Nat.le_trans bj.o.size h)
      have cm:=zq ao;have cn:=zq b2;have co:=zq b7;replace b5:w8.cell? ⟨D.blk,3,none⟩=some u3:=b5;replace a6:w8.frozen? ⟨D.blk,3,none⟩=false:=a6;replace bk:v'=.slice a' (D.waits.length+1) b4:=bk;clear b7 b2 b3 hr b6 R ao;subst bk;go_wp2_with (at_builtin; refine Lib.wpList_append_run _ rfl (.tmp 84) (.tmp 89) 81 81 rfl _ _ rfl rfl _ _ co.o ?_);go_ret;refine ⟨by rw [F.o]; rfl,Value.slice a' (D.waits.length+1) b4,?_,cj.o,λk hk=>?_⟩
      . rw [B.o,if_neg bs]; exact cn.o
      rw [B.o,if_neg bs] at hk
      rcases hk with h | h | h | h
      . exact .inl (.inl h)
      . exact .inl (.inr (.inl h))
      . exact .inl (.inr (.inr (.inl (cm.o k h))))
      . exact ck.o k h
/-! the writes of one file go out of the row -/
theorem aca (fb k:Nat) (p:Nat) (bx:Nat) (t:List UInt8) (w:World) (hc:w.cell? ⟨bx,0,none⟩=some (.pointer (some ⟨fb,0,none⟩))) {ca cb:Array Value} {ta tb:TypeId} (hk:w.heap[k]?=some (.cells ca ta (0,0))) (hf:w.heap[fb]?=some (.cells cb tb (0,0))) :
 Calls Tryz.prog 245 #[.agg #[.pointer (some ⟨k,0,none⟩),.int .i64 (p:Int),.string (S t)],.pointer (some ⟨bx,0,none⟩)] w λe w'=>e=.returned (.bool (decide (k=fb)))/\Below w.heap.size w w':=by
 have hb:Zq (Below w.heap.size w (w.alloc (.cells #[.pointer (some ⟨k,0,none⟩),.int .i64 (p:Int),.string (S t)] 296))):=(Below.refl _ _).alloc (Nat.le_refl _) _;have I:(w.alloc (.cells #[.pointer (some ⟨k,0,none⟩),.int .i64 (p:Int),.string (S t)] 296)).cell? ⟨bx,0,none⟩=some (.pointer (some ⟨fb,0,none⟩)):=by rw [hb.o.cell (bq hc)]; exact hc
 have B:=(hb.o.block k (Array.getElem?_eq_some_iff.1 hk).1).trans hk;have E:=(hb.o.block fb (Array.getElem?_eq_some_iff.1 hf).1).trans hf
 obtain ⟨i0,A,F⟩:∃ i,Tryz.prog.info? 293=some i/\i.size=2:=by
  have:=(show (Tryz.prog.info? 293).map (λi=>i.size)=some 2 by kernel_rfl)
  cases hh:Tryz.prog.info? 293 with
  | none=>rw [hh] at this; cases this
  | some i=>rw [hh] at this; exact ⟨i,rfl,Option.some.inj this⟩
 have J:(binOp .eql 261 (.pointer (some ⟨k,0,none⟩)) (.pointer (some ⟨fb,0,none⟩))).run Tryz.prog (w.alloc (.cells #[.pointer (some ⟨k,0,none⟩),.int .i64 (p:Int),.string (S t)] 296))=.ok (.bool (decide (k=fb))) (w.alloc (.cells #[.pointer (some ⟨k,0,none⟩),.int .i64 (p:Int),.string (S t)] 296)):=by
  by_cases e:k=fb
  . subst e
    rw [decide_eq_true rfl];exact run_eql_ptr_same _ _ Tryz.underlying261 A
  . rw [decide_eq_false e]
    exact run_eql_ptr_other _ Tryz.underlying261 A (by omega) (λq=>e (congrArg Addr.block q)) B E
 clear hc hk hf B E A F;generalize decide (k=fb)=bb at *
 go_enter Tryz.func245,Tryz.ntmps245;go_wp2_with fail;go_ret;exact ⟨rfl,hb.o⟩
def RowW (w:World) (a:Option Addr) (ws:List WriteD):Prop:=∀ (k:Nat) (h:k < ws.length),∃ g,a=some ⟨g,0,none⟩/\g < w.heap.size/\w.cell? ⟨g,k * 3,none⟩=some (.pointer (some ⟨ws[k].blk,0,none⟩))/\w.cell? ⟨g,k * 3+1,none⟩=some (.int .i64 (ws[k].pos:Int))/\w.cell? ⟨g,k * 3+2,none⟩=some (.string (S ws[k].txt))
theorem RowW.below {w w':World} {a:Option Addr} {ws:List WriteD} (h:RowW w a ws) (hb:Below w.heap.size w w'):RowW w' a ws:=by
 intro k hk;obtain ⟨g,e,A,h1,B,E⟩:=h k hk;exact ⟨g,e,Nat.lt_of_lt_of_le A hb.size,by rw [hb.cell A]; exact h1,by rw [hb.cell A]; exact B,by rw [hb.cell A]; exact E⟩
structure Seen (w:World) (bx fb:Nat) (ws:List WriteD):Prop where
 box:w.cell? ⟨bx,0,none⟩=some (.pointer (some ⟨fb,0,none⟩))
 file:∃ ca ta,w.heap[fb]?=some (.cells ca ta (0,0))
 all:∀ x∈ws,∃ ca ta,w.heap[x.blk]?=some (.cells ca ta (0,0))
theorem Seen.below {w w':World} {bx fb:Nat} {ws:List WriteD} (h:Seen w bx fb ws) (hb:Below w.heap.size w w'):Seen w' bx fb ws:=by
 refine ⟨by rw [hb.cell (bq h.box)]; exact h.box,?_,λx F=>?_⟩
 . obtain ⟨B,E,A⟩:=h.file
   exact ⟨B,E,(hb.block _ (Array.getElem?_eq_some_iff.1 A).1).trans A⟩
 . obtain ⟨B,E,A⟩:=h.all x F
   exact ⟨B,E,(hb.block _ (Array.getElem?_eq_some_iff.1 A).1).trans A⟩
def abu (fb:Nat):List WriteD->Nat->Int
 | [],_ => -1
 | x :: l,i=>if x.blk=fb then (i:Int) else abu fb l (i+1)
theorem af6 (fb:Nat):∀ (ws:List WriteD) (k i:Nat) (h:k < ws.length),(∀ j (A:j < k),(ws[j]'(by omega)).blk≠fb)->ws[k].blk=fb->abu fb ws i=((i+k:Nat):Int)
 | x :: l,0,i,h,_,he=>by show (if x.blk=fb then (i:Int) else _)=_; rw [if_pos (show x.blk=fb from he)]; rfl
 | x :: l,k+1,i,h,hn,he=>by
   show (if x.blk=fb then (i:Int) else abu fb l (i+1))=_;rw [if_neg (show ¬ x.blk=fb from hn 0 (by omega)),af6 fb l k (i+1) (by simpa using h) (λj A=>hn (j+1) (by omega)) he];congr 1; omega
theorem aes (fb:Nat):∀ (ws:List WriteD) (i:Nat),(∀ x∈ws,x.blk≠fb)->abu fb ws i = -1
 | [],_,_=>rfl
 | x :: l,i,h=>by show (if x.blk=fb then (i:Int) else abu fb l (i+1))=_; rw [if_neg (h x (.head _)),aes fb l (i+1) (λy A=>h y (.tail _ A))]
theorem aet (a:Option Addr) (cp:Nat) (ws:List WriteD) (M:ws.length<=1048576) (bx fb:Nat) (w:World) (hr:RowW w a ws) (hs:Seen w bx fb ws) :
 Calls Tryz.prog 244 #[.slice a ws.length cp,.func (.func 245) #[] #[.pointer (some ⟨bx,0,none⟩)]] w λe w'=>e=.returned (.int .i64 (abu fb ws 0))/\Below w.heap.size w w':=by
 have Z:=zq hr;have N:=zq hs;clear hr hs;go_enter Tryz.func244,Tryz.ntmps244;go_wp2_with fail;go_loopw [8] (λi wr=>∃ k:Nat,k<=ws.length/\i=.int .i64 (k:Int)/\Zq (∀ x∈ws.take k,x.blk≠fb)/\Zq (Below w.heap.size w wr)) (λi _=>ws.length+1 - (intOf i).toNat)
 case atStart=>exact ⟨0,by omega,rfl,λx M=>by simp at M,Below.refl _ _⟩
 case round =>
  obtain ⟨k,hk,rfl,O,B⟩:=hrel
  by_cases hlt:k < ws.length
  ·
   obtain ⟨g,rfl,ab,h1,X,Y⟩:=(Z.o.below B.o) k hlt;obtain ⟨ca,ta,I⟩:=(N.o.below B.o).all ws[k] (List.getElem_mem hlt);obtain ⟨cb,tb,J⟩:=(N.o.below B.o).file;have A:=zq (aca fb ws[k].blk ws[k].pos bx ws[k].txt wr (N.o.below B.o).box I J);clear I J;have E:ws.take (k+1)=ws.take k++[ws[k]]:=List.take_succ_eq_append_getElem hlt
   by_cases he:ws[k].blk=fb
   ·
    have R:Zq (abu fb ws 0=(k:Int)):=by
     show _=_;rw [af6 fb ws k 0 hlt (λj hj=>O.o _ (List.mem_take_iff_getElem.2 ⟨j,by omega,rfl⟩)) he,Nat.zero_add]
    rw [decide_eq_true he] at A;clear E he;go_wp2_with fail;refine A.o.mono ?_;rintro e w2 ⟨rfl,hb⟩;have F:=zq (B.o.trans (hb.mono B.o.size));clear hb A h1 X Y;go_wp2_with fail;go_ret;rw [R.o];exact ⟨rfl,F.o⟩
   ·
    have U:Zq (∀ x∈ws.take (k+1),x.blk≠fb):=by
     show ∀ x∈ws.take (k+1),x.blk≠fb
     rw [E];intro x M
     rcases List.mem_append.1 M with h | h
     . exact O.o x h
     . rw [List.mem_singleton] at h; subst h; exact he
    rw [decide_eq_false he] at A;clear E he;go_wp2_with fail;refine A.o.mono ?_;rintro e w2 ⟨rfl,hb⟩;have F:=zq (B.o.trans (hb.mono B.o.size));clear hb A h1 X Y;go_wp2_with fail;go_roundw
    case rel=>exact ⟨k+1,by omega,by go_num,U,F⟩
    case measure=>simp [intOf]; omega
  ·
   obtain rfl:k=ws.length:=by omega
   have R:Zq (abu fb ws 0 = -1):=by
    show _=_;have:=O.o;rw [List.take_length] at this;exact aes fb ws 0 this
   go_wp2_with fail;go_ret;rw [R.o];exact ⟨rfl,B.o⟩
theorem uj (x:WriteD) (l:List WriteD):dh (x :: l)=x.cells++dh l:=rfl
theorem aib (a b:List WriteD):dh (a++b)=dh a++dh b:=by unfold dh; simp
theorem adg:∀ (l:List WriteD) (k r:Nat) (h:k < l.length),r < 3->(dh l)[k * 3+r]?=(l[k]).cells[r]?
 | x :: l,0,r,_,hr=>by
   rw [uj,Nat.zero_mul,Nat.zero_add,List.getElem?_append_left (by show r < 3; omega)]; rfl
 | x :: l,k+1,r,h,hr=>by
   have A:(k+1) * 3+r=3+(k * 3+r):=by omega
   rw [uj,A,List.getElem?_append_right (by show 3<=_; omega)];have:3+(k * 3+r) - x.cells.length=k * 3+r:=by show 3+(k * 3+r) - 3=_; omega
   rw [this];exact adg l k r (by simpa using h) hr
theorem adh:∀ (l:List WriteD) (k:Nat) (x:WriteD),k < l.length ->
 (((dh l).set (k * 3) (.pointer (some ⟨x.blk,0,none⟩))).set (k * 3+1) (.int .i64 (x.pos:Int))).set (k * 3+2) (.string (S x.txt))=dh (l.set k x)
 | y :: l,0,x,_=>rfl
 | y :: l,k+1,x,h=>by
   have A:=adh l k x (by simpa using h);have B:(k+1) * 3=k * 3+1+1+1:=by omega
   have E:(k+1) * 3+1=(k * 3+1)+1+1+1:=by omega
   have F:(k+1) * 3+2=(k * 3+2)+1+1+1:=by omega
   rw [E,F,B,uj,List.set_cons_succ,uj];show ((((Value.pointer (some ⟨y.blk,0,none⟩) :: .int .i64 (y.pos:Int) :: .string (S y.txt) :: dh l).set (k * 3+1+1+1) _).set (k * 3+1+1+1+1) _).set (k * 3+2+1+1+1) _)=_;simp only [List.set_cons_succ];rw [A]; rfl
def Row3 (w:World) (g:Nat) (cur:List WriteD) (rest:List Value):Prop:=w.heap[g]?=some (.cells (dh cur++rest).toArray 296 (0,0))
theorem Row3.cell {w:World} {g:Nat} {cur:List WriteD} {rest:List Value} (h:Row3 w g cur rest) (k r:Nat) (hk:k < cur.length) (hr:r < 3):w.cell? ⟨g,k * 3+r,none⟩=(cur[k]).cells[r]?:=by
 unfold World.cell?;rw [show w.heap[(⟨g,k * 3+r,none⟩:Addr).block]?=_ from h];show (dh cur++rest).toArray[k * 3+r]?=_;have A:k * 3+r < (dh cur).length:=by rw [jq]; omega
 rw [List.getElem?_toArray,List.getElem?_append_left A];exact adg cur k r hk hr
theorem Row3.frozen {w:World} {g:Nat} {cur:List WriteD} {rest:List Value} (h:Row3 w g cur rest) (i:Nat):w.frozen? ⟨g,i,none⟩=false:=by
 unfold World.frozen?; rw [show w.heap[(⟨g,i,none⟩:Addr).block]?=_ from h]; rfl
theorem Row3.rowW {w:World} {g:Nat} {cur:List WriteD} {rest:List Value} (h:Row3 w g cur rest):RowW w (some ⟨g,0,none⟩) cur:=λk hk =>
 ⟨g,rfl,(Array.getElem?_eq_some_iff.1 h).1,h.cell k 0 hk (by omega),h.cell k 1 hk (by omega),h.cell k 2 hk (by omega)⟩
theorem Row3.below {w w':World} {g:Nat} {cur:List WriteD} {rest:List Value} (h:Row3 w g cur rest) (hb:Below w.heap.size w w'):Row3 w' g cur rest :=
 (hb.block g (Array.getElem?_eq_some_iff.1 h).1).trans h
theorem Row3.put {w:World} {g:Nat} {cur:List WriteD} {rest:List Value} (h:Row3 w g cur rest) (k:Nat) (hk:k < cur.length) (x:WriteD) :
 Row3 (((w.setCell ⟨g,k * 3,none⟩ (.pointer (some ⟨x.blk,0,none⟩))).setCell ⟨g,k * 3+1,none⟩ (.int .i64 (x.pos:Int))).setCell ⟨g,k * 3+2,none⟩ (.string (S x.txt))) g (cur.set k x) rest:=by
 have A:(dh cur).length=cur.length * 3:=jq cur;refine (heap_setCell_same _ g (k * 3+2) _ _ _ (heap_setCell_same _ g (k * 3+1) _ _ _ (heap_setCell_same w g (k * 3) _ _ _ h))).trans ?_;rw [<- adh cur k x hk];simp only [List.setIfInBounds_toArray];congr 3;rw [List.set_append_left _ _ (by omega),List.set_append_left _ _ (by rw [List.length_set]; omega),List.set_append_left _ _ (by rw [List.length_set,List.length_set]; omega)]
theorem afi {w:World} {g:Nat} {cur:List WriteD} {rest:List Value} (h:Row3 w g cur rest) (i:Nat) (hi:i<=cur.length) (c:Nat) (ty:TypeId) :
 ∃ w',(Builtin.clear_ #[81] ty #[.slice (some ⟨g,i * 3,none⟩) (cur.length - i) c]).run Tryz.prog w=.ok (.tuple #[]) w'/\(∃ cs,w'.heap[g]?=some (.cells cs 296 (0,0))/\cs.size=(dh cur++rest).length/\cs.toList.take (i * 3)=dh (cur.take i))/\Mod (λk=>k=g) w w':=by
 have hl:(dh cur).length=cur.length * 3:=jq cur
 have F:∀ (rest:List Value),(dh cur++rest).take (i * 3)=dh (cur.take i):=by
  intro rest;have h1:dh cur=dh (cur.take i)++dh (cur.drop i):=by rw [<- aib,List.take_append_drop]
  have Y:(dh (cur.take i)).length=i * 3:=by rw [jq,List.length_take]; omega
  rw [h1,List.append_assoc];rw [<- Y]; exact List.take_left
 have hu:=Tryz.underlying81
 by_cases h0:cur.length - i=0
 . refine ⟨w,?_,⟨_,h,by simp,by rw [List.toList_toArray]; exact F rest⟩,Mod.refl _ _⟩
   rw [h0];simp [Builtin.clear_,run_underlying hu]
 ·
  obtain ⟨i0,J,M⟩:∃ i,Tryz.prog.info? 296=some i/\i.zero=some (.agg #[.pointer none,.int .i64 0,.string ⟨#[]⟩]):=by
   have:=(show (Tryz.prog.info? 296).map (λi=>i.zero)=some (some (.agg #[.pointer none,.int .i64 0,.string ⟨#[]⟩])) by kernel_rfl)
   cases hh:Tryz.prog.info? 296 with
   | none=>rw [hh] at this; cases this
   | some i=>rw [hh] at this; exact ⟨i,rfl,Option.some.inj this⟩
  have B:(Builtin.zeroCells #[.pointer none,.int .i64 0,.string ⟨#[]⟩] (cur.length - i)).toList.length=(cur.length - i) * 3:=by
   rw [Array.length_toList,size_zeroCells]; rfl
  have I:∀ v∈(Builtin.zeroCells #[.pointer none,.int .i64 0,.string ⟨#[]⟩] (cur.length - i)).toList,v.oneCell'=true:=by
   intro v X;simp only [Builtin.zeroCells,Array.toList_map,List.mem_map] at X;obtain ⟨j,_,rfl⟩:=X;have:j % 3 < 3:=Nat.mod_lt _ (by omega);show Value.oneCell' (#[Value.pointer none,.int .i64 0,.string ⟨#[]⟩][j % 3]!)=true
   match j % 3,this with
   | 0,_=>rfl
   | 1,_=>rfl
   | 2,_=>rfl
  have E:=run_storeCells_at (P:=Tryz.prog) g (i * 3) 296 _ 0 _ w h (by rw [B]; simp; omega) I;have N:(Value.agg #[.pointer none,.int .i64 0,.string ⟨#[]⟩]).cells=#[.pointer none,.int .i64 0,.string ⟨#[]⟩]:=rfl;rw [List.toList_toArray,Nat.add_zero,B] at E;generalize hZ:(Builtin.zeroCells #[.pointer none,.int .i64 0,.string ⟨#[]⟩] (cur.length - i)).toList=Z at *
  obtain ⟨A,O⟩:∃ A,(((dh cur++rest).take (i * 3))++Z++((dh cur++rest).drop (i * 3+(cur.length - i) * 3))).toArray=A:=⟨_,rfl⟩;rw [O] at E
  have R:A.size=(dh cur++rest).length:=by
   rw [<- O,List.size_toArray];simp only [List.length_append,List.length_take,List.length_drop,B];omega
  have U:A.toList.take (i * 3)=dh (cur.take i):=by
   rw [<- O,List.toList_toArray,List.append_assoc,List.take_append_of_le_length (by rw [List.length_take]; simp; omega),List.take_take,Nat.min_self];exact F rest
  refine ⟨w.setRow g A,?_,⟨A,setRow_heap w g _ _ _ _ h,R,U⟩,⟨rfl,rfl,rfl,by simp,λk _ hk=>setRow_other w g k _ hk⟩⟩;obtain ⟨m,hm⟩:∃ m,cur.length - i=m+1:=⟨cur.length - i - 1,by omega⟩;rw [hm] at hZ ⊢;simp [Builtin.clear_,run_underlying hu,zeroValue,typeInfo,J,M,Result.andThen,N,hZ,E]
end DskW
end Go.Proofs.YtcgonejkkpbepaaGreatDoor
