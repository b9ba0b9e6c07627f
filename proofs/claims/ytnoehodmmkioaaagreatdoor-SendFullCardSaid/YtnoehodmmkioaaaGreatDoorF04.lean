/- name.sign, name.Plain, name.Group; reveilleref03.Plain, Group. And what follows. -/
import Derived.Test.YtnoehodmmkioaaaGreatDoorF00
import Derived.Test.YtnoehodmmkioaaaGreatDoorF01
import Derived.RangeFuncBox
import Derived.RangeFuncLeaves
import Derived.RangeFuncGives
import Derived.Shelf.Abstract
import Derived.Shelf.AbstractIn
import Derived.OwnWalkIn
import Derived.TacticsInMore
import Derived.LoopNIn
import Derived.LoopIn
import Derived.Maps.AppendAt
import Derived.Shelf.SlIter.Sorted
import Derived.Lib.OwnBridge
import Derived.Deep.DeepCutAuto
import Derived.Test.YtnoehodmmkioaaaGreatDoorProg
import Derived.Lib.IndexBytes
set_option maxHeartbeats 25600000
set_option maxRecDepth 100000
set_option linter.unusedVariables false
set_option linter.unusedSimpArgs false
namespace Go.Proofs.YtnoehodmmkioaaaGreatDoor.NameW
open Go.RowKit OctMath NameMath
theorem S_toList (l:List UInt8):(S l).toList=l:=by rw [ByteArray.toList_eq,S_list]
theorem sign_any (n:Nat) (W:World):Calls Tryz.prog 143 #[.int .i32 (n:Int)] W fun e w'=>e=.returned (.bool (signN n))∧w'=W:=by
 have h1:decide ((97:Int)≤(n:Int))=decide (97≤n):=decide_eq_decide.2 (by omega)
 have h2:decide ((n:Int)≤122)=decide (n≤122):=decide_eq_decide.2 (by omega)
 have h3:decide ((48:Int)≤(n:Int))=decide (48≤n):=decide_eq_decide.2 (by omega)
 have h4:decide ((n:Int)≤57)=decide (n≤57):=decide_eq_decide.2 (by omega)
 have h5:((n:Int) == 45)=(n == 45):=by
  by_cases h:n=45
  · subst h; rfl
  · rw [beq_eq_false_iff_ne.2 h,beq_eq_false_iff_ne.2 (by omega)]
 have HR:Hid (signN n=((decide (97≤n) && decide (n≤122)) || (decide (48≤n) && decide (n≤57)) || n == 45)):=rfl
 generalize decide (97≤n)=b1 at *
 generalize decide (n≤122)=b2 at *
 generalize decide (48≤n)=b3 at *
 generalize decide (n≤57)=b4 at *
 generalize (n == 45)=b5 at *
 cases b1 <;> cases b2 <;> cases b3 <;> cases b4 <;> cases b5 <;>
 (go_enter Tryz.func143,Tryz.ntmps143
  go_wp2_with fail
  go_ret
  rw [HR.out]
  exact ⟨rfl,rfl⟩)
theorem unsign_any (n:Nat) (W:World):Calls Tryz.prog 142 #[.int .i32 (n:Int)] W fun e w'=>e=.returned (.bool (!signN n))∧∃ q,w'=W.drewN q:=by
 go_enter Tryz.func142,Tryz.ntmps142
 go_wp2_with (go_at_call 143; refine (sign_any n _).mono ?_; rintro e w2 ⟨rfl,rfl⟩)
 go_ret
 exact ⟨rfl,0,rfl⟩
theorem plain_any (l:List UInt8) (hl:l.length≤1099511627776) (W:World):Calls Tryz.prog 85 #[.string (S l)] W fun e w'=>e=.returned (.bool (plainL l))∧Below W.heap.size W w':=by
 have hC:=fun w=>Tryz.strings_IndexFunc 142 #[] (enters_of Tryz.func142 (by kernel_rfl) rfl) (fun n=>!signN n) (S l) w (fun W' x hb=>unsign_any x W')
 have hsz:=S_size l
 have hE:=plain_eq l
 have htl:=S_toList l
 by_cases h0:l=[]
 ·
  have hb:l.isEmpty=true:=by subst h0; rfl
  have HR:Hid (plainL l=false):=by show _=_; rw [hE,decide_eq_false (by simpa using h0)]; rfl
  clear hE h0
  go_enter Tryz.func85,Tryz.ntmps85
  go_wp2_with fail
  go_ret
  rw [HR.out]
  exact ⟨rfl,Below.refl _ _⟩
 have hb:l.isEmpty=false:=by cases l with | nil=>exact absurd rfl h0 | cons _ _=>rfl
 rw [decide_eq_true h0,Bool.true_and] at hE
 by_cases h1:l.length≤16
 ·
  have HR:Hid (plainL l=decide (Lib.idxFunc (fun n=>!signN n) true (S l) < (0:Int))):=by show _=_; rw [hE,decide_eq_true h1]; rfl
  have h16:decide ((l.length:Int)≤16)=true:=decide_eq_true (by omega)
  clear hE h0
  go_enter Tryz.func85,Tryz.ntmps85
  go_wp2_with (go_at_call 141; refine (hC _).mono ?_; rintro e w2 ⟨rfl,hb2⟩)
  go_ret
  rw [HR.out]
  exact ⟨rfl,hb2⟩
 ·
  have HR:Hid (plainL l=false):=by show _=_; rw [hE,decide_eq_false h1]; rfl
  have h16:decide ((l.length:Int)≤16)=false:=decide_eq_false (by omega)
  clear hE h0
  go_enter Tryz.func85,Tryz.ntmps85
  go_wp2_with fail
  go_ret
  rw [HR.out]
  exact ⟨rfl,Below.refl _ _⟩
theorem group_any (l:List UInt8) (hl:l.length≤1099511627776) (W:World):Calls Tryz.prog 102 #[.string (S l)] W fun e w'=>e=.returned (.bool (groupL l))∧Below W.heap.size W w':=by
 have hsz:=S_size l
 have HR:Hid (groupL l=(plainL l && decide (l.length≤8))):=rfl
 have h8:decide ((l.length:Int)≤8)=decide (l.length≤8):=decide_eq_decide.2 (by omega)
 have hC:=fun w=>plain_any l hl w
 generalize plainL l=b at *
 generalize decide (l.length≤8)=b2 at *
 cases b <;>
 (go_enter Tryz.func102,Tryz.ntmps102
  go_wp2_with (go_at_call 85; refine (hC _).mono ?_; rintro e w2 ⟨rfl,hb2⟩)
  go_ret
  rw [HR.out]
  exact ⟨rfl,hb2⟩)
theorem index_at (l:List UInt8) (n:Nat) (i:Int) (hi:i=n) (h:n < l.length) (k:IntKind) (w:World):(Instr.index 9 (.string (S l)) (.int k i)).run Tryz.prog w=.ok (.int .u8 (l[n].toNat:Int)) w:=by
 subst hi
 have hs:=S_size l
 rw [run_index_string (h:=Tryz.underlying9),dif_pos ⟨by omega,by omega⟩]; rfl
theorem rplain_any (l:List UInt8) (hl:l.length≤1099511627776) (W:World):Calls Tryz.prog 60 #[.string (S l)] W fun e w'=>e=.returned (.bool (plainL l))∧Drawn W w':=by
 have hsz:=S_size l
 have HE:Hid (plainL l=(decide (1≤l.length) && decide (l.length≤16) && l.all signB)):=rfl
 go_enter Tryz.func60,Tryz.ntmps60
 go_wp2_with fail
 go_loopw [3] (fun i wr=>∃ k:Nat,k≤l.length∧i=.int .i64 (k:Int)∧Hid ((l.take k).all signB=true)∧Hid (Drawn W wr)) (fun i _=>l.length+1 - (intOf i).toNat)
 case atStart=>exact ⟨0,by omega,rfl,rfl,Drawn.refl _⟩
 case round =>
  obtain ⟨k,hk,rfl,HA,HD⟩:=hrel
  by_cases hlt:k < l.length
  ·
   have hi1:k < (S l).size:=by rw [hsz]; exact hlt
   have hx1:=fun w=>index_at l k (k:Int) rfl hlt .i64 w
   have hstep:(l.take (k+1)).all signB=((l.take k).all signB && signB l[k]):=by rw [List.take_succ_eq_append_getElem hlt,List.all_append,List.all_cons,List.all_nil,Bool.and_true]; rfl
   have hmem:signB l[k]=false→l.all signB=false:=fun h=>by rw [List.all_eq_false]; exact ⟨l[k],List.getElem_mem hlt,by rw [h]; simp⟩
   have hdg:signB l[k]=signN l[k].toNat:=rfl
   generalize l[k]=c at *
   have HST:=Lib.hid hstep
   have HMEM:=Lib.hid hmem
   have HDG:=Lib.hid hdg
   have hc:=c.toNat_lt
   clear hstep hmem hdg
   rcases (show (c.toNat < 45)∨(c.toNat=45)∨(45 < c.toNat∧c.toNat < 48)∨(48≤c.toNat∧c.toNat≤57)∨(57 < c.toNat∧c.toNat < 97)∨(97≤c.toNat∧c.toNat≤122)∨(122 < c.toNat) by omega) with h | h | h | h | h | h | h
   ·
    have HS:Hid (signB c=false):=by show _=_; rw [HDG.out]; unfold signN; simp; omega
    have d97:decide (97≤(c.toNat:Int))=false:=decide_eq_false (by omega)
    have d122:decide ((c.toNat:Int)≤122)=true:=decide_eq_true (by omega)
    have d48:decide (48≤(c.toNat:Int))=false:=decide_eq_false (by omega)
    have d57:decide ((c.toNat:Int)≤57)=true:=decide_eq_true (by omega)
    have b45:((c.toNat:Int) != 45)=true:=bne_iff_ne.2 (by omega)
    clear HDG
    have HT:Hid (plainL l=false):=by show _=_; rw [HE.out,HMEM.out HS.out,Bool.and_false]
    clear HMEM HST HS h
    go_wp2_with fail
    go_ret
    rw [HT.out]
    exact ⟨rfl,HD.out⟩
   ·
    have HS:Hid (signB c=true):=by show _=_; rw [HDG.out]; unfold signN; simp; omega
    have d97:decide (97≤(c.toNat:Int))=false:=decide_eq_false (by omega)
    have d122:decide ((c.toNat:Int)≤122)=true:=decide_eq_true (by omega)
    have d48:decide (48≤(c.toNat:Int))=false:=decide_eq_false (by omega)
    have d57:decide ((c.toNat:Int)≤57)=true:=decide_eq_true (by omega)
    have b45:((c.toNat:Int) != 45)=false:=by rw [h]; rfl
    clear HDG
    have HT:Hid ((l.take (k+1)).all signB=true):=by show _=_; rw [HST.out,HA.out,HS.out]; rfl
    clear HMEM HST HS h
    go_wp2_with fail
    go_roundw
    case rel=>exact ⟨k+1,by omega,by go_num,HT,HD⟩
    case measure=>simp [intOf]; omega
   ·
    have HS:Hid (signB c=false):=by show _=_; rw [HDG.out]; unfold signN; simp; omega
    have d97:decide (97≤(c.toNat:Int))=false:=decide_eq_false (by omega)
    have d122:decide ((c.toNat:Int)≤122)=true:=decide_eq_true (by omega)
    have d48:decide (48≤(c.toNat:Int))=false:=decide_eq_false (by omega)
    have d57:decide ((c.toNat:Int)≤57)=true:=decide_eq_true (by omega)
    have b45:((c.toNat:Int) != 45)=true:=bne_iff_ne.2 (by omega)
    clear HDG
    have HT:Hid (plainL l=false):=by show _=_; rw [HE.out,HMEM.out HS.out,Bool.and_false]
    clear HMEM HST HS h
    go_wp2_with fail
    go_ret
    rw [HT.out]
    exact ⟨rfl,HD.out⟩
   ·
    have HS:Hid (signB c=true):=by show _=_; rw [HDG.out]; unfold signN; simp; omega
    have d97:decide (97≤(c.toNat:Int))=false:=decide_eq_false (by omega)
    have d122:decide ((c.toNat:Int)≤122)=true:=decide_eq_true (by omega)
    have d48:decide (48≤(c.toNat:Int))=true:=decide_eq_true (by omega)
    have d57:decide ((c.toNat:Int)≤57)=true:=decide_eq_true (by omega)
    have b45:((c.toNat:Int) != 45)=true:=bne_iff_ne.2 (by omega)
    clear HDG
    have HT:Hid ((l.take (k+1)).all signB=true):=by show _=_; rw [HST.out,HA.out,HS.out]; rfl
    clear HMEM HST HS h
    go_wp2_with fail
    go_roundw
    case rel=>exact ⟨k+1,by omega,by go_num,HT,HD⟩
    case measure=>simp [intOf]; omega
   ·
    have HS:Hid (signB c=false):=by show _=_; rw [HDG.out]; unfold signN; simp; omega
    have d97:decide (97≤(c.toNat:Int))=false:=decide_eq_false (by omega)
    have d122:decide ((c.toNat:Int)≤122)=true:=decide_eq_true (by omega)
    have d48:decide (48≤(c.toNat:Int))=true:=decide_eq_true (by omega)
    have d57:decide ((c.toNat:Int)≤57)=false:=decide_eq_false (by omega)
    have b45:((c.toNat:Int) != 45)=true:=bne_iff_ne.2 (by omega)
    clear HDG
    have HT:Hid (plainL l=false):=by show _=_; rw [HE.out,HMEM.out HS.out,Bool.and_false]
    clear HMEM HST HS h
    go_wp2_with fail
    go_ret
    rw [HT.out]
    exact ⟨rfl,HD.out⟩
   ·
    have HS:Hid (signB c=true):=by show _=_; rw [HDG.out]; unfold signN; simp; omega
    have d97:decide (97≤(c.toNat:Int))=true:=decide_eq_true (by omega)
    have d122:decide ((c.toNat:Int)≤122)=true:=decide_eq_true (by omega)
    have d48:decide (48≤(c.toNat:Int))=true:=decide_eq_true (by omega)
    have d57:decide ((c.toNat:Int)≤57)=false:=decide_eq_false (by omega)
    have b45:((c.toNat:Int) != 45)=true:=bne_iff_ne.2 (by omega)
    clear HDG
    have HT:Hid ((l.take (k+1)).all signB=true):=by show _=_; rw [HST.out,HA.out,HS.out]; rfl
    clear HMEM HST HS h
    go_wp2_with fail
    go_roundw
    case rel=>exact ⟨k+1,by omega,by go_num,HT,HD⟩
    case measure=>simp [intOf]; omega
   ·
    have HS:Hid (signB c=false):=by show _=_; rw [HDG.out]; unfold signN; simp; omega
    have d97:decide (97≤(c.toNat:Int))=true:=decide_eq_true (by omega)
    have d122:decide ((c.toNat:Int)≤122)=false:=decide_eq_false (by omega)
    have d48:decide (48≤(c.toNat:Int))=true:=decide_eq_true (by omega)
    have d57:decide ((c.toNat:Int)≤57)=false:=decide_eq_false (by omega)
    have b45:((c.toNat:Int) != 45)=true:=bne_iff_ne.2 (by omega)
    clear HDG
    have HT:Hid (plainL l=false):=by show _=_; rw [HE.out,HMEM.out HS.out,Bool.and_false]
    clear HMEM HST HS h
    go_wp2_with fail
    go_ret
    rw [HT.out]
    exact ⟨rfl,HD.out⟩
  ·
   have ek:k=l.length:=by omega
   subst ek
   rw [List.take_length] at HA
   have HT:Hid (plainL l=(decide (1≤l.length) && decide (l.length≤16))):=by show _=_; rw [HE.out,HA.out,Bool.and_true]
   have d1:decide (1≤(l.length:Int))=decide (1≤l.length):=decide_eq_decide.2 (by omega)
   have d16:decide ((l.length:Int)≤16)=decide (l.length≤16):=decide_eq_decide.2 (by omega)
   clear HE HA
   generalize decide (1≤l.length)=b1 at *
   generalize decide (l.length≤16)=b2 at *
   cases b1 <;>
   (go_wp2_with fail
    go_ret
    rw [HT.out]
    exact ⟨rfl,HD.out⟩)
theorem rtag_any (l:List UInt8) (hl:l.length≤1099511627776) (W:World):Calls Tryz.prog 31 #[.string (S l)] W fun e w'=>e=.returned (.bool (l.isEmpty || plainL l))∧Drawn W w':=by
 have htl:=S_toList l
 generalize he:l.isEmpty=e
 cases e <;>
 (go_enter Tryz.func31,Tryz.ntmps31
  go_wp2_with (go_at_call 60; refine (rplain_any l hl _).mono ?_; rintro e w2 ⟨rfl,hb2⟩)
  go_ret
  first | exact ⟨rfl,hb2⟩ | exact ⟨rfl,Drawn.refl _⟩)
theorem tag_any (l:List UInt8) (hl:l.length≤1099511627776) (W:World):Calls Tryz.prog 52 #[.string (S l)] W fun e w'=>e=.returned (.bool (l.isEmpty || plainL l))∧Below W.heap.size W w':=by
 have htl:=S_toList l
 generalize he:l.isEmpty=e
 cases e <;>
 (go_enter Tryz.func52,Tryz.ntmps52
  go_wp2_with (go_at_call 85; refine (plain_any l hl _).mono ?_; rintro e w2 ⟨rfl,hb2⟩)
  go_ret
  first | exact ⟨rfl,hb2⟩ | exact ⟨rfl,Below.refl _ _⟩)
def ofK (l:List UInt8):Nat→List UInt8
 | 0=>ofL l
 | 1=>if (Lib.hasPrefix l deadL && groupL (l.drop 6))=true then l.drop 6 else []
 | _=>[]
theorem cut_of (l p:List UInt8) (W:World):Calls Tryz.prog 101 #[.string (S l),.string (S p)] W fun e w'=>e=.returned (.tuple #[.string (S (Lib.trimPrefix l p)),.bool (Lib.hasPrefix l p)])∧w'=W:=by
 have:=Tryz.strings_CutPrefix (S l) (S p) W
 rw [S_list,S_list] at this
 exact this
theorem of_any (l:List UInt8) (hl:l.length≤1099511627776) (W:World):Calls Tryz.prog 50 #[.string (S l)] W fun e w'=>e=.returned (.tuple #[.string (S (ofL l)),.bool (!(ofL l).isEmpty)])∧Below W.heap.size W w':=by
 have hsz:=S_size l
 go_enter Tryz.func50,Tryz.ntmps50
 go_wp2_with fail
 go_loopw [10] (fun i wr=>∃ k:Nat,k≤2∧i=.int .i64 (k:Int)∧Hid (ofL l=ofK l k)∧Hid (wr.cell? ⟨W.heap.size,0,none⟩=some (.string { data:=#[37,114,101,116,114,121,37] })∧wr.cell? ⟨W.heap.size,1,none⟩=some (.string { data:=#[37,100,101,97,100,37] }))∧Hid (Below W.heap.size W wr)) (fun i _=>3 - (intOf i).toNat)
 case atStart=>exact ⟨0,by omega,rfl,rfl,⟨by rw [World.cell?_alloc_new]; rfl,by rw [World.cell?_alloc_new]; rfl⟩,(Below.refl _ _).alloc (Nat.le_refl _) _⟩
 case round =>
  obtain ⟨k,hk,rfl,HK,HC,HB⟩:=hrel
  rcases (show k=0∨k=1∨k=2 by omega) with hk0 | hk1 | hk2
  ·
   -- round 0
   subst hk0
   have hcell:=HC.out.1
   have hC:=fun w=>cut_of l retryL w
   change ∀ w,Calls _ _ #[.string (S l),.string { data:=#[37,114,101,116,114,121,37] }] w _ at hC
   have HG:=Lib.hid (fun w=>group_any (l.drop 7) (by rw [List.length_drop]; omega) w)
   have HX:Hid (ofL l=if (Lib.hasPrefix l retryL && groupL (l.drop 7))=true then l.drop 7 else ofK l 1):=HK.out
   have HN:=Lib.hid (group_ne (l.drop 7))
   by_cases hp:Lib.hasPrefix l retryL=true
   ·
    have htr:Lib.trimPrefix l retryL=l.drop 7:=by unfold Lib.trimPrefix; rw [if_pos hp]; rfl
    rw [hp] at HX
    rw [htr,hp] at hC
    clear hp htr HK
    generalize groupL (l.drop 7)=g at *
    go_wp2_with (go_at_call 101; refine (hC _).mono ?_; rintro e w2 ⟨rfl,rfl⟩)
    refine (HG.out _).mono ?_
    rintro e w3 ⟨rfl,hb⟩
    have HB3:=Lib.hid (HB.out.trans (hb.mono HB.out.size))
    have HC3:Hid (w3.cell? ⟨W.heap.size,0,none⟩=some (.string { data:=#[37,114,101,116,114,121,37] })∧w3.cell? ⟨W.heap.size,1,none⟩=some (.string { data:=#[37,100,101,97,100,37] })):=⟨by rw [hb.cell (cell_lt HC.out.1)]; exact HC.out.1,by rw [hb.cell (cell_lt HC.out.2)]; exact HC.out.2⟩
    clear hb HG hC hcell
    cases g with
    | true =>
      have HT:Hid (ofL l=l.drop 7):=HX.out
      go_wp2_with fail
      go_ret2
      rw [HT.out,HN.out (by first | rfl | trivial)]
      exact ⟨rfl,HB3.out⟩
    | false =>
      have HT:Hid (ofL l=ofK l 1):=HX.out
      go_wp2_with fail
      go_roundw
      case rel=>exact ⟨1,by omega,by go_num,HT,HC3,HB3⟩
      case measure=>simp [intOf]
   ·
    have hp':Lib.hasPrefix l retryL=false:=by simpa using hp
    have htr:Lib.trimPrefix l retryL=l:=by unfold Lib.trimPrefix; rw [if_neg hp]
    rw [hp'] at HX
    rw [htr,hp'] at hC
    have HT:Hid (ofL l=ofK l 1):=HX.out
    clear hp hp' htr HK HX
    go_wp2_with (go_at_call 101; refine (hC _).mono ?_; rintro e w2 ⟨rfl,rfl⟩)
    go_roundw
    case rel=>exact ⟨1,by omega,by go_num,HT,HC,HB⟩
    case measure=>simp [intOf]
  ·
   -- round 1
   subst hk1
   have hcell:=HC.out.2
   have hC:=fun w=>cut_of l deadL w
   change ∀ w,Calls _ _ #[.string (S l),.string { data:=#[37,100,101,97,100,37] }] w _ at hC
   have HG:=Lib.hid (fun w=>group_any (l.drop 6) (by rw [List.length_drop]; omega) w)
   have HX:Hid (ofL l=if (Lib.hasPrefix l deadL && groupL (l.drop 6))=true then l.drop 6 else ofK l 2):=HK.out
   have HN:=Lib.hid (group_ne (l.drop 6))
   by_cases hp:Lib.hasPrefix l deadL=true
   ·
    have htr:Lib.trimPrefix l deadL=l.drop 6:=by unfold Lib.trimPrefix; rw [if_pos hp]; rfl
    rw [hp] at HX
    rw [htr,hp] at hC
    clear hp htr HK
    generalize groupL (l.drop 6)=g at *
    go_wp2_with (go_at_call 101; refine (hC _).mono ?_; rintro e w2 ⟨rfl,rfl⟩)
    refine (HG.out _).mono ?_
    rintro e w3 ⟨rfl,hb⟩
    have HB3:=Lib.hid (HB.out.trans (hb.mono HB.out.size))
    have HC3:Hid (w3.cell? ⟨W.heap.size,0,none⟩=some (.string { data:=#[37,114,101,116,114,121,37] })∧w3.cell? ⟨W.heap.size,1,none⟩=some (.string { data:=#[37,100,101,97,100,37] })):=⟨by rw [hb.cell (cell_lt HC.out.1)]; exact HC.out.1,by rw [hb.cell (cell_lt HC.out.2)]; exact HC.out.2⟩
    clear hb HG hC hcell
    cases g with
    | true =>
      have HT:Hid (ofL l=l.drop 6):=HX.out
      go_wp2_with fail
      go_ret2
      rw [HT.out,HN.out (by first | rfl | trivial)]
      exact ⟨rfl,HB3.out⟩
    | false =>
      have HT:Hid (ofL l=ofK l 2):=HX.out
      go_wp2_with fail
      go_roundw
      case rel=>exact ⟨2,by omega,by go_num,HT,HC3,HB3⟩
      case measure=>simp [intOf]
   ·
    have hp':Lib.hasPrefix l deadL=false:=by simpa using hp
    have htr:Lib.trimPrefix l deadL=l:=by unfold Lib.trimPrefix; rw [if_neg hp]
    rw [hp'] at HX
    rw [htr,hp'] at hC
    have HT:Hid (ofL l=ofK l 2):=HX.out
    clear hp hp' htr HK HX
    go_wp2_with (go_at_call 101; refine (hC _).mono ?_; rintro e w2 ⟨rfl,rfl⟩)
    go_roundw
    case rel=>exact ⟨2,by omega,by go_num,HT,HC,HB⟩
    case measure=>simp [intOf]
  ·
   subst hk2
   have HT:Hid (ofL l=[]):=HK.out
   go_wp2_with fail
   go_ret2
   rw [HT.out]
   exact ⟨rfl,HB.out⟩
theorem topic_any (l:List UInt8) (hl:l.length≤1099511627776) (W:World):Calls Tryz.prog 121 #[.string (S l)] W fun e w'=>e=.returned (.bool (topicL l))∧Below W.heap.size W w':=by
 have HR:Hid (topicL l=(plainL l || !(ofL l).isEmpty)):=rfl
 have HP:=Lib.hid (fun w=>plain_any l hl w)
 have hO:=fun w=>of_any l hl w
 generalize plainL l=b at *
 generalize (ofL l).isEmpty=o at *
 go_enter Tryz.func121,Tryz.ntmps121
 go_wp2_with fail
 refine (hO _).mono ?_
 rintro e w2 ⟨rfl,hb⟩
 have HB:=Lib.hid hb
 clear hb hO
 cases o with
 | false =>
   go_wp2_with fail
   go_ret
   rw [HR.out]
   cases b <;> exact ⟨rfl,HB.out⟩
 | true =>
   go_wp2_with fail
   refine (HP.out _).mono ?_
   rintro e w3 ⟨rfl,hb⟩
   have HB3:=Lib.hid (HB.out.trans (hb.mono HB.out.size))
   clear hb
   go_wp2_with fail
   go_ret
   rw [HR.out]
   cases b <;> exact ⟨rfl,HB3.out⟩
end Go.Proofs.YtnoehodmmkioaaaGreatDoor.NameW
namespace Go.Proofs.YtnoehodmmkioaaaGreatDoor.SeqW
open Go.RowKit Go.Shelf OctMath NameMath
attribute [local go_sem] Oper.semAt_some
set_option maxRecDepth 100000 in
theorem values_in (F:Fence) (n:Nat) (h7:F.fn 169) (hro:F.round=none) (hn:1≤n) (l Bs cap:Nat) (a:Option Addr) (ts:List (List UInt8)) (hx:ts.length≤1048576) (w0:World) (hS:Strs w0 a (ts.map S)) (J:List (List UInt8)→World→Prop)
 (hJB:∀ pre W,J pre W→Below w0.heap.size w0 W)
 (hY:∀ pre x W,J pre W→pre.length < ts.length→YieldAt F (n - 1) Tryz.prog l #[.string (S x)] W fun e W'=>e=.returned (.bool true)∧J (pre++[x]) W'∧KeepsWalks W W')
 (W:World) (hBs:W.cell? ⟨Bs,0,none⟩=some (.slice a ts.length cap)) (h0:J [] W) :
 CallsIn F n Tryz.prog 169 #[.func (.yield l) #[] #[],.pointer (some ⟨Bs,0,none⟩)] W fun e W'=>(∃ v,e=.returned v)∧J ts W':=by
 refine callsIn_of_wp Tryz.func169 rfl h7 ?_ hro
 simp only [Tryz.ntmps169,List.size_toArray,List.length_cons,List.length_nil,Nat.reduceAdd,Nat.reduceSub,Array.replicate_succ,Array.replicate_zero,List.push_toArray,List.append_toArray,List.nil_append,List.cons_append]
 gi_wp2
 gi_loopw [7] (fun i wr=>∃ k:Nat,k≤ts.length∧i=.int .i64 k∧J (ts.take k) wr)
  (fun i _=>ts.length - (intOf i).toNat)
 case atStart=>exact ⟨0,Nat.zero_le _,rfl,h0⟩
 case round =>
  obtain ⟨k,hk,rfl,hJs⟩:=hrel
  by_cases hlt:k < ts.length
  ·
   obtain ⟨b,off,rfl,hcell⟩:=(hS.below (hJB _ _ hJs)) k (by rw [List.length_map]; exact hlt)
   rw [List.getElem_map] at hcell
   obtain ⟨fn,tmps,assign,body,hy,hR⟩:=hY _ ts[k] wr hJs (by rw [List.length_take]; omega)
   rw [← List.take_succ_eq_append_getElem hlt] at hR
   gi_wp2
   refine hR.mono ?_
   rintro e W3 ⟨rfl,hJ3,hk3⟩
   gi_wp2
   go_roundw
   case rel=>exact ⟨k+1,by omega,by simp,hJ3⟩
   case measure=>simp [intOf]; omega
  ·
   obtain rfl:k=ts.length:=by omega
   rw [List.take_length] at hJs
   gi_wp2
   go_end0
   exact ⟨⟨_,rfl⟩,hJs⟩
open Go.Maps Go.Sort
def SeqB (F:Fence) (n:Nat) (P:Program) (g:Nat) (lb:Array Value) (ts:List (List UInt8)) (w:World):Prop :=
 ∀ (l:Nat) (J:List (List UInt8)→World→Prop) (W:World),Below w.heap.size w W→(∀ pre W1,J pre W1→Below w.heap.size w W1) →
  (∀ pre x W1,J pre W1→pre.length < ts.length→YieldAt F (n - 1) P l #[encStr x] W1 fun e W'=>e=.returned (.bool true)∧J (pre++[x]) W'∧KeepsWalks W1 W') →
  J [] W →
  CallsIn F n P g (#[.func (.yield l) #[] #[]]++lb) W fun e W'=>(∃ v,e=.returned v)∧J ts W'
theorem own_base {W:World} {base base':Nat} {e:TypeId} {size:Nat} {v:Value} {k:Nat} {xs:List Value} (h:W.ownsRow base e size v k xs) (hb:base'≤base):W.ownsRow base' e size v k xs:=by
 refine ⟨h.1,?_⟩
 rcases h.2 with hn | ⟨g,cap,cur,hv,hbg,rest⟩
 · exact .inl hn
 · exact .inr ⟨g,cap,cur,hv,Nat.le_trans hb hbg,rest⟩
variable {P:Program} {ρ:Ren}
set_option maxRecDepth 100000 in
theorem appendSeq_in (L:SlLaysZ.n11 P ρ) (F:Fence) (n:Nat) (h11:F.fn (ρ.f 11)) (hro:F.round=none) (hn:2≤n) (g:Nat) (lb:Array Value) (hFg:F.fn g) (eg:∀ args w,(callFunc g args).run P w=.ok (.enter g args) w)
 (ts:List (List UInt8)) (hN:ts.length≤maxLen) (hNb:ts.length * 16≤140737488355328) (w:World) (hseq:SeqB F (n - 1) P g lb ts w) :
 CallsIn F n P (ρ.f 11) #[.slice none 0 0,.func (.func g) #[] lb] w fun e w'=>∃ v:Value,e=.returned v∧w'.ownsRow w.heap.size (ρ.t 26) 1 v ts.length (ts.map encStr)∧Below w.heap.size w w':=by
 have h1:1≤n:=by omega
 have mixed:=L.mixed; have t0:=L.t0; have a0:=L.a0; have z0:=L.z0; have v0:=L.v0; have t24:=L.t24; have a24:=L.a24; have z24:=L.z24; have v24:=L.v24; have t26:=L.t26; have a26:=L.a26; have z26:=L.z26; have v26:=L.v26; have t28:=L.t28; have a28:=L.a28; have z28:=L.z28; have v28:=L.v28
 have hne:ρ.t 24≠ρ.t 26:=fun e=>by have h:=L.t24; rw [e,L.t26] at h; cases h
 have u0:=run_underlying L.t0; have u24:=run_underlying L.t24; have u26:=run_underlying L.t26; have u28:=run_underlying L.t28
 obtain ⟨_,_,FG⟩:=L.f11
 refine callsIn_of_wp_marks FG rfl h11 ?_ hro
 simp only [SlBodyZ.n11_ntmps ρ,List.size_toArray,List.length_cons,List.length_nil,Nat.reduceAdd,Nat.reduceSub,Array.replicate_succ,Array.replicate_zero,List.push_toArray,List.append_toArray,List.nil_append,List.cons_append]
 gi_wp2
 refine wpIn_rangeFunc ?_
 intro fn hfn
 rw [hro]
 obtain ⟨W0,hW0⟩:∃ W0,w.alloc (.cells #[.slice none 0 0] (ρ.t 24))=W0:=⟨_,rfl⟩
 have hs0:W0.heap.size=w.heap.size+1:=by rw [← hW0]; simp
 have hv0:W0.heap[w.heap.size]?=some (.cells #[.slice none 0 0] (ρ.t 24) (0,0)):=by rw [← hW0]; exact World.alloc_heap_new w _
 have hb0:Below w.heap.size w W0:=by rw [← hW0]; exact (Below.refl _ w).alloc (Nat.le_refl _) _
 rw [hW0]
 obtain ⟨W1,hW1⟩:∃ W1,(W0.alloc (.deferred (some []))).alloc (.loop (AnyZ.apRec ρ fn (.func (.func g) #[] lb) w.heap.size W0.heap.size .ready none))=W1:=⟨_,rfl⟩
 have hold:∀ k,k < W0.heap.size→W1.heap[k]?=W0.heap[k]?:=fun k hk=>by
  rw [← hW1]; exact (Below.heap_alloc _ _ k (by simp; omega)).trans (Below.heap_alloc _ _ k hk)
 have hb1:Below w.heap.size w W1:=by rw [← hW1]; exact (hb0.alloc hb0.size _).alloc (by have:=hb0.size; simp; omega) _
 have hs1:W1.heap.size=W0.heap.size+2:=by rw [← hW1]; simp
 have hM:AnyZ.ApAt ρ w fn (.func (.func g) #[] lb) w.heap.size (W0.heap.size+1) W0.heap.size [] W1 :=
  ⟨⟨_,(hold w.heap.size (by omega)).trans hv0,⟨rfl,.inl ⟨rfl,rfl⟩⟩,by simp⟩,
   by rw [← hW1]; have:=World.alloc_heap_new (W0.alloc (.deferred (some []))) (.loop (AnyZ.apRec ρ fn (.func (.func g) #[] lb) w.heap.size W0.heap.size .ready none)); rwa [World.size_alloc] at this,
   by rw [← hW1]; exact (Below.heap_alloc _ _ _ (by simp)).trans (World.alloc_heap_new W0 _),hb1⟩
 refine ⟨W0.heap.size+1,[{ target:=.collected W0.heap.size,args:=#[] }],W1,{ target:=.fn (.func g) lb,args:=#[.func (.yield (W0.heap.size+1)) #[] #[]] },W1,g,
  #[.func (.yield (W0.heap.size+1)) #[] #[]]++lb,W1,?_,?_,?_,?_,fun _=>h1,?_⟩
 · rw [← hW1]; exact run_enterLoop_outer _ _ _ _ _
 · simp [resolve,go_sem]
 · intro f' hf'; simp [Target.leads] at hf'; subst hf'; exact hFg
 · simp [invoke,go_sem,eg]
 ·
  refine (hseq (W0.heap.size+1) (AnyZ.ApAt ρ w fn (.func (.func g) #[] lb) w.heap.size (W0.heap.size+1) W0.heap.size) W1 hb1 (fun _ _ h=>h.below)
   (fun pre x W hJ hl=>AnyZ.apYield { L with } F (n - 1 - 1) w fn hfn _ w.heap.size (W0.heap.size+1) W0.heap.size (by omega) (by omega) (by omega) (Nat.le_refl _) (by omega) ts.length hN hNb pre x W hJ hl) hM).mono ?_
  rintro e W2 ⟨⟨v0,rfl⟩,h2⟩
  obtain ⟨v,hv,hrow,hnil⟩:=h2.box
  have hend:=run_endLoop (P:=P) h2.L (by simp [AnyZ.apRec])
  obtain ⟨W3,hW3⟩:∃ W3,W2.putObj (W0.heap.size+1) (.loop { AnyZ.apRec ρ fn (.func (.func g) #[] lb) w.heap.size W0.heap.size .ready none with state:=.exhausted })=W3:=⟨_,rfl⟩
  rw [hW3] at hend
  have hg3:W2.grownBy W3 (some (W0.heap.size+1)):=by rw [← hW3]; exact grownBy_putObj_a _ _ _
  have hv3:W3.heap[w.heap.size]?=some (.cells #[v] (ρ.t 24) (0,0)):=by rw [← hW3]; exact (World.putObj_heap_other (by omega)).trans hv
  have hK3:W3.heap[W0.heap.size]?=some (.deferred (some [])):=by rw [← hW3]; exact (World.putObj_heap_other (by omega)).trans h2.K
  have hrow3:=hrow.kept hg3 (ownsRow_ne_a hrow h2.L (fun cur e=>by first | cases e | exact hne (Obj.cells.inj e).2.1))
  have hb3:Below w.heap.size w W3:=h2.below.grown hg3 h2.below.size (fun k e=>by cases e; omega)
  obtain ⟨hc3,hf3⟩:=cell_of_box_a hv3
  clear hW3
  refine ⟨none,W3,hend,?_⟩
  gi_wp2
  rw [← hs0]
  refine ⟨by simp,.inl ⟨_,_,rfl,run_takeDeferred hK3,?_⟩⟩
  exact ⟨_,results_tmp rfl _ _ _,v,rfl,hrow3.kept (grownBy_putObj_a _ _ _) (ownsRow_ne_a hrow3 hK3 (fun cur e=>by first | cases e | exact hne (Obj.cells.inj e).2.1)),hb3.grown (grownBy_putObj_a _ _ _) hb3.size (fun k e=>by cases e; omega)⟩
theorem collect_in (L:SlLaysZ.n8 P ρ) (F:Fence) (n:Nat) (h8:F.fn (ρ.f 8)) (h11:F.fn (ρ.f 11)) (hro:F.round=none) (hn:3≤n) (g:Nat) (lb:Array Value) (hFg:F.fn g) (eg:∀ args w,(callFunc g args).run P w=.ok (.enter g args) w)
 (ts:List (List UInt8)) (hN:ts.length≤maxLen) (hNb:ts.length * 16≤140737488355328) (w:World) (hseq:SeqB F (n - 1 - 1) P g lb ts w) :
 CallsIn F n P (ρ.f 8) #[.func (.func g) #[] lb] w fun e w'=>∃ v:Value,e=.returned v∧w'.ownsRow w.heap.size (ρ.t 26) 1 v ts.length (ts.map encStr)∧Below w.heap.size w w':=by
 have h1:1≤n:=by omega
 have e11:∀ args w,(callFunc (ρ.f 11) args).run P w=.ok (.enter (ρ.f 11) args) w:=L.f11.enters rfl
 have mixed:=L.mixed; have t0:=L.t0; have a0:=L.a0; have z0:=L.z0; have v0:=L.v0; have t24:=L.t24; have a24:=L.a24; have z24:=L.z24; have v24:=L.v24; have t26:=L.t26; have a26:=L.a26; have z26:=L.z26; have v26:=L.v26; have t28:=L.t28; have a28:=L.a28; have z28:=L.z28; have v28:=L.v28
 have u0:=run_underlying L.t0; have u24:=run_underlying L.t24; have u26:=run_underlying L.t26; have u28:=run_underlying L.t28
 obtain ⟨_,_,FG⟩:=L.f8
 refine callsIn_of_wp FG rfl h8 ?_ hro
 simp only [SlBodyZ.n8_ntmps ρ,List.size_toArray,List.length_cons,List.length_nil,Nat.reduceAdd,Nat.reduceSub,Array.replicate_succ,Array.replicate_zero,List.push_toArray,List.append_toArray,List.nil_append,List.cons_append]
 gi_wp2_with (gi_at_fn (ρ.f 11); refine (appendSeq_in { L with } F (n - 1) h11 hro (by omega) g lb hFg eg ts hN hNb _ hseq).mono ?_; rintro e w' ⟨v,rfl,hrow,hb⟩)
 go_ret
 exact ⟨v,rfl,hrow,hb⟩
set_option maxRecDepth 100000 in
theorem sorted_in (L:SlLaysZ.n6 P ρ) (F:Fence) (n:Nat) (h6:F.fn (ρ.f 6)) (h8:F.fn (ρ.f 8)) (h9:F.fn (ρ.f 9)) (h11:F.fn (ρ.f 11)) (hro:F.round=none) (hn:4≤n) (hsort:AnyZ.SortsIn P ρ F (n - 1)) (e9:∀ args w,(callFunc (ρ.f 9) args).run P w=.ok (.enter (ρ.f 9) args) w) (g:Nat) (lb:Array Value) (hFg:F.fn g) (eg:∀ args w,(callFunc g args).run P w=.ok (.enter g args) w)
 (ts:List (List UInt8)) (hN:ts.length≤maxLen) (hNb:ts.length * 16≤140737488355328) (w:World) (hseq:SeqB F (n - 1 - 1 - 1) P g lb ts w) :
 CallsIn F n P (ρ.f 6) #[.func (.func g) #[] lb] w fun e w'=>∃ v:Value,e=.returned v ∧
  w'.ownsRow w.heap.size (ρ.t 26) 1 v ts.length ((ts.mergeSort (fun x y=>decide (x≤y))).map encStr)∧Below w.heap.size w w':=by
 have h1:1≤n:=by omega
 have e8:∀ args w,(callFunc (ρ.f 8) args).run P w=.ok (.enter (ρ.f 8) args) w:=L.f8.enters rfl
 have mixed:=L.mixed; have t0:=L.t0; have a0:=L.a0; have z0:=L.z0; have v0:=L.v0; have t24:=L.t24; have a24:=L.a24; have z24:=L.z24; have v24:=L.v24; have t26:=L.t26; have a26:=L.a26; have z26:=L.z26; have v26:=L.v26; have t28:=L.t28; have a28:=L.a28; have z28:=L.z28; have v28:=L.v28
 have u0:=run_underlying L.t0; have u24:=run_underlying L.t24; have u26:=run_underlying L.t26; have u28:=run_underlying L.t28
 obtain ⟨_,_,FG⟩:=L.f6
 refine callsIn_of_wp FG rfl h6 ?_ hro
 simp only [SlBodyZ.n6_ntmps ρ,List.size_toArray,List.length_cons,List.length_nil,Nat.reduceAdd,Nat.reduceSub,Array.replicate_succ,Array.replicate_zero,List.push_toArray,List.append_toArray,List.nil_append,List.cons_append]
 gi_wp2_with (gi_at_fn (ρ.f 8); refine (collect_in { L with } F (n - 1) h8 h11 hro (by omega) g lb hFg eg ts hN hNb _ hseq).mono ?_; rintro e W ⟨v,rfl,hrow,hb⟩)
 rcases hrow.2 with ⟨rfl,hz⟩ | ⟨gb,cap,cur,rfl,hbase,hgb,r1,r2,r3,r4⟩
 ·
  have hss:ts=[]:=List.eq_nil_of_length_eq_zero hz
  subst hss
  gi_wp2_with (gi_at_fn (ρ.f 9); refine (hsort.2 none 0 W).mono ?_; rintro e w' ⟨rfl,rfl⟩)
  go_ret
  exact ⟨.slice none 0 0,rfl,by simpa using hrow,hb⟩
 ·
  have hH:Holds encStr W gb 0 ts.toArray:=holds_of_block hgb (by simpa using r4)
  have hgl:gb < W.heap.size:=(Array.getElem?_eq_some_iff.1 hgb).1
  have hsz:ts.length < 4611686018427387904:=by omega
  have cS:=hsort.1 gb 0 cap ts W hH hgl hsz
  gi_wp2_with (gi_at_fn (ρ.f 9); refine cS.mono ?_; rintro e w' ⟨rfl,nn,os,rfl⟩)
  go_ret
  exact ⟨_,rfl,ownsRow_sorted (by simp) hbase hgb r1 r2 r3,hb.grown (grownBy_sorted _) hb.size (fun j hj=>by cases hj; exact hbase)⟩
theorem sorts (m:Nat):AnyZ.SortsIn Tryz.prog Tryz.sortedZ_ren Fence.wide m :=
 ⟨fun blk off cap ss W hH hblk hsz=>callsIn_wide.2 (Tryz.slices_Sort_string blk off cap ss W hH hblk hsz),
  fun p cap W=>callsIn_wide.2 (Tryz.slices_Sort_string_none p cap W)⟩
theorem seq_values (n:Nat) (hn:1≤n) (Bs cap:Nat) (a:Option Addr) (ts:List (List UInt8)) (hx:ts.length≤1048576) (w:World) (hS:Strs w a (ts.map S)) (hBl:Bs < w.heap.size) (hBs:w.cell? ⟨Bs,0,none⟩=some (.slice a ts.length cap)) :
 SeqB Fence.wide n Tryz.prog 169 #[.pointer (some ⟨Bs,0,none⟩)] ts w:=fun l J W hW hJ hY h0 =>
 values_in Fence.wide n trivial rfl hn l Bs cap a ts hx w hS J hJ hY W ((hW.cell (p:=⟨Bs,0,none⟩) hBl).trans hBs) h0
theorem sorted_values (Bs cap:Nat) (a:Option Addr) (ts:List (List UInt8)) (hx:ts.length≤1048576) (w:World) (hS:Strs w a (ts.map S)) (hBl:Bs < w.heap.size) (hBs:w.cell? ⟨Bs,0,none⟩=some (.slice a ts.length cap)) :
 Calls Tryz.prog 104 #[.func (.func 169) #[] #[.pointer (some ⟨Bs,0,none⟩)]] w fun e w'=>∃ v:Value,e=.returned v ∧
  w'.ownsRow w.heap.size 9 1 v ts.length ((ts.mergeSort (fun x y=>decide (x≤y))).map encStr)∧Below w.heap.size w w':=by
 refine (callsIn_wide (n:=6)).1 ?_
 have:=sorted_in Tryz.sortedZ Fence.wide 6 trivial trivial trivial trivial rfl (by omega) (sorts _) (enters_of Tryz.func168 (by kernel_rfl) rfl) 169 #[.pointer (some ⟨Bs,0,none⟩)] trivial (enters_of Tryz.func169 (by kernel_rfl) rfl) ts (by unfold maxLen; omega) (by omega) w
  (seq_values 3 (by omega) Bs cap a ts hx w hS hBl hBs)
 exact this
end Go.Proofs.YtnoehodmmkioaaaGreatDoor.SeqW
namespace Go.Proofs.YtnoehodmmkioaaaGreatDoor.TagW
open Go.RowKit Go.Shelf Go.Maps Go.Sort OctMath NameMath
theorem compact_any (base:Nat) (v:Value) (ss:List (List UInt8)) (hx:ss.length≤1048576) (w0 w:World) (hb:Below base w0 w) (h:w.ownsRow base 9 1 v ss.length (ss.map encStr)) :
 Calls Tryz.prog 106 #[v] w fun e w'=>(∃ a c,e=.returned (.slice a (Lib.compact ss).length c))∧Below base w0 w':=by
 rcases h.2 with ⟨rfl,hz⟩ | ⟨gb,cap,cur,rfl,hbase,hgb,r1,r2,r3,r4⟩
 ·
  have hss:ss=[]:=List.eq_nil_of_length_eq_zero hz
  subst hss
  refine (Tryz.slices_Compact_string_empty none 0 w).mono ?_
  rintro e w' ⟨rfl,rfl⟩
  exact ⟨⟨none,0,rfl⟩,hb⟩
 ·
  have hH:Holds encStr w gb 0 ss.toArray:=holds_of_block hgb (by simpa using r4)
  refine (Tryz.slices_Compact_string gb 0 cap ss w hH (by omega) (by omega)).mono ?_
  rintro e w' ⟨rfl,q,rfl⟩
  exact ⟨⟨_,_,rfl⟩,Lib.below_putRow hb hbase⟩
theorem clone_any (a:Option Addr) (cap:Nat) (ts:List (List UInt8)) (hx:ts.length≤1048576) (w:World) (hS:Strs w a (ts.map S)) :
 Calls Tryz.prog 59 #[.slice a ts.length cap] w fun e w'=>∃ v,e=.returned v∧w'.ownsRow w.heap.size 9 1 v ts.length (ts.map encStr)∧Below w.heap.size w w':=by
 cases a with
 | none =>
   have hts:ts=[]:=by
    cases ts with
    | nil=>rfl
    | cons t r=>obtain ⟨b,off,h,_⟩:=hS 0 (by simp); cases h
   subst hts
   refine (Tryz.slices_Clone_string_nil 0 cap w).mono ?_
   rintro e w' ⟨rfl,rfl⟩
   exact ⟨_,rfl,⟨rfl,.inl ⟨rfl,rfl⟩⟩,Below.refl _ _⟩
 | some p =>
   by_cases h0:ts=[]
   · subst h0
     refine (Tryz.slices_Clone_string_zero p cap w).mono ?_
     rintro e w' ⟨v,rfl,h,_,hb⟩
     exact ⟨v,rfl,h,hb⟩
   ·
    have hp:p.spot=none:=by
     obtain ⟨b,off,h,_⟩:=hS 0 (by rw [List.length_map]; exact List.length_pos_iff.2 h0)
     cases h; rfl
    obtain ⟨b,off,sp⟩:=p
    cases hp
    have hc:∀ j,j < (ts.map S).length→w.cell? ⟨b,off+j,none⟩=some (.string ((ts.map S).getD j ByteArray.empty)):=fun j hj=>by
     obtain ⟨b',off',h,hc⟩:=hS j hj
     cases h
     rw [hc]
     rw [List.getD_eq_getElem?_getD,List.getElem?_eq_getElem hj]; rfl
    refine (Tryz.slices_Clone_string b off ts.length cap (ts.map S) w (by simp) (by omega) hc).mono ?_
    rintro e w' ⟨v,rfl,h,_,hb⟩
    refine ⟨v,rfl,?_,hb⟩
    have e2:((ts.map S).take ts.length).map Value.string=ts.map encStr:=by
     rw [List.take_of_length_le (by simp),List.map_map]; rfl
    rwa [e2] at h
def dupL (ts:List (List UInt8)):Bool:=decide ((Lib.compact (ts.mergeSort (fun x y=>decide (x≤y)))).length < ts.length)
attribute [local go_sem] Oper.semAt_some
theorem values_any (a:Option Addr) (n cap:Nat) (w:World) :
 Calls Tryz.prog 105 #[.slice a n cap] w fun e w'=>e=.returned (.func (.func 169) #[] #[.pointer (some ⟨w.heap.size,0,none⟩)])∧w'=w.alloc (.cells #[.slice a n cap] 31):=by
 go_enter Tryz.func105,Tryz.ntmps105
 go_wp2_with fail
 go_ret
 exact ⟨rfl,rfl⟩
end Go.Proofs.YtnoehodmmkioaaaGreatDoor.TagW
namespace Go.Proofs.YtnoehodmmkioaaaGreatDoor.DupMath
open Go.RowKit OctMath NameMath
def leL (x y:List UInt8):Bool:=decide (x≤y)
theorem sorted_merge (ts:List (List UInt8)):List.Pairwise (fun a b=>leL a b=true) (ts.mergeSort leL) :=
 List.pairwise_mergeSort (le:=leL) (fun a b c h k=>by unfold leL at *; exact decide_eq_true (List.le_trans (of_decide_eq_true h) (of_decide_eq_true k))) (fun a b=>by
  unfold leL
  rcases List.le_total a b with h | h
  · rw [decide_eq_true h]; rfl
  · rw [decide_eq_true h,Bool.or_true]) ts
theorem sorted_nodup {s:List (List UInt8)} (h:List.Pairwise (fun a b=>leL a b=true) s):s.Nodup↔∀ j,0 < j→j < s.length→s[j]!≠s[j - 1]! := by
 have hp:=List.pairwise_iff_getElem.1 h
 constructor
 · intro hn j h0 hj e
   rw [getElem!_pos s j hj,getElem!_pos s (j - 1) (by omega)] at e
   exact List.pairwise_iff_getElem.1 hn (j - 1) j (by omega) hj (by omega) e.symm
 ·
  intro ha
  refine List.pairwise_iff_getElem.2 fun i j hi hj hij e=>?_
  have h1:s[i]≤s[j - 1]:=by
   by_cases e':i=j - 1
   · subst e'; exact List.le_refl _
   · exact of_decide_eq_true (hp i (j - 1) hi (by omega) (by omega))
  have h2:s[j - 1]≤s[j]:=of_decide_eq_true (hp (j - 1) j (by omega) hj (by omega))
  have h3:s[j - 1]=s[j]:=List.le_antisymm h2 (by rw [← e]; exact h1)
  have:=ha j (by omega) hj
  rw [getElem!_pos s j hj,getElem!_pos s (j - 1) (by omega)] at this
  exact this h3.symm
theorem compact_lt (s:List (List UInt8)):(Lib.compact s).length < s.length↔¬ ∀ j,0 < j→j < s.length→s[j]!≠s[j - 1]! := by
 have hle:(Lib.compact s).length≤s.length:=by
  unfold Lib.compact Lib.compactUpTo
  rw [List.length_map]
  exact Nat.le_trans (List.length_filter_le _ _) (by simp)
 have key:(Lib.compact s).length=s.length↔∀ j,0 < j→j < s.length→s[j]!≠s[j - 1]! := by
  unfold Lib.compact Lib.compactUpTo
  rw [List.length_map]
  have e:((List.range s.length).filter (Lib.keeps s.toArray)).length=s.length↔((List.range s.length).filter (Lib.keeps s.toArray)).length=(List.range s.length).length:=by rw [List.length_range]
  rw [e,List.length_filter_eq_length_iff]
  constructor
  ·
   intro h j h0 hj
   have:=h j (List.mem_range.2 hj)
   unfold Lib.keeps at this
   simp at this
   rcases this with h | h
   · omega
   · simpa using h
  ·
   intro h j hj
   have hj':=List.mem_range.1 hj
   unfold Lib.keeps
   simp
   by_cases h0:j=0
   · exact .inl h0
   · exact .inr (by simpa using h j (by omega) hj')
 constructor
 · intro h h2; have:=key.2 h2; omega
 · intro h
   have:(Lib.compact s).length≠s.length:=fun e=>h (key.1 e)
   omega
theorem dup_nodup (ts:List (List UInt8)):TagW.dupL ts=true↔¬ ts.Nodup:=by
 have hp:=List.mergeSort_perm ts leL
 have h1:TagW.dupL ts=decide ((Lib.compact (ts.mergeSort leL)).length < ts.length):=rfl
 rw [h1,decide_eq_true_eq,← hp.length_eq,compact_lt,← sorted_nodup (sorted_merge ts),hp.nodup_iff]
end Go.Proofs.YtnoehodmmkioaaaGreatDoor.DupMath
namespace Go.Proofs.YtnoehodmmkioaaaGreatDoor.RecW
open Go.RowKit OctMath RecMath NameMath
theorem S_toList (l:List UInt8):(S l).toList=l:=by rw [ByteArray.toList_eq,S_list]
theorem eql_nilk (g:Nat) (w:World):Sem.run Tryz.prog (binOp .eql 96 (.func (.func g) #[] #[]) .nilFunc) w=.ok (.bool false) w:=by
 rfl
theorem bad_any (n:Int) (w:World):Calls Tryz.prog 208 #[.int .i64 n] w fun e w'=>e=.returned (.bool (badNum n))∧Drawn w w':=by
 by_cases h1:n < 0
 ·
  have hb:badNum n=true:=by unfold badNum; rw [decide_eq_true h1]; rfl
  rw [hb]
  clear hb
  go_enter Tryz.func208,Tryz.ntmps208
  go_wp2_with fail
  go_ret
  exact ⟨rfl,Drawn.refl _⟩
 ·
  have hb:badNum n=decide (1099511627776 < n):=by unfold badNum; rw [decide_eq_false h1]; rfl
  rw [hb]
  clear hb
  go_enter Tryz.func208,Tryz.ntmps208
  go_wp2_with fail
  go_ret
  exact ⟨rfl,Drawn.refl _⟩
theorem noughts_any (n:Nat) (hn:n≤1099511627776) (w:World):Calls Tryz.prog 100 #[.int .i64 (n:Int)] w fun e w'=>e=.returned (.string (S (noughts n)))∧Below w.heap.size w w':=by
 have c:=Lib.hid (Tryz.strings_Repeat (S [0]) n w (by omega) (by rw [S_size]; simp; omega))
 have he:(⟨(Lib.repeatL (S [0]).data.toList n).toArray⟩:ByteArray)=S (noughts n):=by
  have h:∀ k,Lib.repeatL [(0:UInt8)] k=List.replicate k 0:=by
   intro k
   induction k with
   | zero=>rfl
   | succ k ih=>rw [Lib.repeatL,ih]; rfl
  unfold S noughts
  rw [show ((⟨([0]:List UInt8).toArray⟩:ByteArray)).data.toList=[0] from rfl,h]
 rw [he] at c
 generalize noughts n=z at *
 go_enter Tryz.func100,Tryz.ntmps100
 go_wp2_with fail
 refine c.out.mono ?_
 rintro e w' ⟨rfl,hb⟩
 have HB:=Lib.hid hb
 clear hb
 go_wp2_with fail
 go_ret
 exact ⟨rfl,HB.out⟩
theorem nums_any (g:Nat) (l:List Int) (hl:l.length≤1048576) (hne:l≠[]) (w:World) (hr:∀ j,j < l.length→w.cell? ⟨g,j,none⟩=some (.int .i64 l[j]!)) :
 Calls Tryz.prog 161 #[.slice (some ⟨g,0,none⟩) l.length l.length] w fun e w'=>e=.returned (.bool (!(l.any badNum)))∧Drawn w w':=by
 have c:=Lib.hid (Tryz.slices_ContainsFunc (fun n:Int=>Value.int .i64 n) badNum 208 #[] (enters_of Tryz.func208 (by kernel_rfl) rfl) g 0 l.length l.length l w (fun W x _=>bad_any x W) (Nat.le_refl _) (by omega) (fun j hj=>by rw [Nat.zero_add]; exact hr j hj))
 rw [List.take_length] at c
 generalize l.any badNum=z at *
 generalize l.length=n at *
 go_enter Tryz.func161,Tryz.ntmps161
 go_wp2_with fail
 refine c.out.mono ?_
 rintro e w' ⟨rfl,q,rfl⟩
 go_wp2_with fail
 go_ret
 exact ⟨rfl,⟨_,rfl⟩⟩
theorem key_any (l:List UInt8) (hl:l.length≤1099511627776) (W:World):Calls Tryz.prog 54 #[.string (S l)] W fun e w'=>e=.returned (.bool (keyL l))∧Below W.heap.size W w':=by
 have hsz:=S_size
 have htl:=S_toList
 by_cases h0:l=[]
 ·
  have hb:keyL l=false:=by subst h0; rfl
  rw [hb]
  subst h0
  clear hb
  go_enter Tryz.func54,Tryz.ntmps54
  go_wp2_with fail
  go_ret
  exact ⟨rfl,Below.refl _ _⟩
 ·
  have hie:l.isEmpty=false:=by cases l with | nil=>exact absurd rfl h0 | cons _ _=>rfl
  by_cases h1:16 < l.length
  ·
   have hb:keyL l=false:=by unfold keyL; rw [decide_eq_false (by omega:¬ l.length≤16)]; simp
   rw [hb]
   clear hb
   go_enter Tryz.func54,Tryz.ntmps54
   go_wp2_with fail
   go_ret
   exact ⟨rfl,Below.refl _ _⟩
  ·
   have hb:keyL l=l.all keySign:=by unfold keyL; rw [decide_eq_true h0,decide_eq_true (by omega:l.length≤16)]; simp
   rw [hb]
   clear hb h0
   have hl16:l.length≤16:=by omega
   go_enter Tryz.func54,Tryz.ntmps54
   go_wp2_with fail
   go_loopw [13] (fun i wr=>∃ k:Nat,k≤l.length∧i=.int .i64 (k:Int)∧Hid ((l.take k).all keySign=true)∧Hid (Below W.heap.size W wr)) (fun i _=>l.length+1 - (intOf i).toNat)
   case atStart=>exact ⟨0,by omega,rfl,rfl,Below.refl _ _⟩
   case round =>
    obtain ⟨k,hk,rfl,HA,HB⟩:=hrel
    by_cases hlt:k < l.length
    ·
     have hstep:(l.take (k+1)).all keySign=((l.take k).all keySign && keySign l[k]):=by rw [List.take_succ_eq_append_getElem hlt,List.all_append,List.all_cons,List.all_nil,Bool.and_true]
     have hmem:keySign l[k]=false→l.all keySign=false:=fun h=>by rw [List.all_eq_false]; exact ⟨l[k],List.getElem_mem hlt,by rw [h]; simp⟩
     have HST:=Lib.hid hstep
     have HMEM:=Lib.hid hmem
     clear hstep hmem
     have hsk:k < (S l).size:=by rw [S_size]; exact hlt
     have hgk:((S l)[k]'hsk).toNat=l[k].toNat:=by rfl
     cases hks:keySign l[k] with
     | true =>
       have hT:(l.take (k+1)).all keySign=true:=by rw [HST.out,HA.out,Bool.true_and]; exact hks
       have HT:=Lib.hid hT
       unfold keySign at hks
       simp only [Bool.and_eq_true,decide_eq_true_eq] at hks
       have q1:¬ (((S l)[k]'hsk).toNat:Int) < 33:=by omega
       have q2:¬ 126 < (((S l)[k]'hsk).toNat:Int):=by omega
       clear HST HMEM HA hT hks hgk
       go_wp2_with fail
       go_roundw
       case rel=>exact ⟨k+1,by omega,by go_num,HT.out,HB.out⟩
       case measure=>simp [intOf]; omega
     | false =>
       have HT:Hid (l.all keySign=false):=HMEM.out hks
       unfold keySign at hks
       rw [Bool.and_eq_false_iff,decide_eq_false_iff_not,decide_eq_false_iff_not] at hks
       clear HST HMEM HA
       by_cases q1:(((S l)[k]'hsk).toNat:Int) < 33
       · clear hks hgk
         go_wp2_with fail
         go_ret
         rw [HT.out]
         exact ⟨rfl,HB.out⟩
       · have q2:126 < (((S l)[k]'hsk).toNat:Int):=by omega
         clear hks hgk
         go_wp2_with fail
         go_ret
         rw [HT.out]
         exact ⟨rfl,HB.out⟩
    ·
     have ek:k=l.length:=by omega
     subst ek
     rw [List.take_length] at HA
     go_wp2_with fail
     go_ret
     rw [HA.out]
     exact ⟨rfl,HB.out⟩
theorem allk_any (a:Option Addr) (cap:Nat) (ts:List (List UInt8)) (hx:ts.length≤1048576) (hz:∀ t∈ts,t.length≤1099511627776) (W:World) (h:Strs W a (ts.map S)) :
 Calls Tryz.prog 53 #[.func (.func 54) #[] #[],.slice a ts.length cap] W fun e w'=>e=.returned (.bool (ts.all keyL))∧Below W.heap.size W w':=by
 have eg:=enters_of Tryz.func54 (by kernel_rfl) rfl
 have HS:=Lib.hid h
 clear h
 go_enter Tryz.func53,Tryz.ntmps53
 go_wp2_with fail
 go_loopw [9] (fun i wr=>∃ k:Nat,k≤ts.length∧i=.int .i64 (k:Int)∧Hid ((ts.take k).all keyL=true)∧Hid (Below W.heap.size W wr)) (fun i _=>ts.length+1 - (intOf i).toNat)
 case atStart=>exact ⟨0,by omega,rfl,rfl,Below.refl _ _⟩
 case round =>
  obtain ⟨k,hk,rfl,HA,HB⟩:=hrel
  by_cases hlt:k < ts.length
  ·
   obtain ⟨b,off,rfl,hcell⟩:=(HS.out.below HB.out) k (by rw [List.length_map]; exact hlt)
   rw [List.getElem_map] at hcell
   have hstep:(ts.take (k+1)).all keyL=((ts.take k).all keyL && keyL ts[k]):=by rw [List.take_succ_eq_append_getElem hlt,List.all_append,List.all_cons,List.all_nil,Bool.and_true]
   have hmem:keyL ts[k]=false→ts.all keyL=false:=fun h=>by rw [List.all_eq_false]; exact ⟨ts[k],List.getElem_mem hlt,by rw [h]; simp⟩
   have hP:=fun w=>key_any ts[k] (hz _ (List.getElem_mem hlt)) w
   generalize ts[k]=t at *
   have HST:=Lib.hid hstep
   have HMEM:=Lib.hid hmem
   clear hstep hmem
   have hnf:=fun w=>eql_nilk 54 w
   generalize keyL t=p at *
   go_wp2_with fail
   refine (hP _).mono ?_
   rintro e w2 ⟨rfl,hb⟩
   have HB2:=Lib.hid (HB.out.trans (hb.mono HB.out.size))
   clear hb hP hcell HB
   cases p with
   | true =>
     have HT:Hid ((ts.take (k+1)).all keyL=true):=by show _=_; rw [HST.out,HA.out]; rfl
     clear HST HMEM HA
     go_wp2_with fail
     go_roundw
     case rel=>exact ⟨k+1,by omega,by go_num,HT,HB2⟩
     case measure=>simp [intOf]; omega
   | false =>
     have HT:Hid (ts.all keyL=false):=HMEM.out rfl
     clear HST HMEM HA
     go_wp2_with fail
     go_ret
     rw [HT.out]
     exact ⟨rfl,HB2.out⟩
  ·
   have ek:k=ts.length:=by omega
   subst ek
   rw [List.take_length] at HA
   go_wp2_with fail
   go_ret
   rw [HA.out]
   exact ⟨rfl,HB.out⟩
def cellsM (m:Msg) (a:Option Addr) (c:Nat):Array Value:=#[.int .i64 m.kind,.int .i64 m.queue,.int .i64 m.due,.int .i64 m.retry,.int .i64 m.ref,.int .i64 m.born,.string (S m.topic),.string (S m.tag),.string (S m.body),.slice a m.keys.length c]
def inI (n:Int):Prop := -9223372036854775808≤n∧n≤9223372036854775807
structure MsgOk (m:Msg):Prop where
 kind:inI m.kind
 queue:inI m.queue
 due:inI m.due
 retry:inI m.retry
 ref:inI m.ref
 born:inI m.born
 topic:m.topic.length≤1073741824
 tag:m.tag.length≤1073741824
 body:m.body.length≤1073741824
 keys:m.keys.length≤1048576
 key:∀ t∈m.keys,t.length≤1073741824
def Boxed (w:World) (B:Nat) (cs:Array Value):Prop:=∀ (k:Nat) (v:Value),cs[k]?=some v→w.cell? ⟨B,k,none⟩=some v
theorem ten_cells {w:World} {A:Nat} {m:Msg} {a:Option Addr} {c:Nat} (h:Boxed w A (cellsM m a c)):w.cell? ⟨A,0,none⟩=some (.int .i64 m.kind)∧w.cell? ⟨A,1,none⟩=some (.int .i64 m.queue)∧w.cell? ⟨A,2,none⟩=some (.int .i64 m.due)∧w.cell? ⟨A,3,none⟩=some (.int .i64 m.retry)∧w.cell? ⟨A,4,none⟩=some (.int .i64 m.ref)∧w.cell? ⟨A,5,none⟩=some (.int .i64 m.born)∧w.cell? ⟨A,6,none⟩=some (.string (S m.topic))∧w.cell? ⟨A,7,none⟩=some (.string (S m.tag))∧w.cell? ⟨A,8,none⟩=some (.string (S m.body))∧w.cell? ⟨A,9,none⟩=some (.slice a m.keys.length c):=⟨h 0 _ rfl,h 1 _ rfl,h 2 _ rfl,h 3 _ rfl,h 4 _ rfl,h 5 _ rfl,h 6 _ rfl,h 7 _ rfl,h 8 _ rfl,h 9 _ rfl⟩
theorem Boxed.below {W w:World} {B:Nat} {cs:Array Value} (h:Boxed W B cs) (hb:Below W.heap.size W w):Boxed w B cs:=fun k v e=>by
 have hc:=h k v e
 rw [hb.cell (cell_lt hc)]; exact hc
theorem Boxed.new (w:World) (cs:Array Value) (e:TypeId):Boxed (w.alloc (.cells cs e)) w.heap.size cs:=fun k v h=>by rw [World.cell?_alloc_new]; exact h
theorem Strs.below {W w:World} {a:Option Addr} {ts:List ByteArray} (h:Strs W a ts) (hb:Below W.heap.size W w):Strs w a ts:=(Row1.of_strs h |>.below hb).to_strs
theorem nums_fit (n:Nat) (xs:List Int) (h1:1≤n) (h7:n≤7) (h:∀ x∈xs,OctW.fits n x):OctW.numsW (n:Int) xs=(OctW.numsL n xs,0):=by
 unfold OctW.numsW
 rw [if_neg (by omega),Int.toNat_natCast,if_pos h]
theorem ints_new (w:World) (xs:List Int) (e:TypeId):OctW.Ints (w.alloc (.cells (xs.map fun x=>Value.int .i64 x).toArray e)) (some ⟨w.heap.size,0,none⟩) xs:=fun i hi =>
 ⟨_,0,rfl,by rw [Nat.zero_add,World.cell?_alloc_new]; simp [hi]⟩
theorem strs_new (w:World) (xs:List ByteArray) (e:TypeId):Strs (w.alloc (.cells (xs.map fun x=>Value.string x).toArray e)) (some ⟨w.heap.size,0,none⟩) xs:=fun i hi =>
 ⟨_,0,rfl,by rw [Nat.zero_add,World.cell?_alloc_new]; simp [hi]⟩
theorem unlike_any (a:Option Addr) (cap:Nat) (ts:List (List UInt8)) (hx:ts.length≤1048576) (W:World) (hS:Strs W a (ts.map S)) :
 Calls Tryz.prog 209 #[.slice a ts.length cap] W fun e w'=>e=.returned (.bool (decide ts.Nodup))∧Below W.heap.size W w':=by
 have hV:=Lib.hid (TagW.values_any a ts.length cap W)
 have HB2:Hid (Below W.heap.size W (W.alloc (.cells #[.slice a ts.length cap] 31))):=(Below.refl _ _).alloc (Nat.le_refl _) _
 have HSO:=Lib.hid (SeqW.sorted_values W.heap.size cap a ts hx (W.alloc (.cells #[.slice a ts.length cap] 31)) (Strs.below hS HB2.out) (by simp) (by rw [World.cell?_alloc_new]; rfl))
 have hlen:(ts.mergeSort (fun x y=>decide (x≤y))).length=ts.length:=List.length_mergeSort _
 have HND:Hid (decide ts.Nodup=!decide ((Lib.compact (ts.mergeSort (fun x y=>decide (x≤y)))).length < ts.length)):=by
  have h1:=DupMath.dup_nodup ts
  unfold TagW.dupL at h1
  rw [decide_eq_true_eq] at h1
  show _=_
  by_cases h:ts.Nodup
  · rw [decide_eq_true h,decide_eq_false (fun h2=>h1.1 h2 h)]; rfl
  · rw [decide_eq_false h,decide_eq_true (h1.2 h)]; rfl
 have hle:(Lib.compact (ts.mergeSort (fun x y=>decide (x≤y)))).length≤ts.length:=by
  rw [← hlen]
  unfold Lib.compact Lib.compactUpTo
  rw [List.length_map]
  exact Nat.le_trans (List.length_filter_le _ _) (by simp)
 generalize ts.mergeSort (fun x y=>decide (x≤y))=ss at *
 clear hS
 go_enter Tryz.func209,Tryz.ntmps209
 go_wp2_with fail
 refine hV.out.mono ?_
 rintro e w2 ⟨rfl,rfl⟩
 clear hV
 go_wp2_with fail
 refine HSO.out.mono ?_
 rintro e w3 ⟨v,rfl,hrow,hb⟩
 have HB3:=Lib.hid (HB2.out.trans (hb.mono HB2.out.size))
 have HC:=Lib.hid (TagW.compact_any W.heap.size v ss (by omega) W w3 HB3.out (by rw [hlen]; exact SeqW.own_base hrow HB2.out.size))
 generalize (Lib.compact ss).length=cn at *
 generalize ts.length=tn at *
 clear hrow hb HSO hlen
 go_wp2_with fail
 refine HC.out.mono ?_
 rintro e w4 ⟨⟨a4,c4,rfl⟩,hb⟩
 have HB4:=Lib.hid hb
 clear hb HC
 by_cases h:cn=tn
 ·
  subst h
  go_wp2_with fail
  go_ret
  exact ⟨ret_bool (by rw [HND.out]; simp),HB4.out⟩
 ·
  have hne:¬ (cn:Int)=(tn:Int):=by omega
  go_wp2_with fail
  go_ret
  exact ⟨ret_bool (by rw [HND.out,decide_eq_true (by omega:cn < tn)]; first | rfl | (simp; omega)),HB4.out⟩
theorem fill_any (n:Int) (h1 : -9223372036854775808≤n) (h2:n≤1099511627776) (w:World) :
 Calls Tryz.prog 49 #[.int .i64 n] w fun e w'=>e=.returned (.tuple #[.string (S (fillL n)),.bool (decide (3≤n∧n≤1024))])∧Below w.heap.size w w':=by
 by_cases ha:n < 3
 ·
  have hf:fillL n=[]:=by unfold fillL; rw [if_pos (.inl ha)]
  rw [hf,decide_eq_false (by omega)]
  clear hf
  go_enter Tryz.func49,Tryz.ntmps49
  go_wp2_with fail
  go_ret2
  exact ⟨rfl,Below.refl _ _⟩
 ·
  by_cases hb:1024 < n
  ·
   have hf:fillL n=[]:=by unfold fillL; rw [if_pos (.inr hb)]
   rw [hf,decide_eq_false (by omega)]
   clear hf
   go_enter Tryz.func49,Tryz.ntmps49
   go_wp2_with fail
   go_ret2
   exact ⟨rfl,Below.refl _ _⟩
  ·
   obtain ⟨k,rfl⟩:∃ k:Nat,n=(k:Int):=⟨n.toNat,by omega⟩
   rw [decide_eq_true (by omega)]
   have hf:fillL (k:Int)=90 :: be 2 k++noughts (k - 3):=by unfold fillL; rw [if_neg (by omega),Int.toNat_natCast]
   have HFE:Hid (S [90]++S (be 2 k)++S (noughts (k - 3))=S (fillL (k:Int))):=by show _=_; rw [S_append,S_append,hf]; rfl
   have HB1:Hid (Below w.heap.size w (w.alloc (.cells #[.int .i64 (k:Int)] 3))):=(Below.refl _ _).alloc (Nat.le_refl _) _
   have hnw:OctW.numsW 2 [(k:Int)]=(be 2 k,0):=by
    rw [show (2:Int)=((2:Nat):Int) from rfl,nums_fit 2 _ (by omega) (by omega) (fun x hx=>by rw [List.mem_singleton] at hx; subst hx; exact ⟨by omega,by show (k:Int) < ((256 ^ 2:Nat):Int); omega⟩)]
    simp [OctW.numsL]
   have HN:=Lib.hid (OctW.nums_any 2 (by omega) (by omega) (some ⟨w.heap.size,0,none⟩) 1 [(k:Int)] (by simp) (fun x hx=>by simp at hx; omega) (w.alloc (.cells #[.int .i64 (k:Int)] 3)) (ints_new w [(k:Int)] _))
   rw [hnw] at HN
   have hk3:((k - 3:Nat):Int)=(k:Int) - 3:=by omega
   have HZ:=Lib.hid (fun (w2:World)=>noughts_any (k - 3) (by omega) w2)
   rw [hk3] at HZ
   have hz1:(S (be 2 k)).size=2:=by rw [S_size,be_length]
   have hz2:(S (noughts (k - 3))).size≤1024:=by rw [S_size]; unfold noughts; simp; omega
   generalize S (be 2 k)=s1 at *
   generalize S (noughts (k - 3))=s2 at *
   clear hnw hf hk3
   go_enter Tryz.func49,Tryz.ntmps49
   go_wp2_with fail
   refine HN.out.mono ?_
   rintro e w2 ⟨rfl,hb2⟩
   have HB2:=Lib.hid (HB1.out.trans (hb2.mono HB1.out.size))
   clear hb2 HN
   go_wp2_with fail
   refine (HZ.out _).mono ?_
   rintro e w3 ⟨rfl,hb3⟩
   have HB3:=Lib.hid (HB2.out.trans (hb3.mono HB2.out.size))
   clear hb3 HZ
   go_wp2_with fail
   go_ret2
   exact ⟨by rw [← HFE.out]; rfl,HB3.out⟩
theorem carries_any (m:Msg) (hm:MsgOk m) (a:Option Addr) (c:Nat) (W:World) (hS:Strs W a (m.keys.map S)) :
 Calls Tryz.prog 162 #[.agg (cellsM m a c)] W fun e w'=>e=.returned (.bool (carriesL m))∧Below W.heap.size W w':=by
 have HB0:Hid (Below W.heap.size W (W.alloc (.cells (cellsM m a c) 53))):=(Below.refl _ W).alloc (Nat.le_refl _) _
 have HX:Hid (Boxed (W.alloc (.cells (cellsM m a c) 53)) W.heap.size (cellsM m a c)):=Boxed.new W _ _
 have HS0:=Lib.hid (Strs.below hS HB0.out)
 have HTOP:=Lib.hid (fun w=>NameW.topic_any m.topic (by have:=hm.topic; omega) w)
 have HTAG:=Lib.hid (fun w=>NameW.tag_any m.tag (by have:=hm.tag; omega) w)
 have HALL:=Lib.hid (fun w (h:Strs w a (m.keys.map S))=>allk_any a c m.keys hm.keys (fun t ht=>by have:=hm.key t ht; omega) w h)
 have HUNL:=Lib.hid (fun w (h:Strs w a (m.keys.map S))=>unlike_any a c m.keys hm.keys w h)
 have HC:Hid (carriesL m=(topicL m.topic && decide (0≤m.queue) && decide (m.queue < 3) && decide (0≤m.retry) && decide (m.retry≤4) && (m.tag.isEmpty || plainL m.tag) && decide (m.keys.length≤3) && m.keys.all keyL && decide m.keys.Nodup && decide (m.body.length≤200))):=rfl
 have hsz:=S_size
 have hcu:(cellsM m a c).size=10:=rfl
 have hkn:m.keys.length≤1048576:=hm.keys
 have hbn:m.body.length≤1073741824:=hm.body
 clear hm hS
 go_enter Tryz.func162,Tryz.ntmps162
 go_upto_region 1 with fail
 generalize W.alloc (.cells (cellsM m a c) 53)=w1 at *
 clear hcu
 obtain ⟨A,hA⟩:∃ A,W.heap.size=A:=⟨_,rfl⟩
 rw [hA] at HX HB0 ⊢
 have k6:w1.cell? ⟨A,6,none⟩=some (.string (S m.topic)):=HX.out 6 _ rfl
 go_wp2_with fail
 refine (HTOP.out w1).mono ?_
 rintro e w2 ⟨rfl,hb⟩
 have HB1:=Lib.hid (HB0.out.trans (hb.mono (by have h9:=HB0.out.size; omega)))
 have HX1:Hid (Boxed w2 A (cellsM m a c)):=HX.out.below hb
 have HS1:=Lib.hid (Strs.below HS0.out hb)
 clear hb
 generalize topicL m.topic=tp at *
 cases tp with
 | false =>
   have hF:carriesL m=false:=by rw [HC.out]; simp
   have HF:=Lib.hid hF
   clear hF HC
   go_wp2_with fail
   go_ret
   exact ⟨ret_bool (by rw [HF.out]),hA ▸ HB1.out⟩
 | true =>
   have k1:w2.cell? ⟨A,1,none⟩=some (.int .i64 m.queue):=HX1.out 1 _ rfl
   have k3:w2.cell? ⟨A,3,none⟩=some (.int .i64 m.retry):=HX1.out 3 _ rfl
   have k7:w2.cell? ⟨A,7,none⟩=some (.string (S m.tag)):=HX1.out 7 _ rfl
   by_cases h1:0≤m.queue
   case neg =>
    have hF:carriesL m=false:=by rw [HC.out]; rw [decide_eq_false h1]; simp
    have HF:=Lib.hid hF
    clear hF HC
    go_wp2_with fail
    go_ret
    exact ⟨ret_bool (by rw [HF.out]),hA ▸ HB1.out⟩
   by_cases h2:m.queue < 3
   case neg =>
    have hF:carriesL m=false:=by rw [HC.out]; rw [decide_eq_false h2]; simp
    have HF:=Lib.hid hF
    clear hF HC
    go_wp2_with fail
    go_ret
    exact ⟨ret_bool (by rw [HF.out]),hA ▸ HB1.out⟩
   by_cases h3:0≤m.retry
   case neg =>
    have hF:carriesL m=false:=by rw [HC.out]; rw [decide_eq_false h3]; simp
    have HF:=Lib.hid hF
    clear hF HC
    go_wp2_with fail
    go_ret
    exact ⟨ret_bool (by rw [HF.out]),hA ▸ HB1.out⟩
   by_cases h4:m.retry≤4
   case neg =>
    have hF:carriesL m=false:=by rw [HC.out]; rw [decide_eq_false h4]; simp
    have HF:=Lib.hid hF
    clear hF HC
    go_wp2_with fail
    go_ret
    exact ⟨ret_bool (by rw [HF.out]),hA ▸ HB1.out⟩
   go_wp2_with fail
   refine (HTAG.out w2).mono ?_
   rintro e w3 ⟨rfl,hb⟩
   have HB2:=Lib.hid (HB1.out.trans (hb.mono (by have h9:=HB1.out.size; omega)))
   have HX2:Hid (Boxed w3 A (cellsM m a c)):=HX1.out.below hb
   have HS2:=Lib.hid (Strs.below HS1.out hb)
   clear hb
   generalize (m.tag.isEmpty || plainL m.tag)=tg at *
   cases tg with
   | false =>
     have hF:carriesL m=false:=by rw [HC.out]; simp
     have HF:=Lib.hid hF
     clear hF HC
     go_wp2_with fail
     go_ret
     exact ⟨ret_bool (by rw [HF.out]),hA ▸ HB2.out⟩
   | true =>
     have k9:w3.cell? ⟨A,9,none⟩=some (.slice a m.keys.length c):=HX2.out 9 _ rfl
     by_cases h5:m.keys.length≤3
     case neg =>
      have hF:carriesL m=false:=by rw [HC.out]; rw [decide_eq_false h5]; simp
      have HF:=Lib.hid hF
      clear hF HC
      go_wp2_with fail
      go_ret
      exact ⟨ret_bool (by rw [HF.out]),hA ▸ HB2.out⟩
     go_wp2_with fail
     refine (HALL.out w3 HS2.out).mono ?_
     rintro e w4 ⟨rfl,hb⟩
     have HB3:=Lib.hid (HB2.out.trans (hb.mono (by have h9:=HB2.out.size; omega)))
     have HX3:Hid (Boxed w4 A (cellsM m a c)):=HX2.out.below hb
     have HS3:=Lib.hid (Strs.below HS2.out hb)
     clear hb
     generalize m.keys.all keyL=ak at *
     cases ak with
     | false =>
       have hF:carriesL m=false:=by rw [HC.out]; simp
       have HF:=Lib.hid hF
       clear hF HC
       go_wp2_with fail
       go_ret
       exact ⟨ret_bool (by rw [HF.out]),hA ▸ HB3.out⟩
     | true =>
       have k9b:w4.cell? ⟨A,9,none⟩=some (.slice a m.keys.length c):=HX3.out 9 _ rfl
       go_wp2_with fail
       refine (HUNL.out w4 HS3.out).mono ?_
       rintro e w5 ⟨rfl,hb⟩
       have HB4:=Lib.hid (HB3.out.trans (hb.mono (by have h9:=HB3.out.size; omega)))
       have HX4:Hid (Boxed w5 A (cellsM m a c)):=HX3.out.below hb
       have HS4:=Lib.hid (Strs.below HS3.out hb)
       clear hb
       generalize decide m.keys.Nodup=nd at *
       cases nd with
       | false =>
         have hF:carriesL m=false:=by rw [HC.out]; simp
         have HF:=Lib.hid hF
         clear hF HC
         go_wp2_with fail
         go_ret
         exact ⟨ret_bool (by rw [HF.out]),hA ▸ HB4.out⟩
       | true =>
         have k8:w5.cell? ⟨A,8,none⟩=some (.string (S m.body)):=HX4.out 8 _ rfl
         have hF:carriesL m=decide (m.body.length≤200):=by rw [HC.out,decide_eq_true h1,decide_eq_true h2,decide_eq_true h3,decide_eq_true h4,decide_eq_true h5]; simp
         have HF:=Lib.hid hF
         clear hF HC
         by_cases h6:m.body.length≤200
         case pos =>
          go_wp2_with fail
          go_ret
          exact ⟨ret_bool (by rw [HF.out]; simp; first | exact h6 | omega),hA ▸ HB4.out⟩
         case neg =>
          go_wp2_with fail
          go_ret
          exact ⟨ret_bool (by rw [HF.out]; simp; first | exact h6 | omega),hA ▸ HB4.out⟩
theorem map_S_inj {a b:List (List UInt8)}:a.map S=b.map S↔a=b:=by
 constructor
 ·
  intro h
  have:=congrArg (List.map fun x:ByteArray=>x.data.toList) h
  rw [List.map_map,List.map_map] at this
  have e:((fun x:ByteArray=>x.data.toList) ∘ S)=id:=by funext x; exact S_list x
  rwa [e,List.map_id,List.map_id] at this
 · rintro rfl; rfl
theorem equal_any (a b:Option Addr) (c d:Nat) (xs ys:List (List UInt8)) (hx:xs.length≤1048576) (hy:ys.length≤1048576) (w:World) (h:Strs w a (xs.map S)) (h2:Strs w b (ys.map S)) :
 Calls Tryz.prog 210 #[.slice a xs.length c,.slice b ys.length d] w fun e w'=>e=.returned (.bool (decide (xs=ys)))∧Drawn w w':=by
 by_cases hl:xs.length=ys.length
 ·
  rcases Nat.eq_zero_or_pos xs.length with h0 | h0
  ·
   have e1:xs=[]:=List.eq_nil_of_length_eq_zero h0
   have e2:ys=[]:=List.eq_nil_of_length_eq_zero (hl.symm.trans h0)
   subst e1 e2
   refine (Tryz.slices_Equal_string_empty a b c 0 d w (by omega)).mono ?_
   rintro e w' ⟨rfl,rfl⟩
   exact ⟨rfl,Drawn.refl _⟩
  ·
   obtain ⟨b1,o1,rfl,_⟩:=h 0 (by rw [List.length_map]; omega)
   obtain ⟨b2,o2,rfl,_⟩:=h2 0 (by rw [List.length_map]; omega)
   have hc:∀ {b o:Nat} {zs:List (List UInt8)},Strs w (some ⟨b,o,none⟩) (zs.map S)→∀ j,j < (zs.map S).length→w.cell? ⟨b,o+j,none⟩=some (.string ((zs.map S).getD j ByteArray.empty)):=by
    intro b o zs hh j hj
    obtain ⟨b',o',e,hcell⟩:=hh j hj
    cases e
    rw [hcell]
    simp [List.getD_eq_getElem?_getD,List.getElem?_eq_getElem hj]
   have:=Tryz.slices_Equal_string b1 o1 xs.length c b2 o2 ys.length d (xs.map S) (ys.map S) w (by simp) (by simp) (by omega) (by omega) (hc h) (hc h2)
   refine this.mono ?_
   rintro e w' ⟨rfl,q,rfl⟩
   refine ⟨?_,⟨q,rfl⟩⟩
   rw [List.take_of_length_le (by simp),List.take_of_length_le (by simp)]
   congr 2
   exact decide_eq_decide.2 map_S_inj
 · refine (Tryz.slices_Equal_string_lens a b xs.length c ys.length d w hl).mono ?_
   rintro e w' ⟨rfl,rfl⟩
   exact ⟨ret_bool (decide_eq_false (fun e=>hl (by rw [e]))).symm,Drawn.refl _⟩
theorem same_any (x y:Msg) (hx:MsgOk x) (hy:MsgOk y) (a b:Option Addr) (c d:Nat) (W:World) (hS:Strs W a (x.keys.map S)) (hS2:Strs W b (y.keys.map S)) :
 Calls Tryz.prog 163 #[.agg (cellsM x a c),.agg (cellsM y b d)] W fun e w'=>e=.returned (.bool (decide (x=y)))∧Below W.heap.size W w':=by
 have HB0:Hid (Below W.heap.size W ((W.alloc (.cells (cellsM x a c) 53)).alloc (.cells (cellsM y b d) 53))):=((Below.refl _ W).alloc (Nat.le_refl _) _).alloc (by simp) _
 have HX:Hid (Boxed ((W.alloc (.cells (cellsM x a c) 53)).alloc (.cells (cellsM y b d) 53)) W.heap.size (cellsM x a c)):=(Boxed.new W _ _).below ((Below.refl _ _).alloc (Nat.le_refl _) _)
 have HY:Hid (Boxed ((W.alloc (.cells (cellsM x a c) 53)).alloc (.cells (cellsM y b d) 53)) (W.heap.size+1) (cellsM y b d)):=by
  have:=Boxed.new (W.alloc (.cells (cellsM x a c) 53)) (cellsM y b d) 53
  rw [World.size_alloc] at this; exact this
 have HEQ:=Lib.hid (equal_any a b c d x.keys y.keys hx.keys hy.keys _ (Strs.below hS HB0.out) (Strs.below hS2 HB0.out))
 have htl:=S_toList
 have hcu:(cellsM x a c).size=10:=rfl
 have hcv:(cellsM y b d).size=10:=rfl
 clear hx hy hS hS2
 go_enter Tryz.func163,Tryz.ntmps163
 go_upto_region 1 with fail
 generalize (W.alloc (.cells (cellsM x a c) 53)).alloc (.cells (cellsM y b d) 53)=w1 at *
 clear hcu hcv
 obtain ⟨B,hB⟩:∃ B,W.heap.size+1=B:=⟨_,rfl⟩
 rw [hB] at HY ⊢
 obtain ⟨A,hA⟩:∃ A,W.heap.size=A:=⟨_,rfl⟩
 rw [hA] at HX ⊢ HB0
 have k0:w1.cell? ⟨A,0,none⟩=some (.int .i64 x.kind):=HX.out 0 _ rfl
 have l0:w1.cell? ⟨B,0,none⟩=some (.int .i64 y.kind):=HY.out 0 _ rfl
 have k1:w1.cell? ⟨A,1,none⟩=some (.int .i64 x.queue):=HX.out 1 _ rfl
 have l1:w1.cell? ⟨B,1,none⟩=some (.int .i64 y.queue):=HY.out 1 _ rfl
 have k2:w1.cell? ⟨A,2,none⟩=some (.int .i64 x.due):=HX.out 2 _ rfl
 have l2:w1.cell? ⟨B,2,none⟩=some (.int .i64 y.due):=HY.out 2 _ rfl
 have k3:w1.cell? ⟨A,3,none⟩=some (.int .i64 x.retry):=HX.out 3 _ rfl
 have l3:w1.cell? ⟨B,3,none⟩=some (.int .i64 y.retry):=HY.out 3 _ rfl
 have k4:w1.cell? ⟨A,4,none⟩=some (.int .i64 x.ref):=HX.out 4 _ rfl
 have l4:w1.cell? ⟨B,4,none⟩=some (.int .i64 y.ref):=HY.out 4 _ rfl
 have k5:w1.cell? ⟨A,5,none⟩=some (.int .i64 x.born):=HX.out 5 _ rfl
 have l5:w1.cell? ⟨B,5,none⟩=some (.int .i64 y.born):=HY.out 5 _ rfl
 have k6:w1.cell? ⟨A,6,none⟩=some (.string (S x.topic)):=HX.out 6 _ rfl
 have l6:w1.cell? ⟨B,6,none⟩=some (.string (S y.topic)):=HY.out 6 _ rfl
 have k7:w1.cell? ⟨A,7,none⟩=some (.string (S x.tag)):=HX.out 7 _ rfl
 have l7:w1.cell? ⟨B,7,none⟩=some (.string (S y.tag)):=HY.out 7 _ rfl
 have k8:w1.cell? ⟨A,8,none⟩=some (.string (S x.body)):=HX.out 8 _ rfl
 have l8:w1.cell? ⟨B,8,none⟩=some (.string (S y.body)):=HY.out 8 _ rfl
 have k9:w1.cell? ⟨A,9,none⟩=some (.slice a x.keys.length c):=HX.out 9 _ rfl
 have l9:w1.cell? ⟨B,9,none⟩=some (.slice b y.keys.length d):=HY.out 9 _ rfl
 by_cases h0:x.kind=y.kind
 case neg =>
  have HF:Hid (decide (x=y)=false):=decide_eq_false (fun e=>h0 (by rw [e]))
  go_wp2_with fail
  go_ret
  exact ⟨ret_bool HF.out.symm,hA ▸ HB0.out⟩
 by_cases h1:x.queue=y.queue
 case neg =>
  have HF:Hid (decide (x=y)=false):=decide_eq_false (fun e=>h1 (by rw [e]))
  go_wp2_with fail
  go_ret
  exact ⟨ret_bool HF.out.symm,hA ▸ HB0.out⟩
 by_cases h2:x.due=y.due
 case neg =>
  have HF:Hid (decide (x=y)=false):=decide_eq_false (fun e=>h2 (by rw [e]))
  go_wp2_with fail
  go_ret
  exact ⟨ret_bool HF.out.symm,hA ▸ HB0.out⟩
 by_cases h3:x.retry=y.retry
 case neg =>
  have HF:Hid (decide (x=y)=false):=decide_eq_false (fun e=>h3 (by rw [e]))
  go_wp2_with fail
  go_ret
  exact ⟨ret_bool HF.out.symm,hA ▸ HB0.out⟩
 by_cases h4:x.ref=y.ref
 case neg =>
  have HF:Hid (decide (x=y)=false):=decide_eq_false (fun e=>h4 (by rw [e]))
  go_wp2_with fail
  go_ret
  exact ⟨ret_bool HF.out.symm,hA ▸ HB0.out⟩
 by_cases h5:x.born=y.born
 case neg =>
  have HF:Hid (decide (x=y)=false):=decide_eq_false (fun e=>h5 (by rw [e]))
  go_wp2_with fail
  go_ret
  exact ⟨ret_bool HF.out.symm,hA ▸ HB0.out⟩
 by_cases h6:x.topic=y.topic
 case neg =>
  have HF:Hid (decide (x=y)=false):=decide_eq_false (fun e=>h6 (by rw [e]))
  go_wp2_with fail
  go_ret
  exact ⟨ret_bool HF.out.symm,hA ▸ HB0.out⟩
 by_cases h7:x.tag=y.tag
 case neg =>
  have HF:Hid (decide (x=y)=false):=decide_eq_false (fun e=>h7 (by rw [e]))
  go_wp2_with fail
  go_ret
  exact ⟨ret_bool HF.out.symm,hA ▸ HB0.out⟩
 by_cases h8:x.body=y.body
 case neg =>
  have HF:Hid (decide (x=y)=false):=decide_eq_false (fun e=>h8 (by rw [e]))
  go_wp2_with fail
  go_ret
  exact ⟨ret_bool HF.out.symm,hA ▸ HB0.out⟩
 have HF:Hid (decide (x=y)=decide (x.keys=y.keys)):=decide_eq_decide.2 ⟨fun e=>by rw [e],fun e=>by
  cases x; cases y; simp only at *; subst h0 h1 h2 h3 h4 h5 h6 h7 h8 e; rfl⟩
 generalize decide (x.keys=y.keys)=ke at *
 go_wp2_with fail
 refine HEQ.out.mono ?_
 rintro e w2 ⟨rfl,hd⟩
 have HD:=Lib.hid hd
 clear hd HEQ
 go_wp2_with fail
 go_ret
 exact ⟨ret_bool HF.out.symm,hA ▸ (HB0.out.trans (HD.out.below A))⟩
open DskW
theorem strs_nil (w:World) (a:Option Addr):Strs w a (([]:List (List UInt8)).map S):=fun i hi=>absurd hi (by simp)
theorem inI0:inI 0:=by unfold inI; omega
theorem ok_cancel {m:Msg} (h:MsgOk m):MsgOk { noMsg with kind:=m.kind,ref:=m.ref,born:=m.born } :=
 ⟨h.kind,inI0,inI0,inI0,h.ref,h.born,Nat.zero_le _,Nat.zero_le _,Nat.zero_le _,Nat.zero_le _,fun t ht=>by cases ht⟩
theorem ok_fill {m:Msg} (h:MsgOk m):MsgOk { noMsg with body:=m.body } :=
 ⟨inI0,inI0,inI0,inI0,inI0,inI0,Nat.zero_le _,Nat.zero_le _,h.body,Nat.zero_le _,fun t ht=>by cases ht⟩
theorem right_any (m:Msg) (hm:MsgOk m) (a:Option Addr) (c:Nat) (W:World) (hS:Strs W a (m.keys.map S)) :
 Calls Tryz.prog 98 #[.agg (cellsM m a c)] W fun e w'=>e=.returned (.bool (rightL m))∧Below W.heap.size W w':=by
 have HB0:Hid (Below W.heap.size W (W.alloc (.cells (cellsM m a c) 53))):=(Below.refl _ W).alloc (Nat.le_refl _) _
 have HX:Hid (Boxed (W.alloc (.cells (cellsM m a c) 53)) W.heap.size (cellsM m a c)):=Boxed.new W _ _
 have HS0:=Lib.hid (Strs.below hS HB0.out)
 have HM:=Lib.hid hm
 have HC:Hid (rightL m=if badNum m.due || badNum m.ref || badNum m.born then false
  else if m.kind=1 then carriesL m && decide (m.due=0) && decide (m.ref=0)
  else if m.kind=2∨m.kind=3 then carriesL m
  else if m.kind=4 then decide (m={ noMsg with kind:=4,ref:=m.ref,born:=m.born })
  else if m.kind=0 then decide (m.body.length≤1024) && decide (m.body=noughts m.body.length) && decide (m={ noMsg with body:=m.body })
  else false):=rfl
 have hsz:=S_size
 have htl:=S_toList
 have hbn:m.body.length≤1073741824:=hm.body
 have hcu:(cellsM m a c).size=10:=rfl
 clear hm hS
 go_enter Tryz.func98,Tryz.ntmps98
 go_upto_region 1 with fail
 generalize W.alloc (.cells (cellsM m a c) 53)=w1 at *
 clear hcu
 obtain ⟨A,hA⟩:∃ A,W.heap.size=A:=⟨_,rfl⟩
 rw [hA] at HX HB0 ⊢
 have k2:w1.cell? ⟨A,2,none⟩=some (.int .i64 m.due):=HX.out 2 _ rfl
 have k4:w1.cell? ⟨A,4,none⟩=some (.int .i64 m.ref):=HX.out 4 _ rfl
 have k5:w1.cell? ⟨A,5,none⟩=some (.int .i64 m.born):=HX.out 5 _ rfl
 have HN:=Lib.hid (nums_any w1.heap.size [m.due,m.ref,m.born] (by simp) (by simp) (w1.alloc (.cells #[.int .i64 m.due,.int .i64 m.ref,.int .i64 m.born] 3)) (fun j hj=>by
  rw [World.cell?_alloc_new]
  match j,hj with
  | 0,_=>rfl
  | 1,_=>rfl
  | 2,_=>rfl
  | j+3,hj=>exact absurd hj (by simp)))
 have HB1:Hid (Below A W (w1.alloc (.cells #[.int .i64 m.due,.int .i64 m.ref,.int .i64 m.born] 3))):=HB0.out.alloc (by have:=HB0.out.size; omega) _
 have hany:[m.due,m.ref,m.born].any badNum=(badNum m.due || badNum m.ref || badNum m.born):=by simp [Bool.or_assoc]
 rw [hany] at HN
 change Hid (Calls _ _ #[.slice _ 3 3] _ _) at HN
 generalize (badNum m.due || badNum m.ref || badNum m.born)=bd at *
 clear hany
 go_wp2_with fail
 refine HN.out.mono ?_
 rintro e w2 ⟨rfl,hd⟩
 have HB2:=Lib.hid (HB1.out.trans (hd.below A))
 have HX2:Hid (Boxed w2 A (cellsM m a c)):=(HX.out.below ((Below.refl _ _).alloc (Nat.le_refl _) _)).below (hd.below _)
 have HS2:Hid (Strs w2 a (m.keys.map S)):=Strs.below (Strs.below HS0.out ((Below.refl _ _).alloc (Nat.le_refl _) _)) (hd.below _)
 clear hd HN
 cases bd with
 | true =>
   have HF:Hid (rightL m=false):=by show _=_; rw [HC.out]; rfl
   clear HC
   go_wp2_with fail
   go_ret
   exact ⟨ret_bool (by rw [HF.out]),hA ▸ HB2.out⟩
 | false =>
   replace HC:Hid (rightL m=if m.kind=1 then carriesL m && decide (m.due=0) && decide (m.ref=0)
    else if m.kind=2∨m.kind=3 then carriesL m
    else if m.kind=4 then decide (m={ noMsg with kind:=4,ref:=m.ref,born:=m.born })
    else if m.kind=0 then decide (m.body.length≤1024) && decide (m.body=noughts m.body.length) && decide (m={ noMsg with body:=m.body })
    else false):=by show _=_; rw [HC.out]; rfl
   obtain ⟨k0,k1,k2,k3,k4,k5,k6,k7,k8,k9⟩:=RecW.ten_cells HX2.out
   by_cases h1:m.kind=1
   case pos =>
    have HF:Hid (rightL m=(carriesL m && decide (m.due=0) && decide (m.ref=0))):=by show _=_; rw [HC.out,if_pos h1]
    have hca:=carries_any m HM.out a c w2 HS2.out
    generalize carriesL m=ca at *
    change Calls _ _ #[.agg #[.int .i64 m.kind,.int .i64 m.queue,.int .i64 m.due,.int .i64 m.retry,.int .i64 m.ref,.int .i64 m.born,.string (S m.topic),.string (S m.tag),.string (S m.body),.slice a m.keys.length c]] _ _ at hca
    rw [h1] at hca
    have HCA:=Lib.hid hca
    clear hca
    clear HC
    go_wp2_with fail
    refine HCA.out.mono ?_
    rintro e w3 ⟨rfl,hb⟩
    have HB3:=Lib.hid (HB2.out.trans (hb.mono (by have:=HB2.out.size; omega)))
    have k2:w3.cell? ⟨A,2,none⟩=some (.int .i64 m.due):=(HX2.out.below hb) 2 _ rfl
    have k4:w3.cell? ⟨A,4,none⟩=some (.int .i64 m.ref):=(HX2.out.below hb) 4 _ rfl
    clear hb HCA k0 k1 k3 k5 k6 k7 k8 k9
    cases ca with
    | false =>
      go_wp2_with fail
      go_ret
      exact ⟨ret_bool (by rw [HF.out]; rfl),hA ▸ HB3.out⟩
    | true =>
      by_cases hd:m.due=0
      · by_cases hr:m.ref=0
        · go_wp2_with fail
          go_ret
          exact ⟨ret_bool (by rw [HF.out,decide_eq_true hd,decide_eq_true hr]; first | rfl | simp [hd,hr]),hA ▸ HB3.out⟩
        · go_wp2_with fail
          go_ret
          exact ⟨ret_bool (by rw [HF.out,decide_eq_true hd,decide_eq_false hr]; first | rfl | simp [hd,hr]),hA ▸ HB3.out⟩
      · go_wp2_with fail
        go_ret
        exact ⟨ret_bool (by rw [HF.out,decide_eq_false hd]; first | rfl | simp [hd]),hA ▸ HB3.out⟩
   by_cases h2:m.kind=2
   case pos =>
    have HF:Hid (rightL m=carriesL m):=by show _=_; rw [HC.out,if_neg h1,if_pos (.inl h2)]
    have hca:=carries_any m HM.out a c w2 HS2.out
    generalize carriesL m=ca at *
    change Calls _ _ #[.agg #[.int .i64 m.kind,.int .i64 m.queue,.int .i64 m.due,.int .i64 m.retry,.int .i64 m.ref,.int .i64 m.born,.string (S m.topic),.string (S m.tag),.string (S m.body),.slice a m.keys.length c]] _ _ at hca
    rw [h2] at hca
    have HCA:=Lib.hid hca
    clear hca
    clear HC
    go_wp2_with fail
    refine HCA.out.mono ?_
    rintro e w3 ⟨rfl,hb⟩
    have HB3:=Lib.hid (HB2.out.trans (hb.mono (by have:=HB2.out.size; omega)))
    go_wp2_with fail
    go_ret
    exact ⟨ret_bool (by rw [HF.out]),hA ▸ HB3.out⟩
   by_cases h3:m.kind=3
   case pos =>
    have HF:Hid (rightL m=carriesL m):=by show _=_; rw [HC.out,if_neg h1,if_pos (.inr h3)]
    have hca:=carries_any m HM.out a c w2 HS2.out
    generalize carriesL m=ca at *
    change Calls _ _ #[.agg #[.int .i64 m.kind,.int .i64 m.queue,.int .i64 m.due,.int .i64 m.retry,.int .i64 m.ref,.int .i64 m.born,.string (S m.topic),.string (S m.tag),.string (S m.body),.slice a m.keys.length c]] _ _ at hca
    rw [h3] at hca
    have HCA:=Lib.hid hca
    clear hca
    clear HC
    go_wp2_with fail
    refine HCA.out.mono ?_
    rintro e w3 ⟨rfl,hb⟩
    have HB3:=Lib.hid (HB2.out.trans (hb.mono (by have:=HB2.out.size; omega)))
    go_wp2_with fail
    go_ret
    exact ⟨ret_bool (by rw [HF.out]),hA ▸ HB3.out⟩
   by_cases h4:m.kind=4
   case pos =>
    have HF:Hid (rightL m=decide (m={ noMsg with kind:=m.kind,ref:=m.ref,born:=m.born })):=by show _=_; rw [HC.out,if_neg h1,if_neg (by omega),if_pos h4,h4]
    have hsm:=same_any m _ HM.out (ok_cancel HM.out) a none c 0 w2 HS2.out (strs_nil w2 none)
    generalize decide (m={ noMsg with kind:=m.kind,ref:=m.ref,born:=m.born })=sm at *
    change Calls _ _ #[.agg #[.int .i64 m.kind,.int .i64 m.queue,.int .i64 m.due,.int .i64 m.retry,.int .i64 m.ref,.int .i64 m.born,.string (S m.topic),.string (S m.tag),.string (S m.body),.slice a m.keys.length c],.agg #[.int .i64 m.kind,.int .i64 0,.int .i64 0,.int .i64 0,.int .i64 m.ref,.int .i64 m.born,.string (S []),.string (S []),.string (S []),.slice none 0 0]] _ _ at hsm
    rw [h4] at hsm
    have HSM:=Lib.hid hsm
    clear hsm
    clear HC
    go_wp2_with fail
    refine HSM.out.mono ?_
    rintro e w3 ⟨rfl,hb⟩
    have HB3:=Lib.hid (HB2.out.trans (hb.mono (by have:=HB2.out.size; omega)))
    go_wp2_with fail
    go_ret
    exact ⟨ret_bool (by rw [HF.out]),hA ▸ HB3.out⟩
   by_cases h0:m.kind=0
   case neg =>
    have HF:Hid (rightL m=false):=by show _=_; rw [HC.out,if_neg h1,if_neg (by omega),if_neg h4,if_neg h0]
    clear HC
    go_wp2_with fail
    go_ret
    exact ⟨ret_bool (by rw [HF.out]),hA ▸ HB2.out⟩
   case pos =>
    replace HC:Hid (rightL m=(decide (m.body.length≤1024) && decide (m.body=noughts m.body.length) && decide (m={ noMsg with body:=m.body }))):=by show _=_; rw [HC.out,if_neg h1,if_neg (by omega),if_neg h4,if_pos h0]
    have hsm:=fun (w':World) (hb:Below w2.heap.size w2 w')=>same_any m _ HM.out (ok_fill HM.out) a none c 0 w' (Strs.below HS2.out hb) (strs_nil w' none)
    by_cases hb:m.body.length≤1024
    ·
     have hbi:(m.body.length:Int)≤1024:=by omega
     by_cases he:m.body=noughts m.body.length
     ·
      replace HC:Hid (rightL m=decide (m={ noMsg with body:=m.body })):=by show _=_; rw [HC.out,decide_eq_true hb,decide_eq_true he]; rfl
      generalize decide (m={ noMsg with body:=m.body })=sm at *
      have HNT:=Lib.hid (fun (w':World)=>noughts_any m.body.length (by omega) w')
      rw [← he] at HNT
      change ∀ w',_→Calls _ _ #[.agg #[.int .i64 m.kind,.int .i64 m.queue,.int .i64 m.due,.int .i64 m.retry,.int .i64 m.ref,.int .i64 m.born,.string (S m.topic),.string (S m.tag),.string (S m.body),.slice a m.keys.length c],.agg #[.int .i64 0,.int .i64 0,.int .i64 0,.int .i64 0,.int .i64 0,.int .i64 0,.string (S []),.string (S []),.string (S m.body),.slice none 0 0]] _ _ at hsm
      rw [h0] at hsm
      have HSM:=Lib.hid hsm
      clear hsm he
      go_wp2_with fail
      refine Grow.wp_region_g 21 [none,some (.inl (.string (S m.body))),none,some (.inl (.bool true)),none,none,some (.inl (.string (S m.body))),none,some (.inl (.string (S m.body))),none,some (.inl (.string (S m.body))),some (.inl (.bool true)),none,none,some (.inl (.agg #[.int .i64 0,.int .i64 m.queue,.int .i64 m.due,.int .i64 m.retry,.int .i64 m.ref,.int .i64 m.born,.string (S m.topic),.string (S m.tag),.string (S m.body),.slice a m.keys.length c])),none,some (.inl (.string (S m.body))),none,some (.inl (.bool sm)),none,none] Ext (by kernel_rfl) (by kernel_rfl) (by kernel_rfl) Ext.refl (fun _ _ _=>Ext.trans) ?_ ?_
      · intro K hK Y hY v w w' hR h
        simp only [List.mem_cons,List.not_mem_nil,or_false] at hK
        rcases hK with rfl | rfl | rfl | rfl | rfl | rfl | rfl | rfl | rfl | rfl | rfl | rfl | rfl | rfl | rfl | rfl | rfl | rfl | rfl | rfl | rfl <;> simp only [reduceCtorEq,Option.some.injEq,Sum.inr.injEq] at hY
      simp only [List.take_succ_cons,List.take_zero,List.drop_succ_cons,List.drop_zero]
      refine Grow.g_det rfl ?_
      apply Exists.intro
      refine ⟨fun w hw hF=>?_,?_⟩
      · clear hF
        go_simp
        exact ⟨rfl,Ext.refl _⟩
      go_frame
      refine Grow.g_con rfl (fun w2' hw hF=>?_) ?_
      · clear hF
        have k8:w2'.cell? ⟨A,8,none⟩=some (.string (S m.body)):=(HX2.out.below ((Below.refl w2.heap.size w2).drew.trans hw)) 8 _ rfl
        go_simp
        all_goals exact Ext.refl _
      go_frame
      refine Grow.g_det rfl ?_
      apply Exists.intro
      refine ⟨fun w hw hF=>?_,?_⟩
      · clear hF
        go_simp
        exact ⟨rfl,Ext.refl _⟩
      go_frame
      refine Grow.g_con rfl (fun w2' hw hF=>?_) ?_
      · clear hF
        go_simp
        all_goals first | exact Ext.refl _ | exact hbi | omega
      iterate 2
       go_frame
       refine Grow.g_det rfl ?_
       apply Exists.intro
       refine ⟨fun w hw hF=>?_,?_⟩
       · clear hF
         go_simp
         exact ⟨rfl,Ext.refl _⟩
      iterate 2
       go_frame
       refine Grow.g_con rfl (fun w2' hw hF=>?_) ?_
       · clear hF
         have k8:w2'.cell? ⟨A,8,none⟩=some (.string (S m.body)):=(HX2.out.below ((Below.refl w2.heap.size w2).drew.trans hw)) 8 _ rfl
         go_simp
         all_goals exact Ext.refl _
       go_frame
       refine Grow.g_det rfl ?_
       apply Exists.intro
       refine ⟨fun w hw hF=>?_,?_⟩
       · clear hF
         go_simp
         exact ⟨rfl,Ext.refl _⟩
      go_frame
      refine Grow.g_con rfl (fun w2' hw hF=>?_) ?_
      · clear hF
        go_simp
        exact (HNT.out w2').mono fun e w3 h=>⟨_,h.1,rfl,h.2⟩
      go_frame
      refine Grow.g_con rfl (fun w2' hw hF=>?_) ?_
      · clear hF
        go_simp
        all_goals first | exact Ext.refl _ | exact hne | (simpa using hne)
      iterate 2
       go_frame
       refine Grow.g_det rfl ?_
       apply Exists.intro
       refine ⟨fun w hw hF=>?_,?_⟩
       · clear hF
         go_simp
         exact ⟨rfl,Ext.refl _⟩
      go_frame
      refine Grow.g_con rfl (fun w2' hw hF=>?_) ?_
      ·
       clear hF
       have k0:w2'.cell? ⟨A,0,none⟩=some (.int .i64 0):=(h0 ▸ (show w2'.cell? ⟨A,0,none⟩=some (.int .i64 m.kind) from (HX2.out.below ((Below.refl w2.heap.size w2).drew.trans hw)) 0 _ rfl))
       have k1:w2'.cell? ⟨A,1,none⟩=some (.int .i64 m.queue):=(HX2.out.below ((Below.refl w2.heap.size w2).drew.trans hw)) 1 _ rfl
       have k2:w2'.cell? ⟨A,2,none⟩=some (.int .i64 m.due):=(HX2.out.below ((Below.refl w2.heap.size w2).drew.trans hw)) 2 _ rfl
       have k3:w2'.cell? ⟨A,3,none⟩=some (.int .i64 m.retry):=(HX2.out.below ((Below.refl w2.heap.size w2).drew.trans hw)) 3 _ rfl
       have k4:w2'.cell? ⟨A,4,none⟩=some (.int .i64 m.ref):=(HX2.out.below ((Below.refl w2.heap.size w2).drew.trans hw)) 4 _ rfl
       have k5:w2'.cell? ⟨A,5,none⟩=some (.int .i64 m.born):=(HX2.out.below ((Below.refl w2.heap.size w2).drew.trans hw)) 5 _ rfl
       have k6:w2'.cell? ⟨A,6,none⟩=some (.string (S m.topic)):=(HX2.out.below ((Below.refl w2.heap.size w2).drew.trans hw)) 6 _ rfl
       have k7:w2'.cell? ⟨A,7,none⟩=some (.string (S m.tag)):=(HX2.out.below ((Below.refl w2.heap.size w2).drew.trans hw)) 7 _ rfl
       have k8:w2'.cell? ⟨A,8,none⟩=some (.string (S m.body)):=(HX2.out.below ((Below.refl w2.heap.size w2).drew.trans hw)) 8 _ rfl
       have k9:w2'.cell? ⟨A,9,none⟩=some (.slice a m.keys.length c):=(HX2.out.below ((Below.refl w2.heap.size w2).drew.trans hw)) 9 _ rfl
       go_simp
       all_goals exact Ext.refl _
      go_frame
      refine Grow.g_det rfl ?_
      apply Exists.intro
      refine ⟨fun w hw hF=>?_,?_⟩
      · clear hF
        go_simp
        exact ⟨rfl,Ext.refl _⟩
      go_frame
      refine Grow.g_con rfl (fun w2' hw hF=>?_) ?_
      · clear hF
        have k8:w2'.cell? ⟨A,8,none⟩=some (.string (S m.body)):=(HX2.out.below ((Below.refl w2.heap.size w2).drew.trans hw)) 8 _ rfl
        go_simp
        all_goals exact Ext.refl _
      go_frame
      refine Grow.g_det rfl ?_
      apply Exists.intro
      refine ⟨fun w hw hF=>?_,?_⟩
      · clear hF
        go_simp
        exact ⟨rfl,Ext.refl _⟩
      go_frame
      refine Grow.g_con rfl (fun w2' hw hF=>?_) ?_
      · clear hF
        go_simp
        exact (HSM.out w2' ((Below.refl w2.heap.size w2).drew.trans hw)).mono fun e w3 h=>⟨_,h.1,rfl,h.2⟩
      iterate 2
       go_frame
       refine Grow.g_det rfl ?_
       apply Exists.intro
       refine ⟨fun w hw hF=>?_,?_⟩
       · clear hF
         go_simp
         exact ⟨rfl,Ext.refl _⟩
      go_frame
      refine Grow.g_nil fun w3 hw3 hF=>?_
      clear hF
      refine wpList_nil ?_
      have HB3:=Lib.hid (HB2.out.trans (((Below.refl w2.heap.size w2).drew.trans hw3).mono (by have:=HB2.out.size; omega)))
      clear hw3
      go_wp2_with fail
      go_ret
      exact ⟨ret_bool (by rw [HC.out]),hA ▸ HB3.out⟩
     ·
      have HF:Hid (rightL m=false):=by show _=_; rw [HC.out,decide_eq_true hb,decide_eq_false he]; rfl
      clear HC hsm
      have HNT:=Lib.hid (fun (w':World)=>noughts_any m.body.length (by omega) w')
      generalize hnn:noughts m.body.length=nn at *
      have hne:¬ m.body=nn:=he
      clear he hnn
      go_wp2_with fail
      refine Grow.wp_region_g 21 [none,some (.inl (.string (S m.body))),none,some (.inl (.bool true)),none,none,some (.inl (.string (S m.body))),none,some (.inl (.string (S m.body))),none,some (.inl (.string (S nn))),some (.inl (.bool false)),none,none,none,none,none,none,none,none,none] Ext (by kernel_rfl) (by kernel_rfl) (by kernel_rfl) Ext.refl (fun _ _ _=>Ext.trans) ?_ ?_
      · intro K hK Y hY v w w' hR h
        simp only [List.mem_cons,List.not_mem_nil,or_false] at hK
        rcases hK with rfl | rfl | rfl | rfl | rfl | rfl | rfl | rfl | rfl | rfl | rfl | rfl | rfl | rfl | rfl | rfl | rfl | rfl | rfl | rfl | rfl <;> simp only [reduceCtorEq,Option.some.injEq,Sum.inr.injEq] at hY
      simp only [List.take_succ_cons,List.take_zero,List.drop_succ_cons,List.drop_zero]
      refine Grow.g_det rfl ?_
      apply Exists.intro
      refine ⟨fun w hw hF=>?_,?_⟩
      · clear hF
        go_simp
        exact ⟨rfl,Ext.refl _⟩
      go_frame
      refine Grow.g_con rfl (fun w2' hw hF=>?_) ?_
      · clear hF
        have k8:w2'.cell? ⟨A,8,none⟩=some (.string (S m.body)):=(HX2.out.below ((Below.refl w2.heap.size w2).drew.trans hw)) 8 _ rfl
        go_simp
        all_goals exact Ext.refl _
      go_frame
      refine Grow.g_det rfl ?_
      apply Exists.intro
      refine ⟨fun w hw hF=>?_,?_⟩
      · clear hF
        go_simp
        exact ⟨rfl,Ext.refl _⟩
      go_frame
      refine Grow.g_con rfl (fun w2' hw hF=>?_) ?_
      · clear hF
        go_simp
        all_goals first | exact Ext.refl _ | exact hbi | omega
      iterate 2
       go_frame
       refine Grow.g_det rfl ?_
       apply Exists.intro
       refine ⟨fun w hw hF=>?_,?_⟩
       · clear hF
         go_simp
         exact ⟨rfl,Ext.refl _⟩
      iterate 2
       go_frame
       refine Grow.g_con rfl (fun w2' hw hF=>?_) ?_
       · clear hF
         have k8:w2'.cell? ⟨A,8,none⟩=some (.string (S m.body)):=(HX2.out.below ((Below.refl w2.heap.size w2).drew.trans hw)) 8 _ rfl
         go_simp
         all_goals exact Ext.refl _
       go_frame
       refine Grow.g_det rfl ?_
       apply Exists.intro
       refine ⟨fun w hw hF=>?_,?_⟩
       · clear hF
         go_simp
         exact ⟨rfl,Ext.refl _⟩
      go_frame
      refine Grow.g_con rfl (fun w2' hw hF=>?_) ?_
      · clear hF
        go_simp
        exact (HNT.out w2').mono fun e w3 h=>⟨_,h.1,rfl,h.2⟩
      go_frame
      refine Grow.g_con rfl (fun w2' hw hF=>?_) ?_
      · clear hF
        go_simp
        all_goals first | exact Ext.refl _ | exact hne | (simpa using hne)
      go_frame
      iterate 9
       first
       | refine Grow.g_skip rfl ?_
       | refine Grow.g_det rfl ?_
         apply Exists.intro
         refine ⟨fun w hw hF=>?_,?_⟩
         · clear hF
           go_simp
           exact ⟨rfl,Ext.refl _⟩
       go_frame
      refine Grow.g_nil fun w3 hw3 hF=>?_
      clear hF
      refine wpList_nil ?_
      have HB3:=Lib.hid (HB2.out.trans (((Below.refl w2.heap.size w2).drew.trans hw3).mono (by have:=HB2.out.size; omega)))
      clear hw3
      go_wp2_with fail
      go_ret
      exact ⟨ret_bool (by rw [HF.out]),hA ▸ HB3.out⟩
    ·
     have HF:Hid (rightL m=false):=by show _=_; rw [HC.out,decide_eq_false hb]; rfl
     have hbi:¬ (m.body.length:Int)≤1024:=by omega
     have hbd:decide ((m.body.length:Int)≤1024)=false:=decide_eq_false hbi
     have hbd2:decide (m.body.length≤1024)=false:=decide_eq_false hb
     clear HC hsm
     go_wp2_with fail
     go_quiet (fail)
     go_wp2_with fail
     go_ret
     exact ⟨ret_bool (by rw [HF.out]),hA ▸ (HB2.out.trans (((Drawn.refl w2).drewN nq).below A))⟩
open Go.RowKit OctMath RecMath NameMath
open OctW (textL textsL textsW listW)
theorem nums3 (n:Nat) (h1:1≤n) (h7:n≤7) (a b c:Int) (ha:OctW.fits n a) (hb:OctW.fits n b) (hc:OctW.fits n c):OctW.numsW (n:Int) [a,b,c]=(be n a.toNat++(be n b.toNat++be n c.toNat),0):=by
 rw [nums_fit n _ h1 h7 (fun x hx=>by
  simp only [List.mem_cons,List.not_mem_nil,or_false] at hx
  rcases hx with rfl | rfl | rfl <;> assumption)]
 simp [OctW.numsL]
theorem texts_len (ts:List (List UInt8)) (n:Nat) (h:∀ t∈ts,t.length≤n):(textsL ts).length≤ts.length * (n+2):=by
 induction ts with
 | nil=>unfold textsL; simp
 | cons t ts ih =>
   rw [OctW.textsL_cons,List.length_append,OctW.textL_length,List.length_cons,Nat.add_mul,Nat.one_mul]
   have:=h t (.head _)
   have:=ih fun t ht=>h t (.tail _ ht)
   omega
theorem inside_any (m:Msg) (hm:rightL m=true) (hk0:m.kind≠0) (a:Option Addr) (c:Nat) (W:World) (hS:Strs W a (m.keys.map S)) :
 Calls Tryz.prog 99 #[.agg (cellsM m a c)] W fun e w'=>e=.returned (.string (S (insideL m)))∧Below W.heap.size W w':=by
 obtain ⟨⟨d1,d2⟩,⟨r1,r2⟩,⟨b1,b2⟩,⟨k1,k2⟩,⟨q1,q2⟩,⟨t1,t2⟩,l1,l2,l3,l4,l5⟩:=right_parts hm hk0
 have HB0:Hid (Below W.heap.size W (W.alloc (.cells (cellsM m a c) 53))):=(Below.refl _ W).alloc (Nat.le_refl _) _
 have HX:Hid (Boxed (W.alloc (.cells (cellsM m a c) 53)) W.heap.size (cellsM m a c)):=Boxed.new W _ _
 have HS0:=Lib.hid (Strs.below hS HB0.out)
 have n1:OctW.numsW 1 [m.kind,m.queue,m.retry]=(be 1 m.kind.toNat++(be 1 m.queue.toNat++be 1 m.retry.toNat),0):=nums3 1 (by omega) (by omega) _ _ _ ⟨by omega,by show m.kind < ((256 ^ 1:Nat):Int); omega⟩ ⟨by omega,by show m.queue < ((256 ^ 1:Nat):Int); omega⟩ ⟨by omega,by show m.retry < ((256 ^ 1:Nat):Int); omega⟩
 have n6:OctW.numsW 6 [m.born,m.due,m.ref]=(be 6 m.born.toNat++(be 6 m.due.toNat++be 6 m.ref.toNat),0):=nums3 6 (by omega) (by omega) _ _ _ ⟨by omega,by show m.born < ((256 ^ 6:Nat):Int); omega⟩ ⟨by omega,by show m.due < ((256 ^ 6:Nat):Int); omega⟩ ⟨by omega,by show m.ref < ((256 ^ 6:Nat):Int); omega⟩
 have ht3:∀ t∈[m.topic,m.tag,m.body],t.length≤200:=by
  intro t ht
  simp only [List.mem_cons,List.not_mem_nil,or_false] at ht
  rcases ht with rfl | rfl | rfl <;> omega
 have x3:textsW [m.topic,m.tag,m.body]=(textL m.topic++(textL m.tag++textL m.body),0):=by
  unfold OctW.textsW
  rw [if_pos (fun t ht=>by have:=ht3 t ht; omega)]
  simp [textsL]
 have x3l:(textsL [m.topic,m.tag,m.body]).length≤1073741824:=by have:=texts_len _ 200 ht3; simp at this; omega
 have xk:listW m.keys=(be 1 m.keys.length++textsL m.keys,0):=by
  unfold OctW.listW
  rw [if_neg (by omega),if_pos (fun t ht=>by have:=l5 t ht; omega)]
 have xkl:(textsL m.keys).length≤54:=by
  have:=texts_len _ 16 l5
  have:m.keys.length * (16+2)≤3 * 18:=Nat.mul_le_mul_right _ l4
  omega
 have HIN:Hid (S (be 1 m.kind.toNat++(be 1 m.queue.toNat++be 1 m.retry.toNat))++S (be 6 m.born.toNat++(be 6 m.due.toNat++be 6 m.ref.toNat))++S (textL m.topic++(textL m.tag++textL m.body))++S (be 1 m.keys.length++textsL m.keys)=S (insideL m)):=by
  show _=_
  rw [S_append,S_append,S_append]
  unfold insideL
  simp only [List.append_assoc]
 have z1:(S (be 1 m.kind.toNat++(be 1 m.queue.toNat++be 1 m.retry.toNat))).size≤1000:=by rw [S_size]; simp [be_length]
 have z2:(S (be 6 m.born.toNat++(be 6 m.due.toNat++be 6 m.ref.toNat))).size≤1000:=by rw [S_size]; simp [be_length]
 have z3:(S (textL m.topic++(textL m.tag++textL m.body))).size≤1000:=by rw [S_size]; simp [OctW.textL_length]; omega
 have z4:(S (be 1 m.keys.length++textsL m.keys)).size≤1000:=by rw [S_size]; simp [be_length]; omega
 have HN1:=Lib.hid (fun (w:World)=>OctW.nums_any 1 (by omega) (by omega) (some ⟨w.heap.size,0,none⟩) 3 [m.kind,m.queue,m.retry] (by simp) (fun x hx=>by simp at hx; omega) _ (ints_new w [m.kind,m.queue,m.retry] 3))
 have HN6:=Lib.hid (fun (w:World)=>OctW.nums_any 6 (by omega) (by omega) (some ⟨w.heap.size,0,none⟩) 3 [m.born,m.due,m.ref] (by simp) (fun x hx=>by simp at hx; omega) _ (ints_new w [m.born,m.due,m.ref] 3))
 have HT3:=Lib.hid (fun (w:World)=>OctW.texts_any (some ⟨w.heap.size,0,none⟩) 3 [m.topic,m.tag,m.body] (by simp) x3l _ (strs_new w [S m.topic,S m.tag,S m.body] 9))
 have HLK:=Lib.hid (fun (w:World) (h:Strs w a (m.keys.map S))=>OctW.listw_any a c m.keys (by omega) (by omega) w h)
 rw [n1] at HN1
 rw [n6] at HN6
 rw [x3] at HT3
 rw [xk] at HLK
 change Hid (∀ w:World,Calls _ _ #[.int .i64 1,.slice (some ⟨w.heap.size,0,none⟩) 3 3] (w.alloc (.cells #[.int .i64 m.kind,.int .i64 m.queue,.int .i64 m.retry] _)) _) at HN1
 change Hid (∀ w:World,Calls _ _ #[.int .i64 6,.slice (some ⟨w.heap.size,0,none⟩) 3 3] (w.alloc (.cells #[.int .i64 m.born,.int .i64 m.due,.int .i64 m.ref] _)) _) at HN6
 change Hid (∀ w:World,Calls _ _ #[.slice (some ⟨w.heap.size,0,none⟩) 3 3] (w.alloc (.cells #[.string (S m.topic),.string (S m.tag),.string (S m.body)] _)) _) at HT3
 generalize S (be 1 m.kind.toNat++(be 1 m.queue.toNat++be 1 m.retry.toNat))=s1 at *
 generalize S (be 6 m.born.toNat++(be 6 m.due.toNat++be 6 m.ref.toNat))=s2 at *
 generalize S (textL m.topic++(textL m.tag++textL m.body))=s3 at *
 generalize S (be 1 m.keys.length++textsL m.keys)=s4 at *
 have hcu:(cellsM m a c).size=10:=rfl
 clear hm hk0 hS d1 d2 r1 r2 b1 b2 k1 k2 q1 q2 t1 t2 l1 l2 l3 l4 l5 n1 n6 ht3 x3 x3l xk xkl
 go_enter Tryz.func99,Tryz.ntmps99
 go_upto_region 1 with fail
 generalize W.alloc (.cells (cellsM m a c) 53)=w1 at *
 clear hcu
 obtain ⟨A,hA⟩:∃ A,W.heap.size=A:=⟨_,rfl⟩
 rw [hA] at HX HB0 ⊢
 have k0:w1.cell? ⟨A,0,none⟩=some (.int .i64 m.kind):=HX.out 0 _ rfl
 have k1:w1.cell? ⟨A,1,none⟩=some (.int .i64 m.queue):=HX.out 1 _ rfl
 have k3:w1.cell? ⟨A,3,none⟩=some (.int .i64 m.retry):=HX.out 3 _ rfl
 go_wp2_with fail
 refine (HN1.out w1).mono ?_
 rintro e w2 ⟨rfl,hb⟩
 have hbb:Below w1.heap.size w1 w2:=((Below.refl _ _).alloc (Nat.le_refl _) _).trans (hb.mono (by rw [World.size_alloc]; omega))
 have HB2:=Lib.hid (HB0.out.trans (hbb.mono (by have:=HB0.out.size; omega)))
 have HX2:=Lib.hid (HX.out.below hbb)
 have HS2:=Lib.hid (Strs.below HS0.out hbb)
 clear hb hbb HN1 k0 k1 k3
 have k5:w2.cell? ⟨A,5,none⟩=some (.int .i64 m.born):=HX2.out 5 _ rfl
 have k2:w2.cell? ⟨A,2,none⟩=some (.int .i64 m.due):=HX2.out 2 _ rfl
 have k4:w2.cell? ⟨A,4,none⟩=some (.int .i64 m.ref):=HX2.out 4 _ rfl
 go_wp2_with fail
 refine (HN6.out w2).mono ?_
 rintro e w3 ⟨rfl,hb⟩
 have hbb:Below w2.heap.size w2 w3:=((Below.refl _ _).alloc (Nat.le_refl _) _).trans (hb.mono (by rw [World.size_alloc]; omega))
 have HB3:=Lib.hid (HB2.out.trans (hbb.mono (by have:=HB2.out.size; omega)))
 have HX3:=Lib.hid (HX2.out.below hbb)
 have HS3:=Lib.hid (Strs.below HS2.out hbb)
 clear hb hbb HN6 k5 k2 k4
 have k6:w3.cell? ⟨A,6,none⟩=some (.string (S m.topic)):=HX3.out 6 _ rfl
 have k7:w3.cell? ⟨A,7,none⟩=some (.string (S m.tag)):=HX3.out 7 _ rfl
 have k8:w3.cell? ⟨A,8,none⟩=some (.string (S m.body)):=HX3.out 8 _ rfl
 go_wp2_with fail
 refine (HT3.out w3).mono ?_
 rintro e w4 ⟨rfl,hb⟩
 have hbb:Below w3.heap.size w3 w4:=((Below.refl _ _).alloc (Nat.le_refl _) _).trans (hb.mono (by rw [World.size_alloc]; omega))
 have HB4:=Lib.hid (HB3.out.trans (hbb.mono (by have:=HB3.out.size; omega)))
 have HX4:=Lib.hid (HX3.out.below hbb)
 have HS4:=Lib.hid (Strs.below HS3.out hbb)
 clear hb hbb HT3 k6 k7 k8
 have k9:w4.cell? ⟨A,9,none⟩=some (.slice a m.keys.length c):=HX4.out 9 _ rfl
 go_wp2_with fail
 refine (HLK.out w4 HS4.out).mono ?_
 rintro e w5 ⟨rfl,hb⟩
 have HB5:=Lib.hid (HB4.out.trans (hb.mono (by have:=HB4.out.size; omega)))
 clear hb HLK k9
 go_wp2_with fail
 go_ret
 exact ⟨by rw [← HIN.out]; rfl,hA ▸ HB5.out⟩
end Go.Proofs.YtnoehodmmkioaaaGreatDoor.RecW
namespace Go.Proofs.YtnoehodmmkioaaaGreatDoor.CrcW
open Go.RowKit CrcMath
theorem bv_lt (x:BitVec 32):0≤(x.toNat:Int)∧(x.toNat:Int) < 4294967296:=by have:=x.isLt; omega
theorem and_u32 (x y:BitVec 32):bits .and .u32 (x.toNat:Int) (y.toNat:Int)=((x &&& y).toNat:Int):=by
 rw [u32_and_nat _ _ x.isLt y.isLt,BitVec.toNat_and]
theorem or_u32 (x y:BitVec 32):bits .or .u32 (x.toNat:Int) (y.toNat:Int)=((x ||| y).toNat:Int):=by
 rw [u32_or_nat _ _ x.isLt y.isLt,BitVec.toNat_or]
theorem xor_u32 (x y:BitVec 32):bits .xor .u32 (x.toNat:Int) (y.toNat:Int)=((x ^^^ y).toNat:Int):=by
 rw [u32_xor_nat _ _ x.isLt y.isLt,BitVec.toNat_xor]
theorem xor_u8 (x y:BitVec 8):bits .xor .u8 (x.toNat:Int) (y.toNat:Int)=((x ^^^ y).toNat:Int):=by
 rw [u8_xor_nat _ _ x.isLt y.isLt,BitVec.toNat_xor]
theorem half (x:BitVec 32):(x.toNat:Int) / (2:Int)=((x >>> 1).toNat:Int):=by simp [BitVec.toNat_ushiftRight,Nat.shiftRight_eq_div_pow]
theorem shr8 (x:BitVec 32):(x.toNat:Int) / (256:Int)=((x >>> 8).toNat:Int):=by simp [BitVec.toNat_ushiftRight,Nat.shiftRight_eq_div_pow]
theorem low8 (x:BitVec 32):(x.toNat:Int) % (256:Int)=((x.setWidth 8).toNat:Int):=by simp
theorem and_one (x:BitVec 32):(bits .and .u32 (x.toNat:Int) 1 == 1)=x.getLsbD 0:=by
 have h:=and_u32 x 1#32
 simp only [BitVec.toNat_ofNat] at h
 rw [show ((1 % 2 ^ 32:Nat):Int)=1 from rfl] at h
 rw [h,BitVec.toNat_and]
 simp only [BitVec.toNat_ofNat]
 rw [show 1 % 2 ^ 32=1 from rfl,Nat.and_one_is_mod]
 rw [BitVec.getLsbD,Nat.testBit_zero]
 cases Nat.mod_two_eq_zero_or_one x.toNat with
 | inl e=>rw [e]; rfl
 | inr e=>rw [e]; rfl
theorem step_one (x:BitVec 32) (h:(bits .and .u32 (x.toNat:Int) 1 == 1)=true):bits .xor .u32 ((x.toNat:Int) / (2:Int)) 3988292384=((cstep x).toNat:Int):=by
 rw [and_one] at h
 unfold cstep; rw [if_pos h,half]
 exact xor_u32 (x >>> 1) poly
theorem step_nought (x:BitVec 32) (h:(bits .and .u32 (x.toNat:Int) 1 == 1)=false):(x.toNat:Int) / (2:Int)=((cstep x).toNat:Int):=by
 rw [and_one] at h
 unfold cstep; rw [h,half,if_neg (by simp)]
theorem first_any (b:BitVec 32) (w:World) :
 Calls Tryz.prog 154 #[.int .u32 b.toNat] w fun e w'=>e=.returned (.int .u32 (steps 8 b).toNat)∧w=w':=by
 go_enter Tryz.func154,Tryz.ntmps154
 go_wp2
 go_loop [0,4] (fun v i=>∃ k:Nat,k≤8∧i=.int .i64 k∧v=.int .u32 (steps k b).toNat) (fun _ i=>8 - (intOf i).toNat)
 case atStart=>exact ⟨0,by omega,rfl,rfl⟩
 case round =>
  obtain ⟨k,hk,rfl,rfl⟩:=hrel
  have hx:=bv_lt (steps k b)
  by_cases hlt:k < 8
  ·
   go_wp2
   · go_round
     case rel=>exact ⟨k+1,by omega,by go_num,by rw [steps_succ',step_one _ (by assumption)]⟩
     case measure=>simp [intOf]; omega
   · go_round
     case rel=>exact ⟨k+1,by omega,by go_num,by rw [steps_succ',step_nought _ (by assumption)]⟩
     case measure=>simp [intOf]; omega
  · go_wp2
    go_ret
    exact ⟨by simp [show k=8 by omega],rfl⟩
def Tabs (w:World) (B:Nat):Prop:=∀ k j,k < 4→j < 256→w.cell? ⟨B,256 * k+j,none⟩=some (.int .u32 (tab k (BitVec.ofNat 8 j)).toNat)
theorem Tabs.at {w:World} {B:Nat} (h:Tabs w B) (k:Nat) (hk:k < 4) (x:BitVec 8):w.cell? ⟨B,256 * k+x.toNat,none⟩=some (.int .u32 (tab k x).toNat):=by
 have:=h k x.toNat hk x.isLt
 rwa [BitVec.ofNat_toNat,BitVec.setWidth_eq] at this
theorem one_any (B:Nat) (x:BitVec 32) (c:UInt8) (w:World) (hT:Tabs w B) :
 Calls Tryz.prog 205 #[.pointer (some ⟨B,0,none⟩),.int .u32 x.toNat,.int .u8 c.toNat] w fun e w'=>e=.returned (.int .u32 (upd x c.toBitVec).toNat)∧w=w':=by
 have hx:=bv_lt x
 have e1:bits .xor .u8 ((x.toNat:Int) % (256:Int)) (c.toNat:Int)=(((x.setWidth 8 ^^^ c.toBitVec).toNat:Nat):Int):=by
  rw [low8]; exact xor_u8 _ _
 have hc:=hT.at 0 (by omega) (x.setWidth 8 ^^^ c.toBitVec)
 have e2:=one_eq x c.toBitVec
 generalize x.setWidth 8 ^^^ c.toBitVec=i at *
 have hi:(i.toNat:Int) < 256:=by have:=i.isLt; omega
 simp only [Nat.mul_zero,Nat.zero_add] at hc
 have E2:=Lib.hid e2; clear e2
 have HT:=Lib.hid hT; clear hT
 go_enter Tryz.func205,Tryz.ntmps205
 go_wp2
 go_ret
 exact ⟨ret_int (by rw [E2.out,shr8,xor_u32]),rfl⟩
theorem ext_nat (b:UInt8):(b.toNat:Int) % 4294967296=((ext b.toBitVec).toNat:Int):=by
 have:=b.toNat_lt
 simp [ext]; omega
theorem ext_shl (b:UInt8) (n:Nat):(b.toNat:Int) % 4294967296 * ((2 ^ n:Nat):Int) % 4294967296=((ext b.toBitVec <<< n).toNat:Int):=by
 rw [ext_nat,BitVec.toNat_shiftLeft,Nat.shiftLeft_eq]
 simp
theorem word_int (x:BitVec 32) (a b c d:UInt8) :
 bits .xor .u32 (x.toNat:Int) (bits .or .u32 (bits .or .u32 (bits .or .u32 ((a.toNat:Int) % 4294967296) ((b.toNat:Int) % 4294967296 * 256 % 4294967296)) ((c.toNat:Int) % 4294967296 * 65536 % 4294967296)) ((d.toNat:Int) % 4294967296 * 16777216 % 4294967296))=((x ^^^ word4 a.toBitVec b.toBitVec c.toBitVec d.toBitVec).toNat:Int):=by
 have h1:(b.toNat:Int) % 4294967296 * 256 % 4294967296=_:=ext_shl b 8
 have h2:(c.toNat:Int) % 4294967296 * 65536 % 4294967296=_:=ext_shl c 16
 have h3:(d.toNat:Int) % 4294967296 * 16777216 % 4294967296=_:=ext_shl d 24
 rw [ext_nat,h1,h2,h3,or_u32,or_u32,or_u32,xor_u32]; rfl
theorem and255 (y:BitVec 32):bits .and .u32 (y.toNat:Int) 255=((y.setWidth 8).toNat:Int):=by
 have h:=and_u32 y 255#32
 simp only [BitVec.toNat_ofNat] at h
 rw [show ((255 % 2 ^ 32:Nat):Int)=255 from rfl] at h
 rw [h,BitVec.toNat_and]
 simp only [BitVec.toNat_ofNat,BitVec.toNat_setWidth]
 rw [show 255 % 2 ^ 32=2 ^ 8 - 1 from rfl,Nat.and_two_pow_sub_one_eq_mod]
theorem shr_int (y:BitVec 32) (n:Nat):(y.toNat:Int) / ((2 ^ n:Nat):Int)=((y >>> n).toNat:Int):=by
 rw [BitVec.toNat_ushiftRight,Nat.shiftRight_eq_div_pow]; rfl
theorem top8 (y:BitVec 32):((y >>> 24).toNat:Int)=(((y >>> 24).setWidth 8).toNat:Int):=by
 have:=y.isLt
 simp [BitVec.toNat_ushiftRight,Nat.shiftRight_eq_div_pow]; omega
theorem take4 (s:ByteArray) (h:4≤s.size):s.data.toList.take 4=[s[0]'(by omega),s[1]'(by omega),s[2]'(by omega),s[3]'(by omega)]:=by
 obtain ⟨⟨l⟩⟩:=s
 match l,h with
 | a :: b :: c :: d :: l,_=>rfl
theorem four_any (B:Nat) (x:BitVec 32) (s:ByteArray) (h4:4≤s.size) (w:World) (hT:Tabs w B) :
 Calls Tryz.prog 204 #[.pointer (some ⟨B,0,none⟩),.int .u32 x.toNat,.string s] w fun e w'=>e=.returned (.int .u32 (reg x (s.data.toList.take 4)).toNat)∧Drawn w w':=by
 have ew:=word_int x (s[0]'(by omega)) (s[1]'(by omega)) (s[2]'(by omega)) (s[3]'(by omega))
 have HR:Hid (reg x (s.data.toList.take 4)=_):=(congrArg (reg x) (take4 s h4)).trans (four_eq x (s[0]'(by omega)).toBitVec (s[1]'(by omega)).toBitVec (s[2]'(by omega)).toBitVec (s[3]'(by omega)).toBitVec)
 generalize x ^^^ word4 (s[0]'(by omega)).toBitVec (s[1]'(by omega)).toBitVec (s[2]'(by omega)).toBitVec (s[3]'(by omega)).toBitVec=y at ew HR
 have hx:=bv_lt x
 have hy:=bv_lt y
 have i3:=and255 y
 have s2:(y.toNat:Int) / (256:Int)=_:=shr_int y 8
 have s1:(y.toNat:Int) / (65536:Int)=_:=shr_int y 16
 have s0:(y.toNat:Int) / (16777216:Int)=_:=shr_int y 24
 have i2:bits .and .u32 ((y.toNat:Int) / (256:Int)) 255=(((y >>> 8).setWidth 8).toNat:Int):=by rw [s2]; exact and255 (y >>> 8)
 have i1:bits .and .u32 ((y.toNat:Int) / (65536:Int)) 255=(((y >>> 16).setWidth 8).toNat:Int):=by rw [s1]; exact and255 (y >>> 16)
 have i0:(y.toNat:Int) / (16777216:Int)=(((y >>> 24).setWidth 8).toNat:Int):=by rw [s0]; exact top8 y
 clear s0 s1 s2
 have c3:=hT.at 3 (by omega) (y.setWidth 8)
 have c2:=hT.at 2 (by omega) ((y >>> 8).setWidth 8)
 have c1:=hT.at 1 (by omega) ((y >>> 16).setWidth 8)
 have c0:=hT.at 0 (by omega) ((y >>> 24).setWidth 8)
 generalize y.setWidth 8=a3 at *
 generalize (y >>> 8).setWidth 8=a2 at *
 generalize (y >>> 16).setWidth 8=a1 at *
 generalize (y >>> 24).setWidth 8=a0 at *
 simp only [Nat.reduceMul,Nat.zero_add] at c0 c1 c2 c3
 have b3:(a3.toNat:Int) < 256:=by have:=a3.isLt; omega
 have b2:(a2.toNat:Int) < 256:=by have:=a2.isLt; omega
 have b1:(a1.toNat:Int) < 256:=by have:=a1.isLt; omega
 have b0:(a0.toNat:Int) < 256:=by have:=a0.isLt; omega
 have h0:0 < s.size:=by omega
 have h1:(1:Int) < (s.size:Int):=by omega
 have h2:(2:Int) < (s.size:Int):=by omega
 have h3:(3:Int) < (s.size:Int):=by omega
 have HT:=Lib.hid hT; clear hT
 go_enter Tryz.func204,Tryz.ntmps204
 go_wp2_with fail
 go_quiet (fail)
 go_wp2_with fail
 go_quiet (fail)
 go_wp2_with fail
 go_ret
 exact ⟨ret_int (by rw [HR.out,xor_u32,xor_u32,xor_u32]),_,World.drewN_drewN ..⟩
def noughts:Array Value:=Array.replicate 1024 (.int .u32 0)
theorem noughts_at (i:Nat) (h:i < 1024):noughts[i]?=some (.int .u32 0):=by
 unfold noughts; rw [Array.getElem?_replicate]; simp [h]
theorem build_table (w:World):(zeroValue 253).run Tryz.prog w=.ok (.agg noughts) w:=by kernel_rfl
def TE (i:Nat):Int:=((tab (i / 256) (BitVec.ofNat 8 i)).toNat:Int)
theorem first_byte (k:Nat) (h:k < 256) (w:World) :
 Calls Tryz.prog 154 #[.int .u32 (k:Int)] w fun e w'=>e=.returned (.int .u32 (TE k))∧w=w':=by
 have h1:=first_any (BitVec.ofNat 32 k) w
 rw [BitVec.toNat_ofNat,Nat.mod_eq_of_lt (by omega)] at h1
 have h2:steps 8 (BitVec.ofNat 32 k)=tab (k / 256) (BitVec.ofNat 8 k):=by
  rw [Nat.div_eq_of_lt h]
  unfold tab ext
  congr 1
  apply BitVec.eq_of_toNat_eq
  simp; omega
 rw [h2] at h1
 exact h1
structure Laid (B n:Nat) (W w:World):Prop where
 below:Below W.heap.size W w
 old:W.heap.size≤B
 size:B < w.heap.size
 there:∀ i,i < 1024→∃ v,w.cell? ⟨B,i,none⟩=some v
 free:∀ i,w.frozen? ⟨B,i,none⟩=false
 has:∀ i,i < n→w.cell? ⟨B,i,none⟩=some (.int .u32 (TE i))
theorem Laid.drew {B n:Nat} {W w:World} (h:Laid B n W w) (m:Nat):Laid B n W (w.drewN m) :=
 ⟨h.below.trans (Drawn.below (⟨m,rfl⟩:Drawn w (w.drewN m)) _),h.old,h.size,h.there,h.free,h.has⟩
theorem Laid.set {B n:Nat} {W w:World} (h:Laid B n W w) (hn:n < 1024):Laid B (n+1) W (w.setCell ⟨B,n,none⟩ (.int .u32 (TE n))):=by
 obtain ⟨v,hv⟩:=h.there n hn
 have key:∀ i,(w.setCell ⟨B,n,none⟩ (.int .u32 (TE n))).cell? ⟨B,i,none⟩=if i=n then some (.int .u32 (TE n)) else w.cell? ⟨B,i,none⟩:=by
  intro i
  by_cases e:i=n
  · subst e; rw [if_pos rfl]; exact World.cell?_setCell_same _ _ _ hv
  · rw [if_neg e]; exact World.cell?_setCell_other _ _ _ _ (fun h=>e (by simpa using h.symm))
 refine ⟨h.below.setCell (by have:=h.old; simpa using this) _,h.old,by simpa using h.size,fun i hi=>?_,fun i=>?_,fun i hi=>?_⟩
 · rw [key]; split
   · exact ⟨_,rfl⟩
   · exact h.there i hi
 · rw [World.frozen?_setCell]; exact h.free i
 · rw [key]; split
   · rename_i e; rw [e]
   · exact h.has i (by omega)
theorem Laid.tabs {B:Nat} {W w:World} (h:Laid B 1024 W w):Tabs w B:=by
 intro k j hk hj
 have:=h.has (256 * k+j) (by omega)
 rw [this]; unfold TE
 rw [show (256 * k+j) / 256=k by omega]
 rw [show BitVec.ofNat 8 (256 * k+j)=BitVec.ofNat 8 j from by apply BitVec.eq_of_toNat_eq; rw [BitVec.toNat_ofNat,BitVec.toNat_ofNat]; omega]
theorem TE_next (k b:Nat) (hk:1≤k) (hb:b < 256) :
 ∃ x:BitVec 32,TE ((k - 1) * 256+b)=(x.toNat:Int)∧bits .xor .u32 (TE (x.setWidth 8).toNat) ((x.toNat:Int) / (256:Int))=TE (256 * k+b):=by
 obtain ⟨j,rfl⟩:∃ j,k=j+1:=⟨k - 1,by omega⟩
 refine ⟨tab j (BitVec.ofNat 8 b),?_,?_⟩
 · unfold TE
   rw [show (j+1 - 1) * 256+b=256 * j+b by omega,show (256 * j+b) / 256=j by omega,show BitVec.ofNat 8 (256 * j+b)=BitVec.ofNat 8 b from by apply BitVec.eq_of_toNat_eq; rw [BitVec.toNat_ofNat,BitVec.toNat_ofNat]; omega]
 ·
  unfold TE
  rw [show (256 * (j+1)+b) / 256=j+1 by omega,show BitVec.ofNat 8 (256 * (j+1)+b)=BitVec.ofNat 8 b from by apply BitVec.eq_of_toNat_eq; rw [BitVec.toNat_ofNat,BitVec.toNat_ofNat]; omega,tab_succ,shr8]
  have h8:((tab j (BitVec.ofNat 8 b)).setWidth 8).toNat < 256:=((tab j (BitVec.ofNat 8 b)).setWidth 8).isLt
  rw [Nat.div_eq_of_lt h8,BitVec.ofNat_toNat,BitVec.setWidth_eq,xor_u32]
theorem new_any (W:World) :
 Calls Tryz.prog 91 #[] W fun e w'=>∃ B,e=.returned (.pointer (some ⟨B,0,none⟩))∧Laid B 1024 W w':=by
 have hb:=build_table
 go_enter Tryz.func91,Tryz.ntmps91
 go_wp2_with fail
 clear hb
 go_loopw [8] (fun i wr=>∃ k:Nat,k≤256∧i=.int .i64 k∧Laid W.heap.size k W wr) (fun i _=>256 - (intOf i).toNat)
 case atStart =>
  refine ⟨0,by omega,rfl,?_⟩
  refine ⟨(Below.refl _ _).alloc (Nat.le_refl _) _,Nat.le_refl _,by simp,fun i hi=>⟨.int .u32 0,?_⟩,fun i=>?_,fun i hi=>by omega⟩
  · rw [World.cell?_alloc_new]; exact noughts_at i hi
  · simp [go_sem]
 case round =>
  obtain ⟨k,hk,rfl,hl⟩:=hrel
  by_cases hlt:k < 256
  ·
   obtain ⟨v,hv⟩:=hl.there k (by omega)
   have hf:=hl.free k
   have HL:=Lib.hid hl; clear hl
   go_wp2_with fail
   have hwr:IntKind.u32.wrap (k:Int)=(k:Int):=by rw [IntKind.wrap_u32']; omega
   go_region_with (go_at_call 154; refine (first_byte k (by omega) _).mono ?_; rintro e w' ⟨rfl,rfl⟩)
   go_wp2_with fail
   go_roundw
   case rel=>exact ⟨k+1,by omega,by go_num,(HL.out.set (by omega)).drew 1⟩
   case measure=>simp [intOf]; omega
  ·
   have ek:k=256:=by omega
   subst ek
   go_wp2_with fail
   go_loopw [3] (fun i wr=>∃ k:Nat,1≤k∧k≤4∧i=.int .i64 k∧Laid W.heap.size (256 * k) W wr) (fun i _=>4 - (intOf i).toNat)
   case atStart=>exact ⟨1,by omega,by omega,rfl,hl⟩
   case round =>
    clear hl
    obtain ⟨k,hk1,hk2,rfl,hl⟩:=hrel
    by_cases hlt:k < 4
    ·
     have HL:=Lib.hid hl; clear hl
     go_wp2_with fail
     obtain ⟨wo,rfl⟩:∃ wo:World,wo=wr:=⟨_,rfl⟩
     go_loopw [25] (fun i wr=>∃ b:Nat,b≤256∧i=.int .i64 b∧Laid W.heap.size (256 * k+b) W wr) (fun i _=>256 - (intOf i).toNat)
     case atStart=>exact ⟨0,by omega,rfl,HL.out⟩
     case round =>
      clear HL
      obtain ⟨b,hb,rfl,hl⟩:=hrel
      by_cases hb2:b < 256
      ·
       obtain ⟨x,hx,hx2⟩:=TE_next k b hk1 hb2
       have hc:=hl.has ((k - 1) * 256+b) (by omega)
       rw [hx] at hc
       have h8:(x.setWidth 8).toNat < 256:=(x.setWidth 8).isLt
       have hc0:=hl.has (x.setWidth 8).toNat (by omega)
       have ha:=and255 x
       have hxb:=bv_lt x
       generalize (x.setWidth 8).toNat=i at *
       obtain ⟨v,hv⟩:=hl.there (k * 256+b) (by omega)
       have hf:=hl.free (k * 256+b)
       have HL:=Lib.hid hl; clear hl
       have HX2:=Lib.hid hx2; clear hx2
       have HX:=Lib.hid hx; clear hx
       go_wp2_with fail
       go_region
       go_wp2_with fail
       go_roundw
       case rel => 
        refine ⟨b+1,by omega,by go_num,?_⟩
        have:=(HL.out.set (by omega)).drew 1
        rw [← HX2.out,show 256 * k+b=k * 256+b by omega] at this
        rw [show 256 * k+(b+1)=k * 256+b+1 by omega]
        exact this
       case measure=>simp [intOf]; omega
      · go_wp2_with fail
        go_roundw
        case rel=>exact ⟨k+1,by omega,by omega,by go_num,by rw [show 256 * (k+1)=256 * k+b by omega]; exact hl⟩
        case measure=>simp [intOf]; omega
    · go_wp2_with fail
      go_ret
      exact ⟨_,rfl,by rw [show 1024=256 * k by omega]; exact hl⟩
def flat (ss:List ByteArray):List UInt8:=(ss.map fun s=>s.data.toList).flatten
theorem drop4 (t:ByteArray):(t.extract 4 t.size).data.toList=t.data.toList.drop 4:=by
 exact Lib.extract_to_end t 4
theorem reg_four (x:BitVec 32) (t:ByteArray):reg (reg x (t.data.toList.take 4)) (t.extract 4 t.size).data.toList=reg x t.data.toList:=by
 rw [drop4,← reg_append,List.take_append_drop]
theorem reg_take (x:BitVec 32) (t:ByteArray) (i:Nat) (h:i < t.size):upd (reg x (t.data.toList.take i)) (t[i]).toBitVec=reg x (t.data.toList.take (i+1)):=by
 rw [List.take_succ_eq_append_getElem (by simpa using h),reg_append,reg_cons,reg_nil]; rfl
theorem flat_take (ss:List ByteArray) (k:Nat) (h:k < ss.length):flat (ss.take (k+1))=flat (ss.take k)++ss[k].data.toList:=by
 unfold flat; rw [List.take_succ_eq_append_getElem h,List.map_append,List.flatten_append]; simp
theorem Tabs.drawn {w u:World} {B:Nat} (h:Tabs w B) (hd:Drawn w u):Tabs u B:=by obtain ⟨n,rfl⟩:=hd; exact h
theorem tsum_some (B:Nat) (b off cap:Nat) (ss:List ByteArray) (hn:ss.length≤maxLen) (hs:∀ i (h:i < ss.length),ss[i].size≤maxLen) (W:World)
 (hcell:∀ i (h:i < ss.length),W.cell? ⟨b,off+i,none⟩=some (.string ss[i])) (hT:Tabs W B) :
 Calls Tryz.prog 156 #[.pointer (some ⟨B,0,none⟩),.slice (some ⟨b,off,none⟩) ss.length cap] W fun e w'=>e=.returned (.int .i64 (sum (flat ss)).toNat)∧Drawn W w':=by
 unfold maxLen at hn hs
 have HT:=Lib.hid hT; clear hT
 have HC:=Lib.hid hcell; clear hcell
 have HS:=Lib.hid hs; clear hs
 go_enter Tryz.func156,Tryz.ntmps156
 go_wp2_with fail
 go_loopw [5,13] (fun x i wr=>∃ k:Nat,k≤ss.length∧i=.int .i64 k∧x=.int .u32 (reg (BitVec.allOnes 32) (flat (ss.take k))).toNat∧Drawn W wr) (fun _ i _=>ss.length - (intOf i).toNat)
 case atStart=>exact ⟨0,by omega,rfl,rfl,Drawn.refl _⟩
 case round =>
  obtain ⟨k,hk,rfl,rfl,hw⟩:=hrel
  generalize hX:reg (BitVec.allOnes 32) (flat (ss.take k))=X
  have HX:=Lib.hid hX; clear hX
  by_cases hlt:k < ss.length
  ·
   have hc:=HC.out k hlt
   rw [← hw.cell] at hc
   have hz:=HS.out k hlt
   generalize hsk:ss[k]=s at *
   have HSK:=Lib.hid hsk; clear hsk
   go_wp2_with fail
   obtain ⟨wo,rfl⟩:∃ wo:World,wo=wr:=⟨_,rfl⟩
   go_loopw [5,7] (fun x t wr=>∃ (q:ByteArray) (y:BitVec 32),q.size≤s.size∧t=.string q∧x=.int .u32 y.toNat∧Drawn W wr∧Hid (reg X s.data.toList=reg y q.data.toList)) (fun _ t _=>match t with | .string q=>q.size | _=>0)
   case atStart=>exact ⟨s,X,Nat.le_refl _,rfl,rfl,hw,rfl⟩
   case round =>
    clear hc hw
    obtain ⟨q,y,hq,rfl,rfl,hw,HR⟩:=hrel
    by_cases h4:4≤q.size
    · go_wp2_with (go_at_call 204; refine (four_any B y q h4 _ (HT.out.drawn hw)).mono ?_; rintro e w' ⟨rfl,hw'⟩)
      go_roundw
      case rel => 
       exact ⟨q.extract 4 q.size,_,by simp; omega,rfl,rfl,hw.trans hw',HR.out.trans (reg_four y q).symm⟩
      case measure=>simp; omega
    ·
     go_wp2_with fail
     obtain ⟨wo,rfl⟩:∃ wo:World,wo=wr:=⟨_,rfl⟩
     go_loopw [5,30] (fun x i wr=>∃ (k:Nat),k≤q.size∧i=.int .i64 k∧x=.int .u32 (reg y (q.data.toList.take k)).toNat∧Drawn W wr) (fun _ i _=>q.size - (intOf i).toNat)
     case atStart=>exact ⟨0,by omega,rfl,rfl,hw⟩
     case round =>
      clear hw
      obtain ⟨j,hj,rfl,rfl,hw⟩:=hrel
      by_cases hj2:j < q.size
      ·
       generalize hY:reg y (q.data.toList.take j)=Y
       have HY:=Lib.hid hY; clear hY
       go_wp2_with fail
       go_quiet ((go_at_call 205; exact quiet_same (one_any B Y q[j] _ (HT.out.drawn (hw.drewN _)))))
       go_wp2_with fail
       go_roundw
       case rel =>
        exact ⟨j+1,by omega,by go_num,by rw [← reg_take y q j hj2,HY.out],hw.drewN _⟩
       case measure=>simp [intOf]; omega
      · go_wp2_with fail
        go_roundw
        case rel =>
         refine ⟨k+1,by omega,by go_num,?_,hw⟩
         have h1:j=q.size:=by omega
         have h2:q.data.toList.take j=q.data.toList:=List.take_of_length_le (by rw [h1]; exact Nat.le_refl _)
         rw [h2,← HR.out,flat_take ss k hlt,reg_append,HX.out,HSK.out]
        case measure=>simp [intOf]; omega
  ·
   have ek:k=ss.length:=by omega
   have HEK:=Lib.hid ek; clear ek
   go_wp2_with fail
   go_ret
   refine ⟨ret_int ?_,hw⟩
   have hu:bits .xor .u32 IntKind.u32.max (X.toNat:Int)=((~~~X).toNat:Int):=by
    rw [show IntKind.u32.max=((BitVec.allOnes 32).toNat:Int) from by decide,xor_u32,BitVec.allOnes_xor]
   have:=(~~~X).isLt
   rw [hu]
   unfold sum
   rw [← HX.out,HEK.out,List.take_of_length_le (Nat.le_refl _)] at *
   exact IntWalk.wrap64_in _ (by omega)
theorem word_lits (n:Nat) (hn:n < 4294967296):∃ c0 c1 c2 c3:UInt8,Hid (be4 n=[c0,c1,c2,c3]) ∧
 (n:Int) / 16777216=(c0.toNat:Int)∧(n:Int) / 65536 % 256=(c1.toNat:Int)∧(n:Int) / 256 % 256=(c2.toNat:Int)∧(n:Int) % 256=(c3.toNat:Int):=by
 refine ⟨_,_,_,_,rfl,?_,?_,?_,?_⟩ <;> simp only [UInt8.toNat_ofNat'] <;> omega
theorem word_at (n:Nat) (hn:n < 4294967296) (c0 c1 c2 c3:UInt8) (hb:Hid (be4 n=[c0,c1,c2,c3])) (w:World) :
 Calls Tryz.prog 155 #[.int .i64 (n:Int)] w fun e w'=>e=.returned (.agg #[.int .u8 c0.toNat,.int .u8 c1.toNat,.int .u8 c2.toNat,.int .u8 c3.toNat])∧Below w.heap.size w w':=by
 obtain ⟨d0,d1,d2,d3,hb',e0,e1,e2,e3⟩:=word_lits n hn
 obtain ⟨rfl,rfl,rfl,rfl⟩:c0=d0∧c1=d1∧c2=d2∧c3=d3:=by have:=hb.out.symm.trans hb'.out; simpa using this
 clear hb hb'
 go_enter Tryz.func155,Tryz.ntmps155
 go_wp2_with fail
 exact bodyPost_ret (v:=.agg #[.int .u8 c0.toNat,.int .u8 c1.toNat,.int .u8 c2.toNat,.int .u8 c3.toNat]) (by simp [results,Tryz.results155,go_sem]) rfl
  ⟨rfl,(Below.refl _ _).alloc (Nat.le_refl _) _⟩
theorem word_any (n:Nat) (hn:n < 4294967296) (w:World) :
 Calls Tryz.prog 155 #[.int .i64 (n:Int)] w fun e w'=>∃ c0 c1 c2 c3:UInt8,Hid (be4 n=[c0,c1,c2,c3]) ∧
  e=.returned (.agg #[.int .u8 c0.toNat,.int .u8 c1.toNat,.int .u8 c2.toNat,.int .u8 c3.toNat])∧Below w.heap.size w w':=by
 obtain ⟨c0,c1,c2,c3,hb,_⟩:=word_lits n hn
 exact (word_at n hn c0 c1 c2 c3 hb w).mono fun e w' h=>⟨c0,c1,c2,c3,hb,h⟩
theorem seal_any (B:Nat) (s:ByteArray) (hs:s.size≤140737488355328) (w:World) (hB:B < w.heap.size) (hT:Tabs w B) :
 Calls Tryz.prog 92 #[.pointer (some ⟨B,0,none⟩),.string s] w fun e w'=>e=.returned (.string ⟨(sealed s.data.toList).toArray⟩)∧Below w.heap.size w w':=by
 have HT:=Lib.hid hT; clear hT
 go_enter Tryz.func92,Tryz.ntmps92
 go_wp2_with fail
 have hb0:Below w.heap.size w (w.alloc (.cells #[.string s] 9)):=(Below.refl _ _).alloc (Nat.le_refl _) _
 have hT1:Tabs (w.alloc (.cells #[.string s] 9)) B:=fun k j hk hj=>by rw [hb0.cell (by simpa using hB)]; exact HT.out k j hk hj
 refine (tsum_some B w.heap.size 0 1 [s] (by simp [maxLen]) (by simp [maxLen]; omega) _ (fun i hi=>?_) hT1).mono ?_
 · have:i=0:=by simpa using hi
   subst this; simp [go_sem]
 rintro e w1 ⟨rfl,hd⟩
 have hn:=(sum (flat [s])).isLt
 have hb1:Below w.heap.size w w1:=hb0.trans (hd.below _)
 have HS:Hid ((sum (flat [s])).toNat=(sum s.data.toList).toNat):=by unfold flat; simp [Hid]
 generalize (sum (flat [s])).toNat=n at *
 have HB1:=Lib.hid hb1
 clear hb1 hb0 hT1 hd
 go_wp2_with (go_at_call 155; refine (word_any n hn _).mono ?_; rintro e w2 ⟨c0,c1,c2,c3,hb,rfl,hb2⟩)
 rw [bytes_string (P:=Tryz.prog) _ 218 5 9 Tryz.underlying218 Tryz.underlying5 Tryz.underlying9 w2.heap.size 0 4 [c0,c1,c2,c3] (fun i hi=>by
  rw [World.cell?_alloc_new]; match i,hi with | 0,_=>rfl | 1,_=>rfl | 2,_=>rfl | 3,_=>rfl) 4 rfl]
 go_wp2_with fail
 go_ret
 refine ⟨ret_str ?_,(HB1.out.trans (hb2.mono HB1.out.size)).alloc (Nat.le_trans HB1.out.size hb2.size) _⟩
 unfold sealed
 rw [← HS.out,hb.out]
 apply ByteArray.ext
 apply Array.ext'
 simp
def Ext (w w':World):Prop:=Below w.heap.size w w'
theorem Ext.refl (w:World):Ext w w:=Below.refl _ _
theorem Ext.trans {u v w:World} (h:Ext u v) (k:Ext v w):Ext u w:=Below.trans h (Below.mono k h.size)
def Four (b:Nat) (c0 c1 c2 c3:UInt8) (w:World):Prop:=b < w.heap.size∧w.cell? ⟨b,0,none⟩=some (.int .u8 c0.toNat)∧w.cell? ⟨b,1,none⟩=some (.int .u8 c1.toNat)∧w.cell? ⟨b,2,none⟩=some (.int .u8 c2.toNat)∧w.cell? ⟨b,3,none⟩=some (.int .u8 c3.toNat)
theorem eq4 (x0 x1 x2 x3 y0 y1 y2 y3:Int) (w:World):(Op.equalIn 10000 255 (.agg #[.int .u8 x0,.int .u8 x1,.int .u8 x2,.int .u8 x3]) (.agg #[.int .u8 y0,.int .u8 y1,.int .u8 y2,.int .u8 y3])).run Tryz.prog w
 = .ok (x0 == y0 && x1 == y1 && x2 == y2 && x3 == y3) w:=by
 show (Op.equalIn (9999+1) _ _ _).run _ _=_
 unfold Op.equalIn
 have hz:(sizeOf 5).run Tryz.prog w=.ok 1 w:=by kernel_rfl
 simp only [go_sem,Sem.run_bind,run_underlying Tryz.underlying255,hz,Result.andThen,Std.Legacy.Range.forIn_eq_forIn_range',Std.Legacy.Range.size]
 simp [List.range',go_sem,run_equalIn_int _ 9998 _ _ _ _ _ Tryz.underlying5]
 by_cases h0:x0=y0 <;> by_cases h1:x1=y1 <;> by_cases h2:x2=y2 <;> by_cases h3:x3=y3 <;> simp [h0,h1,h2,h3]
theorem Tabs.ext {w w':World} {B:Nat} (h:Tabs w B) (hB:B < w.heap.size) (he:Ext w w'):Tabs w' B:=fun k j hk hj=>by rw [Below.cell he (by simpa using hB)]; exact h k j hk hj
theorem open_test (s:ByteArray) (hs4:4≤s.size) (n:Nat) (c0 c1 c2 c3:UInt8) (hb:be4 n=[c0,c1,c2,c3]) :
 ((s[0].toNat:Int) == (c0.toNat:Int) && (s[1].toNat:Int) == (c1.toNat:Int) && (s[2].toNat:Int) == (c2.toNat:Int) && (s[3].toNat:Int) == (c3.toNat:Int))=decide (s.data.toList=be4 n++s.data.toList.drop 4):=by
 have h:s.data.toList=[s[0],s[1],s[2],s[3]]++s.data.toList.drop 4:=by
  conv=>lhs; rw [← List.take_append_drop 4 s.data.toList]
  rw [take4 s hs4]
 rw [hb]
 conv=>rhs; arg 1; lhs; rw [h]
 rw [Bool.eq_iff_iff]
 simp [Int.ofNat_inj,UInt8.toNat_inj,and_assoc]
theorem Four.ext {b:Nat} {c0 c1 c2 c3:UInt8} {w w':World} (h:Four b c0 c1 c2 c3 w) (hR:Below w.heap.size w w'):Four b c0 c1 c2 c3 w':=by
 obtain ⟨h0,h1,h2,h3,h4⟩:=h
 exact ⟨Nat.lt_of_lt_of_le h0 hR.size,by rw [hR.cell h0]; exact h1,by rw [hR.cell h0]; exact h2,by rw [hR.cell h0]; exact h3,by rw [hR.cell h0]; exact h4⟩
theorem open_long (B:Nat) (s:ByteArray) (hs4:4≤s.size) (hs:s.size≤140737488355328) (w:World) (hB:B < w.heap.size) (hT:Tabs w B) :
 Calls Tryz.prog 178 #[.pointer (some ⟨B,0,none⟩),.string s] w fun e w' => 
  e=.returned (if s.data.toList=sealed (s.data.toList.drop 4) then .tuple #[.string (s.extract 4 s.size),.bool true] else .tuple #[.string ⟨#[]⟩,.bool false])∧Below w.heap.size w w':=by
 have HT:=Lib.hid hT; clear hT
 have hn:=(sum (s.data.toList.drop 4)).isLt
 obtain ⟨c0,c1,c2,c3,hb,-⟩:=word_lits (sum (s.data.toList.drop 4)).toNat hn
 generalize hN:(sum (s.data.toList.drop 4)).toNat=n at *
 have HN:=Lib.hid hN; clear hN
 go_enter Tryz.func178,Tryz.ntmps178
 go_wp2_with fail
 have hd:decide ((s.size:Int) < 4)=false:=by simp; omega
 have hs4i:(4:Int)≤(s.size:Int):=by omega
 refine Grow.wp_region_g 21 [none,none,none,none,none,none,none,none,none,none,
  some (.inr fun v w=>∃ b c,v=.slice (some ⟨b,0,none⟩) 4 c∧Four b s[0] s[1] s[2] s[3] w),
  some (.inr fun v w=>∃ b,v=.pointer (some ⟨b,0,none⟩)∧Four b s[0] s[1] s[2] s[3] w),
  some (.inl (.agg #[.int .u8 s[0].toNat,.int .u8 s[1].toNat,.int .u8 s[2].toNat,.int .u8 s[3].toNat])),
  none,none,none,
  some (.inr fun v w=>∃ b,v=.slice (some ⟨b,0,none⟩) 1 1∧b < w.heap.size∧w.cell? ⟨b,0,none⟩=some (.string (s.extract 4 s.size))),
  some (.inl (.int .i64 (n:Int))),
  some (.inl (.agg #[.int .u8 c0.toNat,.int .u8 c1.toNat,.int .u8 c2.toNat,.int .u8 c3.toNat])),
  none,none] Ext (by kernel_rfl) (by kernel_rfl) (by kernel_rfl) Ext.refl (fun _ _ _=>Ext.trans) ?_ ?_
 ·
  intro K hK Y hY v w w' hR h
  have hR:Below w.heap.size w w':=hR
  simp only [List.mem_cons,List.not_mem_nil,or_false] at hK
  rcases hK with rfl | rfl | rfl | rfl | rfl | rfl | rfl | rfl | rfl | rfl | rfl | rfl | rfl | rfl | rfl | rfl | rfl | rfl | rfl | rfl | rfl <;> simp only [reduceCtorEq,Option.some.injEq,Sum.inr.injEq] at hY
  · subst hY; obtain ⟨b,c,rfl,hf⟩:=h; exact ⟨b,c,rfl,hf.ext hR⟩
  · subst hY; obtain ⟨b,rfl,hf⟩:=h; exact ⟨b,rfl,hf.ext hR⟩
  · subst hY; obtain ⟨b,rfl,hb,hc⟩:=h; exact ⟨b,rfl,Nat.lt_of_lt_of_le hb hR.size,by rw [hR.cell hb]; exact hc⟩
 simp only [List.take_succ_cons,List.take_zero,List.drop_succ_cons,List.drop_zero]
 iterate 10 (
  refine Grow.g_det rfl ?_
  apply Exists.intro
  refine ⟨fun w hw hF=>?_,?_⟩
  · clear hF
    go_simp
    exact ⟨rfl,Ext.refl _⟩
  go_frame)
 refine Grow.g_new rfl (fun w2 hw hF=>?_) (fun v10=>?_)
 ·
  clear hF
  obtain ⟨c,w3,hrun,hb3,hz3,_,hcell,_⟩:=string_bytes (P:=Tryz.prog) w2 9 218 5 (s.extract 0 4) Tryz.underlying9 Tryz.underlying218 Tryz.underlying5
  have hsz:(s.extract 0 4).size=4:=by simp; omega
  rw [hsz] at hrun
  have HC:=Lib.hid hcell; clear hcell
  have HSZ:=Lib.hid hsz; clear hsz
  go_simp
  refine ⟨⟨by omega,?_,?_,?_,?_⟩,hb3⟩
  all_goals (rw [HC.out _ (by rw [HSZ.out]; omega)]; simp [ByteArray.getElem_extract])
 simp only [Act.put,List.setIfInBounds_toArray,List.set_cons_zero,List.set_cons_succ,Grow.addF]
 refine Grow.g_new rfl (fun w2 hw hF=>?_) (fun v11=>?_)
 ·
  obtain ⟨b,c,rfl,hfour⟩:=hF _ (List.Mem.head _) (by simp [Oper.looksAt,Op.operands,Call.operands])
  clear hF
  have harr:∀ w,(Instr.arrayAt 255 (.slice (some ⟨b,0,none⟩) 4 c)).run Tryz.prog w=.ok (.pointer (some ⟨b,0,none⟩)) w:=fun w=>by kernel_rfl
  go_simp
  exact Ext.refl _
 simp only [Act.put,List.setIfInBounds_toArray,List.set_cons_zero,List.set_cons_succ,Grow.addF]
 refine Grow.g_con rfl (fun w2 hw hF=>?_) ?_
 ·
  obtain ⟨b,rfl,hfour⟩:=hF _ (List.Mem.head _) (by simp [Oper.looksAt,Op.operands,Call.operands])
  clear hF
  obtain ⟨h0,h1,h2,h3,h4⟩:=hfour
  go_simp
  exact Ext.refl _
 simp only [Act.put,List.setIfInBounds_toArray,List.set_cons_zero,List.set_cons_succ,Grow.addF]
 iterate 3 (
  refine Grow.g_det rfl ?_
  apply Exists.intro
  refine ⟨fun w hw hF=>?_,?_⟩
  · clear hF
    go_simp
    exact ⟨rfl,Ext.refl _⟩
  go_frame)
 refine Grow.g_new rfl (fun w2 hw hF=>?_) (fun v16=>?_)
 · clear hF
   go_simp
   exact (Below.refl _ _).alloc (Nat.le_refl _) _
 simp only [Act.put,List.setIfInBounds_toArray,List.set_cons_zero,List.set_cons_succ,Grow.addF]
 refine Grow.g_con rfl (fun w2 hw hF=>?_) ?_
 ·
  obtain ⟨b,rfl,hbz,hbc⟩:=hF _ (List.Mem.head _) (by simp [Oper.looksAt,Op.operands,Call.operands])
  clear hF
  go_simp
  refine (tsum_some B b 0 1 [s.extract 4 s.size] (by simp [maxLen]) (by simp [maxLen]; omega) w2 (fun i hi=>?_) (Tabs.ext (w:=w.drew) HT.out (by simpa using hB) hw)).mono ?_
  · have:i=0:=by simpa using hi
    subst this; simpa using hbc
  · rintro e w3 ⟨rfl,hd⟩
    exact ⟨_,rfl,by rw [← HN.out]; unfold flat; rw [List.map_cons,List.map_nil,Lib.extract_to_end]; simp,hd.below _⟩
 go_frame
 refine Grow.g_con rfl (fun w2 hw hF=>?_) ?_
 · clear hF
   go_simp
   exact (word_at n hn c0 c1 c2 c3 hb w2).mono fun e w3 ⟨he,hb3⟩=>⟨_,he,rfl,hb3⟩
 go_frame
 have HQ:=fun w=>eq4 (s[0].toNat:Int) (s[1].toNat:Int) (s[2].toNat:Int) (s[3].toNat:Int) (c0.toNat:Int) (c1.toNat:Int) (c2.toNat:Int) (c3.toNat:Int) w
 rw [open_test s hs4 n c0 c1 c2 c3 hb.out] at HQ
 generalize htst:decide (s.data.toList=be4 n++s.data.toList.drop 4)=tst at HQ
 have HTST:=Lib.hid htst; clear htst
 iterate 2
  refine Grow.g_det rfl ?_
  apply Exists.intro
  refine ⟨fun w hw hF=>?_,?_⟩
  · clear hF
    go_simp
    exact ⟨rfl,Ext.refl _⟩
  go_frame
 refine Grow.g_nil fun w3 hw3 hF=>?_
 clear hF HQ
 refine wpList_nil ?_
 have HW:Hid (Below w.heap.size w w3):=(Below.refl _ _).drew.trans hw3
 clear hw3
 have HFIN:Hid (tst=decide (s.data.toList=sealed (s.data.toList.drop 4))):=by unfold sealed; rw [HN.out]; exact HTST.out.symm
 clear HTST
 clear HN HT hb hd hs4i hn
 cases tst
 ·
  simp only [Bool.not_false]
  repeat go_step
  go_ret2
  refine ⟨?_,HW.out⟩
  rw [if_neg (of_decide_eq_false HFIN.out.symm)]
  rfl
 ·
  simp only [Bool.not_true]
  repeat go_step
  go_ret2
  refine ⟨?_,HW.out⟩
  rw [if_pos (of_decide_eq_true HFIN.out.symm)]
  rfl
end Go.Proofs.YtnoehodmmkioaaaGreatDoor.CrcW
