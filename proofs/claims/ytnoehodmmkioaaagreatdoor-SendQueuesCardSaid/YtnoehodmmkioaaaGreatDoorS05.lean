/- rec: Right. And what follows. -/
import Derived.Test.YtnoehodmmkioaaaGreatDoorS04
import Derived.Test.YtnoehodmmkioaaaGreatDoorS00
import Derived.Test.YtnoehodmmkioaaaGreatDoorS02
import Derived.Test.YtnoehodmmkioaaaGreatDoorProg
import Derived.Test.YtnoehodmmkioaaaGreatDoorS01
import Derived.Lib.IndexBytes
import Derived.MapKept
set_option maxHeartbeats 25600000
set_option maxRecDepth 100000
set_option linter.unusedVariables false
set_option linter.unusedSimpArgs false
namespace Go.Proofs.YtnoehodmmkioaaaGreatDoor.RecW
open Go.RowKit OctMath RecMath NameMath DskW
theorem strs_nil (w:World) (a:Option Addr):Strs w a (([]:List (List UInt8)).map S):=fun i hi=>absurd hi (by simp)
theorem inI0:inI 0:=by unfold inI; omega
theorem ok_cancel {m:Msg} (h:MsgOk m):MsgOk { noMsg with kind:=m.kind,ref:=m.ref,born:=m.born } :=
 ⟨h.kind,inI0,inI0,inI0,h.ref,h.born,Nat.zero_le _,Nat.zero_le _,Nat.zero_le _,Nat.zero_le _,fun t ht=>by cases ht⟩
theorem ok_fill {m:Msg} (h:MsgOk m):MsgOk { noMsg with body:=m.body } :=
 ⟨inI0,inI0,inI0,inI0,inI0,inI0,Nat.zero_le _,Nat.zero_le _,h.body,Nat.zero_le _,fun t ht=>by cases ht⟩
theorem right_any (m:Msg) (hm:MsgOk m) (a:Option Addr) (c:Nat) (W:World) (hS:Strs W a (m.keys.map S)) :
 Calls Tryz.prog 98 #[.agg (cellsM m a c)] W fun e w'=>e=.returned (.bool (rightL m))∧Below W.heap.size W w':=by
 have HB0:Hid (Below W.heap.size W (W.alloc (.cells (cellsM m a c) 53))):=(Below.refl _ W).alloc (Nat.le_refl _) _
 have HX:Hid (Boxed (W.alloc (.cells (cellsM m a c) 53)) W.heap.size (cellsM m a c)):=Boxed.new W _ _
 have HS0:=Lib.hid (Strs.below hS HB0.out)
 have HM:=Lib.hid hm
 have HC:Hid (rightL m=if badNum m.due || badNum m.ref || badNum m.born then false
  else if m.kind=1 then carriesL m && decide (m.due=0) && decide (m.ref=0)
  else if m.kind=2∨m.kind=3 then carriesL m
  else if m.kind=4 then decide (m={ noMsg with kind:=4,ref:=m.ref,born:=m.born })
  else if m.kind=0 then decide (m.body.length≤1024) && decide (m.body=noughts m.body.length) && decide (m={ noMsg with body:=m.body })
  else false):=rfl
 have hsz:=S_size
 have htl:=S_toList
 have hbn:m.body.length≤1073741824:=hm.body
 have hcu:(cellsM m a c).size=10:=rfl
 clear hm hS
 go_enter Tryz.func98,Tryz.ntmps98
 go_upto_region 1 with fail
 generalize W.alloc (.cells (cellsM m a c) 53)=w1 at *
 clear hcu
 obtain ⟨A,hA⟩:∃ A,W.heap.size=A:=⟨_,rfl⟩
 rw [hA] at HX HB0 ⊢
 have k2:w1.cell? ⟨A,2,none⟩=some (.int .i64 m.due):=HX.out 2 _ rfl
 have k4:w1.cell? ⟨A,4,none⟩=some (.int .i64 m.ref):=HX.out 4 _ rfl
 have k5:w1.cell? ⟨A,5,none⟩=some (.int .i64 m.born):=HX.out 5 _ rfl
 have HN:=Lib.hid (nums_any w1.heap.size [m.due,m.ref,m.born] (by simp) (by simp) (w1.alloc (.cells #[.int .i64 m.due,.int .i64 m.ref,.int .i64 m.born] 3)) (fun j hj=>by
  rw [World.cell?_alloc_new]
  match j,hj with
  | 0,_=>rfl
  | 1,_=>rfl
  | 2,_=>rfl
  | j+3,hj=>exact absurd hj (by simp)))
 have HB1:Hid (Below A W (w1.alloc (.cells #[.int .i64 m.due,.int .i64 m.ref,.int .i64 m.born] 3))):=HB0.out.alloc (by have:=HB0.out.size; omega) _
 have hany:[m.due,m.ref,m.born].any badNum=(badNum m.due || badNum m.ref || badNum m.born):=by simp [Bool.or_assoc]
 rw [hany] at HN
 change Hid (Calls _ _ #[.slice _ 3 3] _ _) at HN
 generalize (badNum m.due || badNum m.ref || badNum m.born)=bd at *
 clear hany
 go_wp2_with fail
 refine HN.out.mono ?_
 rintro e w2 ⟨rfl,hd⟩
 have HB2:=Lib.hid (HB1.out.trans (hd.below A))
 have HX2:Hid (Boxed w2 A (cellsM m a c)):=(HX.out.below ((Below.refl _ _).alloc (Nat.le_refl _) _)).below (hd.below _)
 have HS2:Hid (Strs w2 a (m.keys.map S)):=Strs.below (Strs.below HS0.out ((Below.refl _ _).alloc (Nat.le_refl _) _)) (hd.below _)
 clear hd HN
 cases bd with
 | true =>
   have HF:Hid (rightL m=false):=by show _=_; rw [HC.out]; rfl
   clear HC
   go_wp2_with fail
   go_ret
   exact ⟨ret_bool (by rw [HF.out]),hA ▸ HB2.out⟩
 | false =>
   replace HC:Hid (rightL m=if m.kind=1 then carriesL m && decide (m.due=0) && decide (m.ref=0)
    else if m.kind=2∨m.kind=3 then carriesL m
    else if m.kind=4 then decide (m={ noMsg with kind:=4,ref:=m.ref,born:=m.born })
    else if m.kind=0 then decide (m.body.length≤1024) && decide (m.body=noughts m.body.length) && decide (m={ noMsg with body:=m.body })
    else false):=by show _=_; rw [HC.out]; rfl
   obtain ⟨k0,k1,k2,k3,k4,k5,k6,k7,k8,k9⟩:=RecW.ten_cells HX2.out
   by_cases h1:m.kind=1
   case pos =>
    have HF:Hid (rightL m=(carriesL m && decide (m.due=0) && decide (m.ref=0))):=by show _=_; rw [HC.out,if_pos h1]
    have hca:=carries_any m HM.out a c w2 HS2.out
    generalize carriesL m=ca at *
    change Calls _ _ #[.agg #[.int .i64 m.kind,.int .i64 m.queue,.int .i64 m.due,.int .i64 m.retry,.int .i64 m.ref,.int .i64 m.born,.string (S m.topic),.string (S m.tag),.string (S m.body),.slice a m.keys.length c]] _ _ at hca
    rw [h1] at hca
    have HCA:=Lib.hid hca
    clear hca
    clear HC
    go_wp2_with fail
    refine HCA.out.mono ?_
    rintro e w3 ⟨rfl,hb⟩
    have HB3:=Lib.hid (HB2.out.trans (hb.mono (by have:=HB2.out.size; omega)))
    have k2:w3.cell? ⟨A,2,none⟩=some (.int .i64 m.due):=(HX2.out.below hb) 2 _ rfl
    have k4:w3.cell? ⟨A,4,none⟩=some (.int .i64 m.ref):=(HX2.out.below hb) 4 _ rfl
    clear hb HCA k0 k1 k3 k5 k6 k7 k8 k9
    cases ca with
    | false =>
      go_wp2_with fail
      go_ret
      exact ⟨ret_bool (by rw [HF.out]; rfl),hA ▸ HB3.out⟩
    | true =>
      by_cases hd:m.due=0
      · by_cases hr:m.ref=0
        · go_wp2_with fail
          go_ret
          exact ⟨ret_bool (by rw [HF.out,decide_eq_true hd,decide_eq_true hr]; first | rfl | simp [hd,hr]),hA ▸ HB3.out⟩
        · go_wp2_with fail
          go_ret
          exact ⟨ret_bool (by rw [HF.out,decide_eq_true hd,decide_eq_false hr]; first | rfl | simp [hd,hr]),hA ▸ HB3.out⟩
      · go_wp2_with fail
        go_ret
        exact ⟨ret_bool (by rw [HF.out,decide_eq_false hd]; first | rfl | simp [hd]),hA ▸ HB3.out⟩
   by_cases h2:m.kind=2
   case pos =>
    have HF:Hid (rightL m=carriesL m):=by show _=_; rw [HC.out,if_neg h1,if_pos (.inl h2)]
    have hca:=carries_any m HM.out a c w2 HS2.out
    generalize carriesL m=ca at *
    change Calls _ _ #[.agg #[.int .i64 m.kind,.int .i64 m.queue,.int .i64 m.due,.int .i64 m.retry,.int .i64 m.ref,.int .i64 m.born,.string (S m.topic),.string (S m.tag),.string (S m.body),.slice a m.keys.length c]] _ _ at hca
    rw [h2] at hca
    have HCA:=Lib.hid hca
    clear hca
    clear HC
    go_wp2_with fail
    refine HCA.out.mono ?_
    rintro e w3 ⟨rfl,hb⟩
    have HB3:=Lib.hid (HB2.out.trans (hb.mono (by have:=HB2.out.size; omega)))
    go_wp2_with fail
    go_ret
    exact ⟨ret_bool (by rw [HF.out]),hA ▸ HB3.out⟩
   by_cases h3:m.kind=3
   case pos =>
    have HF:Hid (rightL m=carriesL m):=by show _=_; rw [HC.out,if_neg h1,if_pos (.inr h3)]
    have hca:=carries_any m HM.out a c w2 HS2.out
    generalize carriesL m=ca at *
    change Calls _ _ #[.agg #[.int .i64 m.kind,.int .i64 m.queue,.int .i64 m.due,.int .i64 m.retry,.int .i64 m.ref,.int .i64 m.born,.string (S m.topic),.string (S m.tag),.string (S m.body),.slice a m.keys.length c]] _ _ at hca
    rw [h3] at hca
    have HCA:=Lib.hid hca
    clear hca
    clear HC
    go_wp2_with fail
    refine HCA.out.mono ?_
    rintro e w3 ⟨rfl,hb⟩
    have HB3:=Lib.hid (HB2.out.trans (hb.mono (by have:=HB2.out.size; omega)))
    go_wp2_with fail
    go_ret
    exact ⟨ret_bool (by rw [HF.out]),hA ▸ HB3.out⟩
   by_cases h4:m.kind=4
   case pos =>
    have HF:Hid (rightL m=decide (m={ noMsg with kind:=m.kind,ref:=m.ref,born:=m.born })):=by show _=_; rw [HC.out,if_neg h1,if_neg (by omega),if_pos h4,h4]
    have hsm:=same_any m _ HM.out (ok_cancel HM.out) a none c 0 w2 HS2.out (strs_nil w2 none)
    generalize decide (m={ noMsg with kind:=m.kind,ref:=m.ref,born:=m.born })=sm at *
    change Calls _ _ #[.agg #[.int .i64 m.kind,.int .i64 m.queue,.int .i64 m.due,.int .i64 m.retry,.int .i64 m.ref,.int .i64 m.born,.string (S m.topic),.string (S m.tag),.string (S m.body),.slice a m.keys.length c],.agg #[.int .i64 m.kind,.int .i64 0,.int .i64 0,.int .i64 0,.int .i64 m.ref,.int .i64 m.born,.string (S []),.string (S []),.string (S []),.slice none 0 0]] _ _ at hsm
    rw [h4] at hsm
    have HSM:=Lib.hid hsm
    clear hsm
    clear HC
    go_wp2_with fail
    refine HSM.out.mono ?_
    rintro e w3 ⟨rfl,hb⟩
    have HB3:=Lib.hid (HB2.out.trans (hb.mono (by have:=HB2.out.size; omega)))
    go_wp2_with fail
    go_ret
    exact ⟨ret_bool (by rw [HF.out]),hA ▸ HB3.out⟩
   by_cases h0:m.kind=0
   case neg =>
    have HF:Hid (rightL m=false):=by show _=_; rw [HC.out,if_neg h1,if_neg (by omega),if_neg h4,if_neg h0]
    clear HC
    go_wp2_with fail
    go_ret
    exact ⟨ret_bool (by rw [HF.out]),hA ▸ HB2.out⟩
   case pos =>
    replace HC:Hid (rightL m=(decide (m.body.length≤1024) && decide (m.body=noughts m.body.length) && decide (m={ noMsg with body:=m.body }))):=by show _=_; rw [HC.out,if_neg h1,if_neg (by omega),if_neg h4,if_pos h0]
    have hsm:=fun (w':World) (hb:Below w2.heap.size w2 w')=>same_any m _ HM.out (ok_fill HM.out) a none c 0 w' (Strs.below HS2.out hb) (strs_nil w' none)
    by_cases hb:m.body.length≤1024
    ·
     have hbi:(m.body.length:Int)≤1024:=by omega
     by_cases he:m.body=noughts m.body.length
     ·
      replace HC:Hid (rightL m=decide (m={ noMsg with body:=m.body })):=by show _=_; rw [HC.out,decide_eq_true hb,decide_eq_true he]; rfl
      generalize decide (m={ noMsg with body:=m.body })=sm at *
      have HNT:=Lib.hid (fun (w':World)=>noughts_any m.body.length (by omega) w')
      rw [← he] at HNT
      change ∀ w',_→Calls _ _ #[.agg #[.int .i64 m.kind,.int .i64 m.queue,.int .i64 m.due,.int .i64 m.retry,.int .i64 m.ref,.int .i64 m.born,.string (S m.topic),.string (S m.tag),.string (S m.body),.slice a m.keys.length c],.agg #[.int .i64 0,.int .i64 0,.int .i64 0,.int .i64 0,.int .i64 0,.int .i64 0,.string (S []),.string (S []),.string (S m.body),.slice none 0 0]] _ _ at hsm
      rw [h0] at hsm
      have HSM:=Lib.hid hsm
      clear hsm he
      go_wp2_with fail
      refine Grow.wp_region_g 21 [none,some (.inl (.string (S m.body))),none,some (.inl (.bool true)),none,none,some (.inl (.string (S m.body))),none,some (.inl (.string (S m.body))),none,some (.inl (.string (S m.body))),some (.inl (.bool true)),none,none,some (.inl (.agg #[.int .i64 0,.int .i64 m.queue,.int .i64 m.due,.int .i64 m.retry,.int .i64 m.ref,.int .i64 m.born,.string (S m.topic),.string (S m.tag),.string (S m.body),.slice a m.keys.length c])),none,some (.inl (.string (S m.body))),none,some (.inl (.bool sm)),none,none] Ext (by kernel_rfl) (by kernel_rfl) (by kernel_rfl) Ext.refl (fun _ _ _=>Ext.trans) ?_ ?_
      · intro K hK Y hY v w w' hR h
        simp only [List.mem_cons,List.not_mem_nil,or_false] at hK
        rcases hK with rfl | rfl | rfl | rfl | rfl | rfl | rfl | rfl | rfl | rfl | rfl | rfl | rfl | rfl | rfl | rfl | rfl | rfl | rfl | rfl | rfl <;> simp only [reduceCtorEq,Option.some.injEq,Sum.inr.injEq] at hY
      simp only [List.take_succ_cons,List.take_zero,List.drop_succ_cons,List.drop_zero]
      refine Grow.g_det rfl ?_
      apply Exists.intro
      refine ⟨fun w hw hF=>?_,?_⟩
      · clear hF
        go_simp
        exact ⟨rfl,Ext.refl _⟩
      go_frame
      refine Grow.g_con rfl (fun w2' hw hF=>?_) ?_
      · clear hF
        have k8:w2'.cell? ⟨A,8,none⟩=some (.string (S m.body)):=(HX2.out.below ((Below.refl w2.heap.size w2).drew.trans hw)) 8 _ rfl
        go_simp
        all_goals exact Ext.refl _
      go_frame
      refine Grow.g_det rfl ?_
      apply Exists.intro
      refine ⟨fun w hw hF=>?_,?_⟩
      · clear hF
        go_simp
        exact ⟨rfl,Ext.refl _⟩
      go_frame
      refine Grow.g_con rfl (fun w2' hw hF=>?_) ?_
      · clear hF
        go_simp
        all_goals first | exact Ext.refl _ | exact hbi | omega
      iterate 2
       go_frame
       refine Grow.g_det rfl ?_
       apply Exists.intro
       refine ⟨fun w hw hF=>?_,?_⟩
       · clear hF
         go_simp
         exact ⟨rfl,Ext.refl _⟩
      iterate 2
       go_frame
       refine Grow.g_con rfl (fun w2' hw hF=>?_) ?_
       · clear hF
         have k8:w2'.cell? ⟨A,8,none⟩=some (.string (S m.body)):=(HX2.out.below ((Below.refl w2.heap.size w2).drew.trans hw)) 8 _ rfl
         go_simp
         all_goals exact Ext.refl _
       go_frame
       refine Grow.g_det rfl ?_
       apply Exists.intro
       refine ⟨fun w hw hF=>?_,?_⟩
       · clear hF
         go_simp
         exact ⟨rfl,Ext.refl _⟩
      go_frame
      refine Grow.g_con rfl (fun w2' hw hF=>?_) ?_
      · clear hF
        go_simp
        exact (HNT.out w2').mono fun e w3 h=>⟨_,h.1,rfl,h.2⟩
      go_frame
      refine Grow.g_con rfl (fun w2' hw hF=>?_) ?_
      · clear hF
        go_simp
        all_goals first | exact Ext.refl _ | exact hne | (simpa using hne)
      iterate 2
       go_frame
       refine Grow.g_det rfl ?_
       apply Exists.intro
       refine ⟨fun w hw hF=>?_,?_⟩
       · clear hF
         go_simp
         exact ⟨rfl,Ext.refl _⟩
      go_frame
      refine Grow.g_con rfl (fun w2' hw hF=>?_) ?_
      ·
       clear hF
       have k0:w2'.cell? ⟨A,0,none⟩=some (.int .i64 0):=(h0 ▸ (show w2'.cell? ⟨A,0,none⟩=some (.int .i64 m.kind) from (HX2.out.below ((Below.refl w2.heap.size w2).drew.trans hw)) 0 _ rfl))
       have k1:w2'.cell? ⟨A,1,none⟩=some (.int .i64 m.queue):=(HX2.out.below ((Below.refl w2.heap.size w2).drew.trans hw)) 1 _ rfl
       have k2:w2'.cell? ⟨A,2,none⟩=some (.int .i64 m.due):=(HX2.out.below ((Below.refl w2.heap.size w2).drew.trans hw)) 2 _ rfl
       have k3:w2'.cell? ⟨A,3,none⟩=some (.int .i64 m.retry):=(HX2.out.below ((Below.refl w2.heap.size w2).drew.trans hw)) 3 _ rfl
       have k4:w2'.cell? ⟨A,4,none⟩=some (.int .i64 m.ref):=(HX2.out.below ((Below.refl w2.heap.size w2).drew.trans hw)) 4 _ rfl
       have k5:w2'.cell? ⟨A,5,none⟩=some (.int .i64 m.born):=(HX2.out.below ((Below.refl w2.heap.size w2).drew.trans hw)) 5 _ rfl
       have k6:w2'.cell? ⟨A,6,none⟩=some (.string (S m.topic)):=(HX2.out.below ((Below.refl w2.heap.size w2).drew.trans hw)) 6 _ rfl
       have k7:w2'.cell? ⟨A,7,none⟩=some (.string (S m.tag)):=(HX2.out.below ((Below.refl w2.heap.size w2).drew.trans hw)) 7 _ rfl
       have k8:w2'.cell? ⟨A,8,none⟩=some (.string (S m.body)):=(HX2.out.below ((Below.refl w2.heap.size w2).drew.trans hw)) 8 _ rfl
       have k9:w2'.cell? ⟨A,9,none⟩=some (.slice a m.keys.length c):=(HX2.out.below ((Below.refl w2.heap.size w2).drew.trans hw)) 9 _ rfl
       go_simp
       all_goals exact Ext.refl _
      go_frame
      refine Grow.g_det rfl ?_
      apply Exists.intro
      refine ⟨fun w hw hF=>?_,?_⟩
      · clear hF
        go_simp
        exact ⟨rfl,Ext.refl _⟩
      go_frame
      refine Grow.g_con rfl (fun w2' hw hF=>?_) ?_
      · clear hF
        have k8:w2'.cell? ⟨A,8,none⟩=some (.string (S m.body)):=(HX2.out.below ((Below.refl w2.heap.size w2).drew.trans hw)) 8 _ rfl
        go_simp
        all_goals exact Ext.refl _
      go_frame
      refine Grow.g_det rfl ?_
      apply Exists.intro
      refine ⟨fun w hw hF=>?_,?_⟩
      · clear hF
        go_simp
        exact ⟨rfl,Ext.refl _⟩
      go_frame
      refine Grow.g_con rfl (fun w2' hw hF=>?_) ?_
      · clear hF
        go_simp
        exact (HSM.out w2' ((Below.refl w2.heap.size w2).drew.trans hw)).mono fun e w3 h=>⟨_,h.1,rfl,h.2⟩
      iterate 2
       go_frame
       refine Grow.g_det rfl ?_
       apply Exists.intro
       refine ⟨fun w hw hF=>?_,?_⟩
       · clear hF
         go_simp
         exact ⟨rfl,Ext.refl _⟩
      go_frame
      refine Grow.g_nil fun w3 hw3 hF=>?_
      clear hF
      refine wpList_nil ?_
      have HB3:=Lib.hid (HB2.out.trans (((Below.refl w2.heap.size w2).drew.trans hw3).mono (by have:=HB2.out.size; omega)))
      clear hw3
      go_wp2_with fail
      go_ret
      exact ⟨ret_bool (by rw [HC.out]),hA ▸ HB3.out⟩
     ·
      have HF:Hid (rightL m=false):=by show _=_; rw [HC.out,decide_eq_true hb,decide_eq_false he]; rfl
      clear HC hsm
      have HNT:=Lib.hid (fun (w':World)=>noughts_any m.body.length (by omega) w')
      generalize hnn:noughts m.body.length=nn at *
      have hne:¬ m.body=nn:=he
      clear he hnn
      go_wp2_with fail
      refine Grow.wp_region_g 21 [none,some (.inl (.string (S m.body))),none,some (.inl (.bool true)),none,none,some (.inl (.string (S m.body))),none,some (.inl (.string (S m.body))),none,some (.inl (.string (S nn))),some (.inl (.bool false)),none,none,none,none,none,none,none,none,none] Ext (by kernel_rfl) (by kernel_rfl) (by kernel_rfl) Ext.refl (fun _ _ _=>Ext.trans) ?_ ?_
      · intro K hK Y hY v w w' hR h
        simp only [List.mem_cons,List.not_mem_nil,or_false] at hK
        rcases hK with rfl | rfl | rfl | rfl | rfl | rfl | rfl | rfl | rfl | rfl | rfl | rfl | rfl | rfl | rfl | rfl | rfl | rfl | rfl | rfl | rfl <;> simp only [reduceCtorEq,Option.some.injEq,Sum.inr.injEq] at hY
      simp only [List.take_succ_cons,List.take_zero,List.drop_succ_cons,List.drop_zero]
      refine Grow.g_det rfl ?_
      apply Exists.intro
      refine ⟨fun w hw hF=>?_,?_⟩
      · clear hF
        go_simp
        exact ⟨rfl,Ext.refl _⟩
      go_frame
      refine Grow.g_con rfl (fun w2' hw hF=>?_) ?_
      · clear hF
        have k8:w2'.cell? ⟨A,8,none⟩=some (.string (S m.body)):=(HX2.out.below ((Below.refl w2.heap.size w2).drew.trans hw)) 8 _ rfl
        go_simp
        all_goals exact Ext.refl _
      go_frame
      refine Grow.g_det rfl ?_
      apply Exists.intro
      refine ⟨fun w hw hF=>?_,?_⟩
      · clear hF
        go_simp
        exact ⟨rfl,Ext.refl _⟩
      go_frame
      refine Grow.g_con rfl (fun w2' hw hF=>?_) ?_
      · clear hF
        go_simp
        all_goals first | exact Ext.refl _ | exact hbi | omega
      iterate 2
       go_frame
       refine Grow.g_det rfl ?_
       apply Exists.intro
       refine ⟨fun w hw hF=>?_,?_⟩
       · clear hF
         go_simp
         exact ⟨rfl,Ext.refl _⟩
      iterate 2
       go_frame
       refine Grow.g_con rfl (fun w2' hw hF=>?_) ?_
       · clear hF
         have k8:w2'.cell? ⟨A,8,none⟩=some (.string (S m.body)):=(HX2.out.below ((Below.refl w2.heap.size w2).drew.trans hw)) 8 _ rfl
         go_simp
         all_goals exact Ext.refl _
       go_frame
       refine Grow.g_det rfl ?_
       apply Exists.intro
       refine ⟨fun w hw hF=>?_,?_⟩
       · clear hF
         go_simp
         exact ⟨rfl,Ext.refl _⟩
      go_frame
      refine Grow.g_con rfl (fun w2' hw hF=>?_) ?_
      · clear hF
        go_simp
        exact (HNT.out w2').mono fun e w3 h=>⟨_,h.1,rfl,h.2⟩
      go_frame
      refine Grow.g_con rfl (fun w2' hw hF=>?_) ?_
      · clear hF
        go_simp
        all_goals first | exact Ext.refl _ | exact hne | (simpa using hne)
      go_frame
      iterate 9
       first
       | refine Grow.g_skip rfl ?_
       | refine Grow.g_det rfl ?_
         apply Exists.intro
         refine ⟨fun w hw hF=>?_,?_⟩
         · clear hF
           go_simp
           exact ⟨rfl,Ext.refl _⟩
       go_frame
      refine Grow.g_nil fun w3 hw3 hF=>?_
      clear hF
      refine wpList_nil ?_
      have HB3:=Lib.hid (HB2.out.trans (((Below.refl w2.heap.size w2).drew.trans hw3).mono (by have:=HB2.out.size; omega)))
      clear hw3
      go_wp2_with fail
      go_ret
      exact ⟨ret_bool (by rw [HF.out]),hA ▸ HB3.out⟩
    ·
     have HF:Hid (rightL m=false):=by show _=_; rw [HC.out,decide_eq_false hb]; rfl
     have hbi:¬ (m.body.length:Int)≤1024:=by omega
     have hbd:decide ((m.body.length:Int)≤1024)=false:=decide_eq_false hbi
     have hbd2:decide (m.body.length≤1024)=false:=decide_eq_false hb
     clear HC hsm
     go_wp2_with fail
     go_quiet (fail)
     go_wp2_with fail
     go_ret
     exact ⟨ret_bool (by rw [HF.out]),hA ▸ (HB2.out.trans (((Drawn.refl w2).drewN nq).below A))⟩
open Go.RowKit OctMath RecMath NameMath
open OctW (textL textsL textsW listW)
theorem nums3 (n:Nat) (h1:1≤n) (h7:n≤7) (a b c:Int) (ha:OctW.fits n a) (hb:OctW.fits n b) (hc:OctW.fits n c):OctW.numsW (n:Int) [a,b,c]=(be n a.toNat++(be n b.toNat++be n c.toNat),0):=by
 rw [nums_fit n _ h1 h7 (fun x hx=>by
  simp only [List.mem_cons,List.not_mem_nil,or_false] at hx
  rcases hx with rfl | rfl | rfl <;> assumption)]
 simp [OctW.numsL]
theorem texts_len (ts:List (List UInt8)) (n:Nat) (h:∀ t∈ts,t.length≤n):(textsL ts).length≤ts.length * (n+2):=by
 induction ts with
 | nil=>unfold textsL; simp
 | cons t ts ih =>
   rw [OctW.textsL_cons,List.length_append,OctW.textL_length,List.length_cons,Nat.add_mul,Nat.one_mul]
   have:=h t (.head _)
   have:=ih fun t ht=>h t (.tail _ ht)
   omega
theorem inside_any (m:Msg) (hm:rightL m=true) (hk0:m.kind≠0) (a:Option Addr) (c:Nat) (W:World) (hS:Strs W a (m.keys.map S)) :
 Calls Tryz.prog 99 #[.agg (cellsM m a c)] W fun e w'=>e=.returned (.string (S (insideL m)))∧Below W.heap.size W w':=by
 obtain ⟨⟨d1,d2⟩,⟨r1,r2⟩,⟨b1,b2⟩,⟨k1,k2⟩,⟨q1,q2⟩,⟨t1,t2⟩,l1,l2,l3,l4,l5⟩:=right_parts hm hk0
 have HB0:Hid (Below W.heap.size W (W.alloc (.cells (cellsM m a c) 53))):=(Below.refl _ W).alloc (Nat.le_refl _) _
 have HX:Hid (Boxed (W.alloc (.cells (cellsM m a c) 53)) W.heap.size (cellsM m a c)):=Boxed.new W _ _
 have HS0:=Lib.hid (Strs.below hS HB0.out)
 have n1:OctW.numsW 1 [m.kind,m.queue,m.retry]=(be 1 m.kind.toNat++(be 1 m.queue.toNat++be 1 m.retry.toNat),0):=nums3 1 (by omega) (by omega) _ _ _ ⟨by omega,by show m.kind < ((256 ^ 1:Nat):Int); omega⟩ ⟨by omega,by show m.queue < ((256 ^ 1:Nat):Int); omega⟩ ⟨by omega,by show m.retry < ((256 ^ 1:Nat):Int); omega⟩
 have n6:OctW.numsW 6 [m.born,m.due,m.ref]=(be 6 m.born.toNat++(be 6 m.due.toNat++be 6 m.ref.toNat),0):=nums3 6 (by omega) (by omega) _ _ _ ⟨by omega,by show m.born < ((256 ^ 6:Nat):Int); omega⟩ ⟨by omega,by show m.due < ((256 ^ 6:Nat):Int); omega⟩ ⟨by omega,by show m.ref < ((256 ^ 6:Nat):Int); omega⟩
 have ht3:∀ t∈[m.topic,m.tag,m.body],t.length≤200:=by
  intro t ht
  simp only [List.mem_cons,List.not_mem_nil,or_false] at ht
  rcases ht with rfl | rfl | rfl <;> omega
 have x3:textsW [m.topic,m.tag,m.body]=(textL m.topic++(textL m.tag++textL m.body),0):=by
  unfold OctW.textsW
  rw [if_pos (fun t ht=>by have:=ht3 t ht; omega)]
  simp [textsL]
 have x3l:(textsL [m.topic,m.tag,m.body]).length≤1073741824:=by have:=texts_len _ 200 ht3; simp at this; omega
 have xk:listW m.keys=(be 1 m.keys.length++textsL m.keys,0):=by
  unfold OctW.listW
  rw [if_neg (by omega),if_pos (fun t ht=>by have:=l5 t ht; omega)]
 have xkl:(textsL m.keys).length≤54:=by
  have:=texts_len _ 16 l5
  have:m.keys.length * (16+2)≤3 * 18:=Nat.mul_le_mul_right _ l4
  omega
 have HIN:Hid (S (be 1 m.kind.toNat++(be 1 m.queue.toNat++be 1 m.retry.toNat))++S (be 6 m.born.toNat++(be 6 m.due.toNat++be 6 m.ref.toNat))++S (textL m.topic++(textL m.tag++textL m.body))++S (be 1 m.keys.length++textsL m.keys)=S (insideL m)):=by
  show _=_
  rw [S_append,S_append,S_append]
  unfold insideL
  simp only [List.append_assoc]
 have z1:(S (be 1 m.kind.toNat++(be 1 m.queue.toNat++be 1 m.retry.toNat))).size≤1000:=by rw [S_size]; simp [be_length]
 have z2:(S (be 6 m.born.toNat++(be 6 m.due.toNat++be 6 m.ref.toNat))).size≤1000:=by rw [S_size]; simp [be_length]
 have z3:(S (textL m.topic++(textL m.tag++textL m.body))).size≤1000:=by rw [S_size]; simp [OctW.textL_length]; omega
 have z4:(S (be 1 m.keys.length++textsL m.keys)).size≤1000:=by rw [S_size]; simp [be_length]; omega
 have HN1:=Lib.hid (fun (w:World)=>OctW.nums_any 1 (by omega) (by omega) (some ⟨w.heap.size,0,none⟩) 3 [m.kind,m.queue,m.retry] (by simp) (fun x hx=>by simp at hx; omega) _ (ints_new w [m.kind,m.queue,m.retry] 3))
 have HN6:=Lib.hid (fun (w:World)=>OctW.nums_any 6 (by omega) (by omega) (some ⟨w.heap.size,0,none⟩) 3 [m.born,m.due,m.ref] (by simp) (fun x hx=>by simp at hx; omega) _ (ints_new w [m.born,m.due,m.ref] 3))
 have HT3:=Lib.hid (fun (w:World)=>OctW.texts_any (some ⟨w.heap.size,0,none⟩) 3 [m.topic,m.tag,m.body] (by simp) x3l _ (strs_new w [S m.topic,S m.tag,S m.body] 9))
 have HLK:=Lib.hid (fun (w:World) (h:Strs w a (m.keys.map S))=>OctW.listw_any a c m.keys (by omega) (by omega) w h)
 rw [n1] at HN1
 rw [n6] at HN6
 rw [x3] at HT3
 rw [xk] at HLK
 change Hid (∀ w:World,Calls _ _ #[.int .i64 1,.slice (some ⟨w.heap.size,0,none⟩) 3 3] (w.alloc (.cells #[.int .i64 m.kind,.int .i64 m.queue,.int .i64 m.retry] _)) _) at HN1
 change Hid (∀ w:World,Calls _ _ #[.int .i64 6,.slice (some ⟨w.heap.size,0,none⟩) 3 3] (w.alloc (.cells #[.int .i64 m.born,.int .i64 m.due,.int .i64 m.ref] _)) _) at HN6
 change Hid (∀ w:World,Calls _ _ #[.slice (some ⟨w.heap.size,0,none⟩) 3 3] (w.alloc (.cells #[.string (S m.topic),.string (S m.tag),.string (S m.body)] _)) _) at HT3
 generalize S (be 1 m.kind.toNat++(be 1 m.queue.toNat++be 1 m.retry.toNat))=s1 at *
 generalize S (be 6 m.born.toNat++(be 6 m.due.toNat++be 6 m.ref.toNat))=s2 at *
 generalize S (textL m.topic++(textL m.tag++textL m.body))=s3 at *
 generalize S (be 1 m.keys.length++textsL m.keys)=s4 at *
 have hcu:(cellsM m a c).size=10:=rfl
 clear hm hk0 hS d1 d2 r1 r2 b1 b2 k1 k2 q1 q2 t1 t2 l1 l2 l3 l4 l5 n1 n6 ht3 x3 x3l xk xkl
 go_enter Tryz.func99,Tryz.ntmps99
 go_upto_region 1 with fail
 generalize W.alloc (.cells (cellsM m a c) 53)=w1 at *
 clear hcu
 obtain ⟨A,hA⟩:∃ A,W.heap.size=A:=⟨_,rfl⟩
 rw [hA] at HX HB0 ⊢
 have k0:w1.cell? ⟨A,0,none⟩=some (.int .i64 m.kind):=HX.out 0 _ rfl
 have k1:w1.cell? ⟨A,1,none⟩=some (.int .i64 m.queue):=HX.out 1 _ rfl
 have k3:w1.cell? ⟨A,3,none⟩=some (.int .i64 m.retry):=HX.out 3 _ rfl
 go_wp2_with fail
 refine (HN1.out w1).mono ?_
 rintro e w2 ⟨rfl,hb⟩
 have hbb:Below w1.heap.size w1 w2:=((Below.refl _ _).alloc (Nat.le_refl _) _).trans (hb.mono (by rw [World.size_alloc]; omega))
 have HB2:=Lib.hid (HB0.out.trans (hbb.mono (by have:=HB0.out.size; omega)))
 have HX2:=Lib.hid (HX.out.below hbb)
 have HS2:=Lib.hid (Strs.below HS0.out hbb)
 clear hb hbb HN1 k0 k1 k3
 have k5:w2.cell? ⟨A,5,none⟩=some (.int .i64 m.born):=HX2.out 5 _ rfl
 have k2:w2.cell? ⟨A,2,none⟩=some (.int .i64 m.due):=HX2.out 2 _ rfl
 have k4:w2.cell? ⟨A,4,none⟩=some (.int .i64 m.ref):=HX2.out 4 _ rfl
 go_wp2_with fail
 refine (HN6.out w2).mono ?_
 rintro e w3 ⟨rfl,hb⟩
 have hbb:Below w2.heap.size w2 w3:=((Below.refl _ _).alloc (Nat.le_refl _) _).trans (hb.mono (by rw [World.size_alloc]; omega))
 have HB3:=Lib.hid (HB2.out.trans (hbb.mono (by have:=HB2.out.size; omega)))
 have HX3:=Lib.hid (HX2.out.below hbb)
 have HS3:=Lib.hid (Strs.below HS2.out hbb)
 clear hb hbb HN6 k5 k2 k4
 have k6:w3.cell? ⟨A,6,none⟩=some (.string (S m.topic)):=HX3.out 6 _ rfl
 have k7:w3.cell? ⟨A,7,none⟩=some (.string (S m.tag)):=HX3.out 7 _ rfl
 have k8:w3.cell? ⟨A,8,none⟩=some (.string (S m.body)):=HX3.out 8 _ rfl
 go_wp2_with fail
 refine (HT3.out w3).mono ?_
 rintro e w4 ⟨rfl,hb⟩
 have hbb:Below w3.heap.size w3 w4:=((Below.refl _ _).alloc (Nat.le_refl _) _).trans (hb.mono (by rw [World.size_alloc]; omega))
 have HB4:=Lib.hid (HB3.out.trans (hbb.mono (by have:=HB3.out.size; omega)))
 have HX4:=Lib.hid (HX3.out.below hbb)
 have HS4:=Lib.hid (Strs.below HS3.out hbb)
 clear hb hbb HT3 k6 k7 k8
 have k9:w4.cell? ⟨A,9,none⟩=some (.slice a m.keys.length c):=HX4.out 9 _ rfl
 go_wp2_with fail
 refine (HLK.out w4 HS4.out).mono ?_
 rintro e w5 ⟨rfl,hb⟩
 have HB5:=Lib.hid (HB4.out.trans (hb.mono (by have:=HB4.out.size; omega)))
 clear hb HLK k9
 go_wp2_with fail
 go_ret
 exact ⟨by rw [← HIN.out]; rfl,hA ▸ HB5.out⟩
end Go.Proofs.YtnoehodmmkioaaaGreatDoor.RecW
namespace Go.Proofs.YtnoehodmmkioaaaGreatDoor.CrcW
open Go.RowKit CrcMath
theorem bv_lt (x:BitVec 32):0≤(x.toNat:Int)∧(x.toNat:Int) < 4294967296:=by have:=x.isLt; omega
theorem and_u32 (x y:BitVec 32):bits .and .u32 (x.toNat:Int) (y.toNat:Int)=((x &&& y).toNat:Int):=by
 rw [u32_and_nat _ _ x.isLt y.isLt,BitVec.toNat_and]
theorem or_u32 (x y:BitVec 32):bits .or .u32 (x.toNat:Int) (y.toNat:Int)=((x ||| y).toNat:Int):=by
 rw [u32_or_nat _ _ x.isLt y.isLt,BitVec.toNat_or]
theorem xor_u32 (x y:BitVec 32):bits .xor .u32 (x.toNat:Int) (y.toNat:Int)=((x ^^^ y).toNat:Int):=by
 rw [u32_xor_nat _ _ x.isLt y.isLt,BitVec.toNat_xor]
theorem xor_u8 (x y:BitVec 8):bits .xor .u8 (x.toNat:Int) (y.toNat:Int)=((x ^^^ y).toNat:Int):=by
 rw [u8_xor_nat _ _ x.isLt y.isLt,BitVec.toNat_xor]
theorem half (x:BitVec 32):(x.toNat:Int) / (2:Int)=((x >>> 1).toNat:Int):=by simp [BitVec.toNat_ushiftRight,Nat.shiftRight_eq_div_pow]
theorem shr8 (x:BitVec 32):(x.toNat:Int) / (256:Int)=((x >>> 8).toNat:Int):=by simp [BitVec.toNat_ushiftRight,Nat.shiftRight_eq_div_pow]
theorem low8 (x:BitVec 32):(x.toNat:Int) % (256:Int)=((x.setWidth 8).toNat:Int):=by simp
theorem and_one (x:BitVec 32):(bits .and .u32 (x.toNat:Int) 1 == 1)=x.getLsbD 0:=by
 have h:=and_u32 x 1#32
 simp only [BitVec.toNat_ofNat] at h
 rw [show ((1 % 2 ^ 32:Nat):Int)=1 from rfl] at h
 rw [h,BitVec.toNat_and]
 simp only [BitVec.toNat_ofNat]
 rw [show 1 % 2 ^ 32=1 from rfl,Nat.and_one_is_mod]
 rw [BitVec.getLsbD,Nat.testBit_zero]
 cases Nat.mod_two_eq_zero_or_one x.toNat with
 | inl e=>rw [e]; rfl
 | inr e=>rw [e]; rfl
theorem step_one (x:BitVec 32) (h:(bits .and .u32 (x.toNat:Int) 1 == 1)=true):bits .xor .u32 ((x.toNat:Int) / (2:Int)) 3988292384=((cstep x).toNat:Int):=by
 rw [and_one] at h
 unfold cstep; rw [if_pos h,half]
 exact xor_u32 (x >>> 1) poly
theorem step_nought (x:BitVec 32) (h:(bits .and .u32 (x.toNat:Int) 1 == 1)=false):(x.toNat:Int) / (2:Int)=((cstep x).toNat:Int):=by
 rw [and_one] at h
 unfold cstep; rw [h,half,if_neg (by simp)]
theorem first_any (b:BitVec 32) (w:World) :
 Calls Tryz.prog 154 #[.int .u32 b.toNat] w fun e w'=>e=.returned (.int .u32 (steps 8 b).toNat)∧w=w':=by
 go_enter Tryz.func154,Tryz.ntmps154
 go_wp2
 go_loop [0,4] (fun v i=>∃ k:Nat,k≤8∧i=.int .i64 k∧v=.int .u32 (steps k b).toNat) (fun _ i=>8 - (intOf i).toNat)
 case atStart=>exact ⟨0,by omega,rfl,rfl⟩
 case round =>
  obtain ⟨k,hk,rfl,rfl⟩:=hrel
  have hx:=bv_lt (steps k b)
  by_cases hlt:k < 8
  ·
   go_wp2
   · go_round
     case rel=>exact ⟨k+1,by omega,by go_num,by rw [steps_succ',step_one _ (by assumption)]⟩
     case measure=>simp [intOf]; omega
   · go_round
     case rel=>exact ⟨k+1,by omega,by go_num,by rw [steps_succ',step_nought _ (by assumption)]⟩
     case measure=>simp [intOf]; omega
  · go_wp2
    go_ret
    exact ⟨by simp [show k=8 by omega],rfl⟩
def Tabs (w:World) (B:Nat):Prop:=∀ k j,k < 4→j < 256→w.cell? ⟨B,256 * k+j,none⟩=some (.int .u32 (tab k (BitVec.ofNat 8 j)).toNat)
theorem Tabs.at {w:World} {B:Nat} (h:Tabs w B) (k:Nat) (hk:k < 4) (x:BitVec 8):w.cell? ⟨B,256 * k+x.toNat,none⟩=some (.int .u32 (tab k x).toNat):=by
 have:=h k x.toNat hk x.isLt
 rwa [BitVec.ofNat_toNat,BitVec.setWidth_eq] at this
theorem one_any (B:Nat) (x:BitVec 32) (c:UInt8) (w:World) (hT:Tabs w B) :
 Calls Tryz.prog 205 #[.pointer (some ⟨B,0,none⟩),.int .u32 x.toNat,.int .u8 c.toNat] w fun e w'=>e=.returned (.int .u32 (upd x c.toBitVec).toNat)∧w=w':=by
 have hx:=bv_lt x
 have e1:bits .xor .u8 ((x.toNat:Int) % (256:Int)) (c.toNat:Int)=(((x.setWidth 8 ^^^ c.toBitVec).toNat:Nat):Int):=by
  rw [low8]; exact xor_u8 _ _
 have hc:=hT.at 0 (by omega) (x.setWidth 8 ^^^ c.toBitVec)
 have e2:=one_eq x c.toBitVec
 generalize x.setWidth 8 ^^^ c.toBitVec=i at *
 have hi:(i.toNat:Int) < 256:=by have:=i.isLt; omega
 simp only [Nat.mul_zero,Nat.zero_add] at hc
 have E2:=Lib.hid e2; clear e2
 have HT:=Lib.hid hT; clear hT
 go_enter Tryz.func205,Tryz.ntmps205
 go_wp2
 go_ret
 exact ⟨ret_int (by rw [E2.out,shr8,xor_u32]),rfl⟩
theorem ext_nat (b:UInt8):(b.toNat:Int) % 4294967296=((ext b.toBitVec).toNat:Int):=by
 have:=b.toNat_lt
 simp [ext]; omega
theorem ext_shl (b:UInt8) (n:Nat):(b.toNat:Int) % 4294967296 * ((2 ^ n:Nat):Int) % 4294967296=((ext b.toBitVec <<< n).toNat:Int):=by
 rw [ext_nat,BitVec.toNat_shiftLeft,Nat.shiftLeft_eq]
 simp
theorem word_int (x:BitVec 32) (a b c d:UInt8) :
 bits .xor .u32 (x.toNat:Int) (bits .or .u32 (bits .or .u32 (bits .or .u32 ((a.toNat:Int) % 4294967296) ((b.toNat:Int) % 4294967296 * 256 % 4294967296)) ((c.toNat:Int) % 4294967296 * 65536 % 4294967296)) ((d.toNat:Int) % 4294967296 * 16777216 % 4294967296))=((x ^^^ word4 a.toBitVec b.toBitVec c.toBitVec d.toBitVec).toNat:Int):=by
 have h1:(b.toNat:Int) % 4294967296 * 256 % 4294967296=_:=ext_shl b 8
 have h2:(c.toNat:Int) % 4294967296 * 65536 % 4294967296=_:=ext_shl c 16
 have h3:(d.toNat:Int) % 4294967296 * 16777216 % 4294967296=_:=ext_shl d 24
 rw [ext_nat,h1,h2,h3,or_u32,or_u32,or_u32,xor_u32]; rfl
theorem and255 (y:BitVec 32):bits .and .u32 (y.toNat:Int) 255=((y.setWidth 8).toNat:Int):=by
 have h:=and_u32 y 255#32
 simp only [BitVec.toNat_ofNat] at h
 rw [show ((255 % 2 ^ 32:Nat):Int)=255 from rfl] at h
 rw [h,BitVec.toNat_and]
 simp only [BitVec.toNat_ofNat,BitVec.toNat_setWidth]
 rw [show 255 % 2 ^ 32=2 ^ 8 - 1 from rfl,Nat.and_two_pow_sub_one_eq_mod]
theorem shr_int (y:BitVec 32) (n:Nat):(y.toNat:Int) / ((2 ^ n:Nat):Int)=((y >>> n).toNat:Int):=by
 rw [BitVec.toNat_ushiftRight,Nat.shiftRight_eq_div_pow]; rfl
theorem top8 (y:BitVec 32):((y >>> 24).toNat:Int)=(((y >>> 24).setWidth 8).toNat:Int):=by
 have:=y.isLt
 simp [BitVec.toNat_ushiftRight,Nat.shiftRight_eq_div_pow]; omega
theorem take4 (s:ByteArray) (h:4≤s.size):s.data.toList.take 4=[s[0]'(by omega),s[1]'(by omega),s[2]'(by omega),s[3]'(by omega)]:=by
 obtain ⟨⟨l⟩⟩:=s
 match l,h with
 | a :: b :: c :: d :: l,_=>rfl
theorem four_any (B:Nat) (x:BitVec 32) (s:ByteArray) (h4:4≤s.size) (w:World) (hT:Tabs w B) :
 Calls Tryz.prog 204 #[.pointer (some ⟨B,0,none⟩),.int .u32 x.toNat,.string s] w fun e w'=>e=.returned (.int .u32 (reg x (s.data.toList.take 4)).toNat)∧Drawn w w':=by
 have ew:=word_int x (s[0]'(by omega)) (s[1]'(by omega)) (s[2]'(by omega)) (s[3]'(by omega))
 have HR:Hid (reg x (s.data.toList.take 4)=_):=(congrArg (reg x) (take4 s h4)).trans (four_eq x (s[0]'(by omega)).toBitVec (s[1]'(by omega)).toBitVec (s[2]'(by omega)).toBitVec (s[3]'(by omega)).toBitVec)
 generalize x ^^^ word4 (s[0]'(by omega)).toBitVec (s[1]'(by omega)).toBitVec (s[2]'(by omega)).toBitVec (s[3]'(by omega)).toBitVec=y at ew HR
 have hx:=bv_lt x
 have hy:=bv_lt y
 have i3:=and255 y
 have s2:(y.toNat:Int) / (256:Int)=_:=shr_int y 8
 have s1:(y.toNat:Int) / (65536:Int)=_:=shr_int y 16
 have s0:(y.toNat:Int) / (16777216:Int)=_:=shr_int y 24
 have i2:bits .and .u32 ((y.toNat:Int) / (256:Int)) 255=(((y >>> 8).setWidth 8).toNat:Int):=by rw [s2]; exact and255 (y >>> 8)
 have i1:bits .and .u32 ((y.toNat:Int) / (65536:Int)) 255=(((y >>> 16).setWidth 8).toNat:Int):=by rw [s1]; exact and255 (y >>> 16)
 have i0:(y.toNat:Int) / (16777216:Int)=(((y >>> 24).setWidth 8).toNat:Int):=by rw [s0]; exact top8 y
 clear s0 s1 s2
 have c3:=hT.at 3 (by omega) (y.setWidth 8)
 have c2:=hT.at 2 (by omega) ((y >>> 8).setWidth 8)
 have c1:=hT.at 1 (by omega) ((y >>> 16).setWidth 8)
 have c0:=hT.at 0 (by omega) ((y >>> 24).setWidth 8)
 generalize y.setWidth 8=a3 at *
 generalize (y >>> 8).setWidth 8=a2 at *
 generalize (y >>> 16).setWidth 8=a1 at *
 generalize (y >>> 24).setWidth 8=a0 at *
 simp only [Nat.reduceMul,Nat.zero_add] at c0 c1 c2 c3
 have b3:(a3.toNat:Int) < 256:=by have:=a3.isLt; omega
 have b2:(a2.toNat:Int) < 256:=by have:=a2.isLt; omega
 have b1:(a1.toNat:Int) < 256:=by have:=a1.isLt; omega
 have b0:(a0.toNat:Int) < 256:=by have:=a0.isLt; omega
 have h0:0 < s.size:=by omega
 have h1:(1:Int) < (s.size:Int):=by omega
 have h2:(2:Int) < (s.size:Int):=by omega
 have h3:(3:Int) < (s.size:Int):=by omega
 have HT:=Lib.hid hT; clear hT
 go_enter Tryz.func204,Tryz.ntmps204
 go_wp2_with fail
 go_quiet (fail)
 go_wp2_with fail
 go_quiet (fail)
 go_wp2_with fail
 go_ret
 exact ⟨ret_int (by rw [HR.out,xor_u32,xor_u32,xor_u32]),_,World.drewN_drewN ..⟩
def noughts:Array Value:=Array.replicate 1024 (.int .u32 0)
theorem noughts_at (i:Nat) (h:i < 1024):noughts[i]?=some (.int .u32 0):=by
 unfold noughts; rw [Array.getElem?_replicate]; simp [h]
theorem build_table (w:World):(zeroValue 253).run Tryz.prog w=.ok (.agg noughts) w:=by kernel_rfl
def TE (i:Nat):Int:=((tab (i / 256) (BitVec.ofNat 8 i)).toNat:Int)
theorem first_byte (k:Nat) (h:k < 256) (w:World) :
 Calls Tryz.prog 154 #[.int .u32 (k:Int)] w fun e w'=>e=.returned (.int .u32 (TE k))∧w=w':=by
 have h1:=first_any (BitVec.ofNat 32 k) w
 rw [BitVec.toNat_ofNat,Nat.mod_eq_of_lt (by omega)] at h1
 have h2:steps 8 (BitVec.ofNat 32 k)=tab (k / 256) (BitVec.ofNat 8 k):=by
  rw [Nat.div_eq_of_lt h]
  unfold tab ext
  congr 1
  apply BitVec.eq_of_toNat_eq
  simp; omega
 rw [h2] at h1
 exact h1
structure Laid (B n:Nat) (W w:World):Prop where
 below:Below W.heap.size W w
 old:W.heap.size≤B
 size:B < w.heap.size
 there:∀ i,i < 1024→∃ v,w.cell? ⟨B,i,none⟩=some v
 free:∀ i,w.frozen? ⟨B,i,none⟩=false
 has:∀ i,i < n→w.cell? ⟨B,i,none⟩=some (.int .u32 (TE i))
theorem Laid.drew {B n:Nat} {W w:World} (h:Laid B n W w) (m:Nat):Laid B n W (w.drewN m) :=
 ⟨h.below.trans (Drawn.below (⟨m,rfl⟩:Drawn w (w.drewN m)) _),h.old,h.size,h.there,h.free,h.has⟩
theorem Laid.set {B n:Nat} {W w:World} (h:Laid B n W w) (hn:n < 1024):Laid B (n+1) W (w.setCell ⟨B,n,none⟩ (.int .u32 (TE n))):=by
 obtain ⟨v,hv⟩:=h.there n hn
 have key:∀ i,(w.setCell ⟨B,n,none⟩ (.int .u32 (TE n))).cell? ⟨B,i,none⟩=if i=n then some (.int .u32 (TE n)) else w.cell? ⟨B,i,none⟩:=by
  intro i
  by_cases e:i=n
  · subst e; rw [if_pos rfl]; exact World.cell?_setCell_same _ _ _ hv
  · rw [if_neg e]; exact World.cell?_setCell_other _ _ _ _ (fun h=>e (by simpa using h.symm))
 refine ⟨h.below.setCell (by have:=h.old; simpa using this) _,h.old,by simpa using h.size,fun i hi=>?_,fun i=>?_,fun i hi=>?_⟩
 · rw [key]; split
   · exact ⟨_,rfl⟩
   · exact h.there i hi
 · rw [World.frozen?_setCell]; exact h.free i
 · rw [key]; split
   · rename_i e; rw [e]
   · exact h.has i (by omega)
theorem Laid.tabs {B:Nat} {W w:World} (h:Laid B 1024 W w):Tabs w B:=by
 intro k j hk hj
 have:=h.has (256 * k+j) (by omega)
 rw [this]; unfold TE
 rw [show (256 * k+j) / 256=k by omega]
 rw [show BitVec.ofNat 8 (256 * k+j)=BitVec.ofNat 8 j from by apply BitVec.eq_of_toNat_eq; rw [BitVec.toNat_ofNat,BitVec.toNat_ofNat]; omega]
theorem TE_next (k b:Nat) (hk:1≤k) (hb:b < 256) :
 ∃ x:BitVec 32,TE ((k - 1) * 256+b)=(x.toNat:Int)∧bits .xor .u32 (TE (x.setWidth 8).toNat) ((x.toNat:Int) / (256:Int))=TE (256 * k+b):=by
 obtain ⟨j,rfl⟩:∃ j,k=j+1:=⟨k - 1,by omega⟩
 refine ⟨tab j (BitVec.ofNat 8 b),?_,?_⟩
 · unfold TE
   rw [show (j+1 - 1) * 256+b=256 * j+b by omega,show (256 * j+b) / 256=j by omega,show BitVec.ofNat 8 (256 * j+b)=BitVec.ofNat 8 b from by apply BitVec.eq_of_toNat_eq; rw [BitVec.toNat_ofNat,BitVec.toNat_ofNat]; omega]
 ·
  unfold TE
  rw [show (256 * (j+1)+b) / 256=j+1 by omega,show BitVec.ofNat 8 (256 * (j+1)+b)=BitVec.ofNat 8 b from by apply BitVec.eq_of_toNat_eq; rw [BitVec.toNat_ofNat,BitVec.toNat_ofNat]; omega,tab_succ,shr8]
  have h8:((tab j (BitVec.ofNat 8 b)).setWidth 8).toNat < 256:=((tab j (BitVec.ofNat 8 b)).setWidth 8).isLt
  rw [Nat.div_eq_of_lt h8,BitVec.ofNat_toNat,BitVec.setWidth_eq,xor_u32]
theorem new_any (W:World) :
 Calls Tryz.prog 91 #[] W fun e w'=>∃ B,e=.returned (.pointer (some ⟨B,0,none⟩))∧Laid B 1024 W w':=by
 have hb:=build_table
 go_enter Tryz.func91,Tryz.ntmps91
 go_wp2_with fail
 clear hb
 go_loopw [8] (fun i wr=>∃ k:Nat,k≤256∧i=.int .i64 k∧Laid W.heap.size k W wr) (fun i _=>256 - (intOf i).toNat)
 case atStart =>
  refine ⟨0,by omega,rfl,?_⟩
  refine ⟨(Below.refl _ _).alloc (Nat.le_refl _) _,Nat.le_refl _,by simp,fun i hi=>⟨.int .u32 0,?_⟩,fun i=>?_,fun i hi=>by omega⟩
  · rw [World.cell?_alloc_new]; exact noughts_at i hi
  · simp [go_sem]
 case round =>
  obtain ⟨k,hk,rfl,hl⟩:=hrel
  by_cases hlt:k < 256
  ·
   obtain ⟨v,hv⟩:=hl.there k (by omega)
   have hf:=hl.free k
   have HL:=Lib.hid hl; clear hl
   go_wp2_with fail
   have hwr:IntKind.u32.wrap (k:Int)=(k:Int):=by rw [IntKind.wrap_u32']; omega
   go_region_with (go_at_call 154; refine (first_byte k (by omega) _).mono ?_; rintro e w' ⟨rfl,rfl⟩)
   go_wp2_with fail
   go_roundw
   case rel=>exact ⟨k+1,by omega,by go_num,(HL.out.set (by omega)).drew 1⟩
   case measure=>simp [intOf]; omega
  ·
   have ek:k=256:=by omega
   subst ek
   go_wp2_with fail
   go_loopw [3] (fun i wr=>∃ k:Nat,1≤k∧k≤4∧i=.int .i64 k∧Laid W.heap.size (256 * k) W wr) (fun i _=>4 - (intOf i).toNat)
   case atStart=>exact ⟨1,by omega,by omega,rfl,hl⟩
   case round =>
    clear hl
    obtain ⟨k,hk1,hk2,rfl,hl⟩:=hrel
    by_cases hlt:k < 4
    ·
     have HL:=Lib.hid hl; clear hl
     go_wp2_with fail
     obtain ⟨wo,rfl⟩:∃ wo:World,wo=wr:=⟨_,rfl⟩
     go_loopw [25] (fun i wr=>∃ b:Nat,b≤256∧i=.int .i64 b∧Laid W.heap.size (256 * k+b) W wr) (fun i _=>256 - (intOf i).toNat)
     case atStart=>exact ⟨0,by omega,rfl,HL.out⟩
     case round =>
      clear HL
      obtain ⟨b,hb,rfl,hl⟩:=hrel
      by_cases hb2:b < 256
      ·
       obtain ⟨x,hx,hx2⟩:=TE_next k b hk1 hb2
       have hc:=hl.has ((k - 1) * 256+b) (by omega)
       rw [hx] at hc
       have h8:(x.setWidth 8).toNat < 256:=(x.setWidth 8).isLt
       have hc0:=hl.has (x.setWidth 8).toNat (by omega)
       have ha:=and255 x
       have hxb:=bv_lt x
       generalize (x.setWidth 8).toNat=i at *
       obtain ⟨v,hv⟩:=hl.there (k * 256+b) (by omega)
       have hf:=hl.free (k * 256+b)
       have HL:=Lib.hid hl; clear hl
       have HX2:=Lib.hid hx2; clear hx2
       have HX:=Lib.hid hx; clear hx
       go_wp2_with fail
       go_region
       go_wp2_with fail
       go_roundw
       case rel => 
        refine ⟨b+1,by omega,by go_num,?_⟩
        have:=(HL.out.set (by omega)).drew 1
        rw [← HX2.out,show 256 * k+b=k * 256+b by omega] at this
        rw [show 256 * k+(b+1)=k * 256+b+1 by omega]
        exact this
       case measure=>simp [intOf]; omega
      · go_wp2_with fail
        go_roundw
        case rel=>exact ⟨k+1,by omega,by omega,by go_num,by rw [show 256 * (k+1)=256 * k+b by omega]; exact hl⟩
        case measure=>simp [intOf]; omega
    · go_wp2_with fail
      go_ret
      exact ⟨_,rfl,by rw [show 1024=256 * k by omega]; exact hl⟩
def flat (ss:List ByteArray):List UInt8:=(ss.map fun s=>s.data.toList).flatten
theorem drop4 (t:ByteArray):(t.extract 4 t.size).data.toList=t.data.toList.drop 4:=by
 exact Lib.extract_to_end t 4
theorem reg_four (x:BitVec 32) (t:ByteArray):reg (reg x (t.data.toList.take 4)) (t.extract 4 t.size).data.toList=reg x t.data.toList:=by
 rw [drop4,← reg_append,List.take_append_drop]
theorem reg_take (x:BitVec 32) (t:ByteArray) (i:Nat) (h:i < t.size):upd (reg x (t.data.toList.take i)) (t[i]).toBitVec=reg x (t.data.toList.take (i+1)):=by
 rw [List.take_succ_eq_append_getElem (by simpa using h),reg_append,reg_cons,reg_nil]; rfl
theorem flat_take (ss:List ByteArray) (k:Nat) (h:k < ss.length):flat (ss.take (k+1))=flat (ss.take k)++ss[k].data.toList:=by
 unfold flat; rw [List.take_succ_eq_append_getElem h,List.map_append,List.flatten_append]; simp
theorem Tabs.drawn {w u:World} {B:Nat} (h:Tabs w B) (hd:Drawn w u):Tabs u B:=by obtain ⟨n,rfl⟩:=hd; exact h
theorem tsum_some (B:Nat) (b off cap:Nat) (ss:List ByteArray) (hn:ss.length≤maxLen) (hs:∀ i (h:i < ss.length),ss[i].size≤maxLen) (W:World)
 (hcell:∀ i (h:i < ss.length),W.cell? ⟨b,off+i,none⟩=some (.string ss[i])) (hT:Tabs W B) :
 Calls Tryz.prog 156 #[.pointer (some ⟨B,0,none⟩),.slice (some ⟨b,off,none⟩) ss.length cap] W fun e w'=>e=.returned (.int .i64 (sum (flat ss)).toNat)∧Drawn W w':=by
 unfold maxLen at hn hs
 have HT:=Lib.hid hT; clear hT
 have HC:=Lib.hid hcell; clear hcell
 have HS:=Lib.hid hs; clear hs
 go_enter Tryz.func156,Tryz.ntmps156
 go_wp2_with fail
 go_loopw [5,13] (fun x i wr=>∃ k:Nat,k≤ss.length∧i=.int .i64 k∧x=.int .u32 (reg (BitVec.allOnes 32) (flat (ss.take k))).toNat∧Drawn W wr) (fun _ i _=>ss.length - (intOf i).toNat)
 case atStart=>exact ⟨0,by omega,rfl,rfl,Drawn.refl _⟩
 case round =>
  obtain ⟨k,hk,rfl,rfl,hw⟩:=hrel
  generalize hX:reg (BitVec.allOnes 32) (flat (ss.take k))=X
  have HX:=Lib.hid hX; clear hX
  by_cases hlt:k < ss.length
  ·
   have hc:=HC.out k hlt
   rw [← hw.cell] at hc
   have hz:=HS.out k hlt
   generalize hsk:ss[k]=s at *
   have HSK:=Lib.hid hsk; clear hsk
   go_wp2_with fail
   obtain ⟨wo,rfl⟩:∃ wo:World,wo=wr:=⟨_,rfl⟩
   go_loopw [5,7] (fun x t wr=>∃ (q:ByteArray) (y:BitVec 32),q.size≤s.size∧t=.string q∧x=.int .u32 y.toNat∧Drawn W wr∧Hid (reg X s.data.toList=reg y q.data.toList)) (fun _ t _=>match t with | .string q=>q.size | _=>0)
   case atStart=>exact ⟨s,X,Nat.le_refl _,rfl,rfl,hw,rfl⟩
   case round =>
    clear hc hw
    obtain ⟨q,y,hq,rfl,rfl,hw,HR⟩:=hrel
    by_cases h4:4≤q.size
    · go_wp2_with (go_at_call 204; refine (four_any B y q h4 _ (HT.out.drawn hw)).mono ?_; rintro e w' ⟨rfl,hw'⟩)
      go_roundw
      case rel => 
       exact ⟨q.extract 4 q.size,_,by simp; omega,rfl,rfl,hw.trans hw',HR.out.trans (reg_four y q).symm⟩
      case measure=>simp; omega
    ·
     go_wp2_with fail
     obtain ⟨wo,rfl⟩:∃ wo:World,wo=wr:=⟨_,rfl⟩
     go_loopw [5,30] (fun x i wr=>∃ (k:Nat),k≤q.size∧i=.int .i64 k∧x=.int .u32 (reg y (q.data.toList.take k)).toNat∧Drawn W wr) (fun _ i _=>q.size - (intOf i).toNat)
     case atStart=>exact ⟨0,by omega,rfl,rfl,hw⟩
     case round =>
      clear hw
      obtain ⟨j,hj,rfl,rfl,hw⟩:=hrel
      by_cases hj2:j < q.size
      ·
       generalize hY:reg y (q.data.toList.take j)=Y
       have HY:=Lib.hid hY; clear hY
       go_wp2_with fail
       go_quiet ((go_at_call 205; exact quiet_same (one_any B Y q[j] _ (HT.out.drawn (hw.drewN _)))))
       go_wp2_with fail
       go_roundw
       case rel =>
        exact ⟨j+1,by omega,by go_num,by rw [← reg_take y q j hj2,HY.out],hw.drewN _⟩
       case measure=>simp [intOf]; omega
      · go_wp2_with fail
        go_roundw
        case rel =>
         refine ⟨k+1,by omega,by go_num,?_,hw⟩
         have h1:j=q.size:=by omega
         have h2:q.data.toList.take j=q.data.toList:=List.take_of_length_le (by rw [h1]; exact Nat.le_refl _)
         rw [h2,← HR.out,flat_take ss k hlt,reg_append,HX.out,HSK.out]
        case measure=>simp [intOf]; omega
  ·
   have ek:k=ss.length:=by omega
   have HEK:=Lib.hid ek; clear ek
   go_wp2_with fail
   go_ret
   refine ⟨ret_int ?_,hw⟩
   have hu:bits .xor .u32 IntKind.u32.max (X.toNat:Int)=((~~~X).toNat:Int):=by
    rw [show IntKind.u32.max=((BitVec.allOnes 32).toNat:Int) from by decide,xor_u32,BitVec.allOnes_xor]
   have:=(~~~X).isLt
   rw [hu]
   unfold sum
   rw [← HX.out,HEK.out,List.take_of_length_le (Nat.le_refl _)] at *
   exact IntWalk.wrap64_in _ (by omega)
theorem word_lits (n:Nat) (hn:n < 4294967296):∃ c0 c1 c2 c3:UInt8,Hid (be4 n=[c0,c1,c2,c3]) ∧
 (n:Int) / 16777216=(c0.toNat:Int)∧(n:Int) / 65536 % 256=(c1.toNat:Int)∧(n:Int) / 256 % 256=(c2.toNat:Int)∧(n:Int) % 256=(c3.toNat:Int):=by
 refine ⟨_,_,_,_,rfl,?_,?_,?_,?_⟩ <;> simp only [UInt8.toNat_ofNat'] <;> omega
theorem word_at (n:Nat) (hn:n < 4294967296) (c0 c1 c2 c3:UInt8) (hb:Hid (be4 n=[c0,c1,c2,c3])) (w:World) :
 Calls Tryz.prog 155 #[.int .i64 (n:Int)] w fun e w'=>e=.returned (.agg #[.int .u8 c0.toNat,.int .u8 c1.toNat,.int .u8 c2.toNat,.int .u8 c3.toNat])∧Below w.heap.size w w':=by
 obtain ⟨d0,d1,d2,d3,hb',e0,e1,e2,e3⟩:=word_lits n hn
 obtain ⟨rfl,rfl,rfl,rfl⟩:c0=d0∧c1=d1∧c2=d2∧c3=d3:=by have:=hb.out.symm.trans hb'.out; simpa using this
 clear hb hb'
 go_enter Tryz.func155,Tryz.ntmps155
 go_wp2_with fail
 exact bodyPost_ret (v:=.agg #[.int .u8 c0.toNat,.int .u8 c1.toNat,.int .u8 c2.toNat,.int .u8 c3.toNat]) (by simp [results,Tryz.results155,go_sem]) rfl
  ⟨rfl,(Below.refl _ _).alloc (Nat.le_refl _) _⟩
theorem word_any (n:Nat) (hn:n < 4294967296) (w:World) :
 Calls Tryz.prog 155 #[.int .i64 (n:Int)] w fun e w'=>∃ c0 c1 c2 c3:UInt8,Hid (be4 n=[c0,c1,c2,c3]) ∧
  e=.returned (.agg #[.int .u8 c0.toNat,.int .u8 c1.toNat,.int .u8 c2.toNat,.int .u8 c3.toNat])∧Below w.heap.size w w':=by
 obtain ⟨c0,c1,c2,c3,hb,_⟩:=word_lits n hn
 exact (word_at n hn c0 c1 c2 c3 hb w).mono fun e w' h=>⟨c0,c1,c2,c3,hb,h⟩
theorem seal_any (B:Nat) (s:ByteArray) (hs:s.size≤140737488355328) (w:World) (hB:B < w.heap.size) (hT:Tabs w B) :
 Calls Tryz.prog 92 #[.pointer (some ⟨B,0,none⟩),.string s] w fun e w'=>e=.returned (.string ⟨(sealed s.data.toList).toArray⟩)∧Below w.heap.size w w':=by
 have HT:=Lib.hid hT; clear hT
 go_enter Tryz.func92,Tryz.ntmps92
 go_wp2_with fail
 have hb0:Below w.heap.size w (w.alloc (.cells #[.string s] 9)):=(Below.refl _ _).alloc (Nat.le_refl _) _
 have hT1:Tabs (w.alloc (.cells #[.string s] 9)) B:=fun k j hk hj=>by rw [hb0.cell (by simpa using hB)]; exact HT.out k j hk hj
 refine (tsum_some B w.heap.size 0 1 [s] (by simp [maxLen]) (by simp [maxLen]; omega) _ (fun i hi=>?_) hT1).mono ?_
 · have:i=0:=by simpa using hi
   subst this; simp [go_sem]
 rintro e w1 ⟨rfl,hd⟩
 have hn:=(sum (flat [s])).isLt
 have hb1:Below w.heap.size w w1:=hb0.trans (hd.below _)
 have HS:Hid ((sum (flat [s])).toNat=(sum s.data.toList).toNat):=by unfold flat; simp [Hid]
 generalize (sum (flat [s])).toNat=n at *
 have HB1:=Lib.hid hb1
 clear hb1 hb0 hT1 hd
 go_wp2_with (go_at_call 155; refine (word_any n hn _).mono ?_; rintro e w2 ⟨c0,c1,c2,c3,hb,rfl,hb2⟩)
 rw [bytes_string (P:=Tryz.prog) _ 218 5 9 Tryz.underlying218 Tryz.underlying5 Tryz.underlying9 w2.heap.size 0 4 [c0,c1,c2,c3] (fun i hi=>by
  rw [World.cell?_alloc_new]; match i,hi with | 0,_=>rfl | 1,_=>rfl | 2,_=>rfl | 3,_=>rfl) 4 rfl]
 go_wp2_with fail
 go_ret
 refine ⟨ret_str ?_,(HB1.out.trans (hb2.mono HB1.out.size)).alloc (Nat.le_trans HB1.out.size hb2.size) _⟩
 unfold sealed
 rw [← HS.out,hb.out]
 apply ByteArray.ext
 apply Array.ext'
 simp
def Ext (w w':World):Prop:=Below w.heap.size w w'
theorem Ext.refl (w:World):Ext w w:=Below.refl _ _
theorem Ext.trans {u v w:World} (h:Ext u v) (k:Ext v w):Ext u w:=Below.trans h (Below.mono k h.size)
def Four (b:Nat) (c0 c1 c2 c3:UInt8) (w:World):Prop:=b < w.heap.size∧w.cell? ⟨b,0,none⟩=some (.int .u8 c0.toNat)∧w.cell? ⟨b,1,none⟩=some (.int .u8 c1.toNat)∧w.cell? ⟨b,2,none⟩=some (.int .u8 c2.toNat)∧w.cell? ⟨b,3,none⟩=some (.int .u8 c3.toNat)
theorem eq4 (x0 x1 x2 x3 y0 y1 y2 y3:Int) (w:World):(Op.equalIn 10000 255 (.agg #[.int .u8 x0,.int .u8 x1,.int .u8 x2,.int .u8 x3]) (.agg #[.int .u8 y0,.int .u8 y1,.int .u8 y2,.int .u8 y3])).run Tryz.prog w
 = .ok (x0 == y0 && x1 == y1 && x2 == y2 && x3 == y3) w:=by
 show (Op.equalIn (9999+1) _ _ _).run _ _=_
 unfold Op.equalIn
 have hz:(sizeOf 5).run Tryz.prog w=.ok 1 w:=by kernel_rfl
 simp only [go_sem,Sem.run_bind,run_underlying Tryz.underlying255,hz,Result.andThen,Std.Legacy.Range.forIn_eq_forIn_range',Std.Legacy.Range.size]
 simp [List.range',go_sem,run_equalIn_int _ 9998 _ _ _ _ _ Tryz.underlying5]
 by_cases h0:x0=y0 <;> by_cases h1:x1=y1 <;> by_cases h2:x2=y2 <;> by_cases h3:x3=y3 <;> simp [h0,h1,h2,h3]
theorem Tabs.ext {w w':World} {B:Nat} (h:Tabs w B) (hB:B < w.heap.size) (he:Ext w w'):Tabs w' B:=fun k j hk hj=>by rw [Below.cell he (by simpa using hB)]; exact h k j hk hj
theorem open_test (s:ByteArray) (hs4:4≤s.size) (n:Nat) (c0 c1 c2 c3:UInt8) (hb:be4 n=[c0,c1,c2,c3]) :
 ((s[0].toNat:Int) == (c0.toNat:Int) && (s[1].toNat:Int) == (c1.toNat:Int) && (s[2].toNat:Int) == (c2.toNat:Int) && (s[3].toNat:Int) == (c3.toNat:Int))=decide (s.data.toList=be4 n++s.data.toList.drop 4):=by
 have h:s.data.toList=[s[0],s[1],s[2],s[3]]++s.data.toList.drop 4:=by
  conv=>lhs; rw [← List.take_append_drop 4 s.data.toList]
  rw [take4 s hs4]
 rw [hb]
 conv=>rhs; arg 1; lhs; rw [h]
 rw [Bool.eq_iff_iff]
 simp [Int.ofNat_inj,UInt8.toNat_inj,and_assoc]
theorem Four.ext {b:Nat} {c0 c1 c2 c3:UInt8} {w w':World} (h:Four b c0 c1 c2 c3 w) (hR:Below w.heap.size w w'):Four b c0 c1 c2 c3 w':=by
 obtain ⟨h0,h1,h2,h3,h4⟩:=h
 exact ⟨Nat.lt_of_lt_of_le h0 hR.size,by rw [hR.cell h0]; exact h1,by rw [hR.cell h0]; exact h2,by rw [hR.cell h0]; exact h3,by rw [hR.cell h0]; exact h4⟩
theorem open_long (B:Nat) (s:ByteArray) (hs4:4≤s.size) (hs:s.size≤140737488355328) (w:World) (hB:B < w.heap.size) (hT:Tabs w B) :
 Calls Tryz.prog 178 #[.pointer (some ⟨B,0,none⟩),.string s] w fun e w' => 
  e=.returned (if s.data.toList=sealed (s.data.toList.drop 4) then .tuple #[.string (s.extract 4 s.size),.bool true] else .tuple #[.string ⟨#[]⟩,.bool false])∧Below w.heap.size w w':=by
 have HT:=Lib.hid hT; clear hT
 have hn:=(sum (s.data.toList.drop 4)).isLt
 obtain ⟨c0,c1,c2,c3,hb,-⟩:=word_lits (sum (s.data.toList.drop 4)).toNat hn
 generalize hN:(sum (s.data.toList.drop 4)).toNat=n at *
 have HN:=Lib.hid hN; clear hN
 go_enter Tryz.func178,Tryz.ntmps178
 go_wp2_with fail
 have hd:decide ((s.size:Int) < 4)=false:=by simp; omega
 have hs4i:(4:Int)≤(s.size:Int):=by omega
 refine Grow.wp_region_g 21 [none,none,none,none,none,none,none,none,none,none,
  some (.inr fun v w=>∃ b c,v=.slice (some ⟨b,0,none⟩) 4 c∧Four b s[0] s[1] s[2] s[3] w),
  some (.inr fun v w=>∃ b,v=.pointer (some ⟨b,0,none⟩)∧Four b s[0] s[1] s[2] s[3] w),
  some (.inl (.agg #[.int .u8 s[0].toNat,.int .u8 s[1].toNat,.int .u8 s[2].toNat,.int .u8 s[3].toNat])),
  none,none,none,
  some (.inr fun v w=>∃ b,v=.slice (some ⟨b,0,none⟩) 1 1∧b < w.heap.size∧w.cell? ⟨b,0,none⟩=some (.string (s.extract 4 s.size))),
  some (.inl (.int .i64 (n:Int))),
  some (.inl (.agg #[.int .u8 c0.toNat,.int .u8 c1.toNat,.int .u8 c2.toNat,.int .u8 c3.toNat])),
  none,none] Ext (by kernel_rfl) (by kernel_rfl) (by kernel_rfl) Ext.refl (fun _ _ _=>Ext.trans) ?_ ?_
 ·
  intro K hK Y hY v w w' hR h
  have hR:Below w.heap.size w w':=hR
  simp only [List.mem_cons,List.not_mem_nil,or_false] at hK
  rcases hK with rfl | rfl | rfl | rfl | rfl | rfl | rfl | rfl | rfl | rfl | rfl | rfl | rfl | rfl | rfl | rfl | rfl | rfl | rfl | rfl | rfl <;> simp only [reduceCtorEq,Option.some.injEq,Sum.inr.injEq] at hY
  · subst hY; obtain ⟨b,c,rfl,hf⟩:=h; exact ⟨b,c,rfl,hf.ext hR⟩
  · subst hY; obtain ⟨b,rfl,hf⟩:=h; exact ⟨b,rfl,hf.ext hR⟩
  · subst hY; obtain ⟨b,rfl,hb,hc⟩:=h; exact ⟨b,rfl,Nat.lt_of_lt_of_le hb hR.size,by rw [hR.cell hb]; exact hc⟩
 simp only [List.take_succ_cons,List.take_zero,List.drop_succ_cons,List.drop_zero]
 iterate 10 (
  refine Grow.g_det rfl ?_
  apply Exists.intro
  refine ⟨fun w hw hF=>?_,?_⟩
  · clear hF
    go_simp
    exact ⟨rfl,Ext.refl _⟩
  go_frame)
 refine Grow.g_new rfl (fun w2 hw hF=>?_) (fun v10=>?_)
 ·
  clear hF
  obtain ⟨c,w3,hrun,hb3,hz3,_,hcell,_⟩:=string_bytes (P:=Tryz.prog) w2 9 218 5 (s.extract 0 4) Tryz.underlying9 Tryz.underlying218 Tryz.underlying5
  have hsz:(s.extract 0 4).size=4:=by simp; omega
  rw [hsz] at hrun
  have HC:=Lib.hid hcell; clear hcell
  have HSZ:=Lib.hid hsz; clear hsz
  go_simp
  refine ⟨⟨by omega,?_,?_,?_,?_⟩,hb3⟩
  all_goals (rw [HC.out _ (by rw [HSZ.out]; omega)]; simp [ByteArray.getElem_extract])
 simp only [Act.put,List.setIfInBounds_toArray,List.set_cons_zero,List.set_cons_succ,Grow.addF]
 refine Grow.g_new rfl (fun w2 hw hF=>?_) (fun v11=>?_)
 ·
  obtain ⟨b,c,rfl,hfour⟩:=hF _ (List.Mem.head _) (by simp [Oper.looksAt,Op.operands,Call.operands])
  clear hF
  have harr:∀ w,(Instr.arrayAt 255 (.slice (some ⟨b,0,none⟩) 4 c)).run Tryz.prog w=.ok (.pointer (some ⟨b,0,none⟩)) w:=fun w=>by kernel_rfl
  go_simp
  exact Ext.refl _
 simp only [Act.put,List.setIfInBounds_toArray,List.set_cons_zero,List.set_cons_succ,Grow.addF]
 refine Grow.g_con rfl (fun w2 hw hF=>?_) ?_
 ·
  obtain ⟨b,rfl,hfour⟩:=hF _ (List.Mem.head _) (by simp [Oper.looksAt,Op.operands,Call.operands])
  clear hF
  obtain ⟨h0,h1,h2,h3,h4⟩:=hfour
  go_simp
  exact Ext.refl _
 simp only [Act.put,List.setIfInBounds_toArray,List.set_cons_zero,List.set_cons_succ,Grow.addF]
 iterate 3 (
  refine Grow.g_det rfl ?_
  apply Exists.intro
  refine ⟨fun w hw hF=>?_,?_⟩
  · clear hF
    go_simp
    exact ⟨rfl,Ext.refl _⟩
  go_frame)
 refine Grow.g_new rfl (fun w2 hw hF=>?_) (fun v16=>?_)
 · clear hF
   go_simp
   exact (Below.refl _ _).alloc (Nat.le_refl _) _
 simp only [Act.put,List.setIfInBounds_toArray,List.set_cons_zero,List.set_cons_succ,Grow.addF]
 refine Grow.g_con rfl (fun w2 hw hF=>?_) ?_
 ·
  obtain ⟨b,rfl,hbz,hbc⟩:=hF _ (List.Mem.head _) (by simp [Oper.looksAt,Op.operands,Call.operands])
  clear hF
  go_simp
  refine (tsum_some B b 0 1 [s.extract 4 s.size] (by simp [maxLen]) (by simp [maxLen]; omega) w2 (fun i hi=>?_) (Tabs.ext (w:=w.drew) HT.out (by simpa using hB) hw)).mono ?_
  · have:i=0:=by simpa using hi
    subst this; simpa using hbc
  · rintro e w3 ⟨rfl,hd⟩
    exact ⟨_,rfl,by rw [← HN.out]; unfold flat; rw [List.map_cons,List.map_nil,Lib.extract_to_end]; simp,hd.below _⟩
 go_frame
 refine Grow.g_con rfl (fun w2 hw hF=>?_) ?_
 · clear hF
   go_simp
   exact (word_at n hn c0 c1 c2 c3 hb w2).mono fun e w3 ⟨he,hb3⟩=>⟨_,he,rfl,hb3⟩
 go_frame
 have HQ:=fun w=>eq4 (s[0].toNat:Int) (s[1].toNat:Int) (s[2].toNat:Int) (s[3].toNat:Int) (c0.toNat:Int) (c1.toNat:Int) (c2.toNat:Int) (c3.toNat:Int) w
 rw [open_test s hs4 n c0 c1 c2 c3 hb.out] at HQ
 generalize htst:decide (s.data.toList=be4 n++s.data.toList.drop 4)=tst at HQ
 have HTST:=Lib.hid htst; clear htst
 iterate 2
  refine Grow.g_det rfl ?_
  apply Exists.intro
  refine ⟨fun w hw hF=>?_,?_⟩
  · clear hF
    go_simp
    exact ⟨rfl,Ext.refl _⟩
  go_frame
 refine Grow.g_nil fun w3 hw3 hF=>?_
 clear hF HQ
 refine wpList_nil ?_
 have HW:Hid (Below w.heap.size w w3):=(Below.refl _ _).drew.trans hw3
 clear hw3
 have HFIN:Hid (tst=decide (s.data.toList=sealed (s.data.toList.drop 4))):=by unfold sealed; rw [HN.out]; exact HTST.out.symm
 clear HTST
 clear HN HT hb hd hs4i hn
 cases tst
 ·
  simp only [Bool.not_false]
  repeat go_step
  go_ret2
  refine ⟨?_,HW.out⟩
  rw [if_neg (of_decide_eq_false HFIN.out.symm)]
  rfl
 ·
  simp only [Bool.not_true]
  repeat go_step
  go_ret2
  refine ⟨?_,HW.out⟩
  rw [if_pos (of_decide_eq_true HFIN.out.symm)]
  rfl
end Go.Proofs.YtnoehodmmkioaaaGreatDoor.CrcW
namespace Go.Proofs.YtnoehodmmkioaaaGreatDoor.RecW
open Go.RowKit OctMath RecMath NameMath
theorem tabs_below {w w':World} {B:Nat} (h:CrcW.Tabs w B) (hB:B < w.heap.size) (hb:Below w.heap.size w w'):CrcW.Tabs w' B :=
 fun k j hk hj=>by rw [hb.cell (by simpa using hB)]; exact h k j hk hj
theorem put_any (B:Nat) (m:Msg) (hm:MsgOk m) (a:Option Addr) (c:Nat) (W:World) (hB:B < W.heap.size) (hT:CrcW.Tabs W B) (hS:Strs W a (m.keys.map S)) :
 Calls Tryz.prog 47 #[.pointer (some ⟨B,0,none⟩),.agg (cellsM m a c)] W fun e w'=>e=.returned (.tuple #[.string (S (putL m).1),.int .i64 (putL m).2])∧Below W.heap.size W w':=by
 have HB0:Hid (Below W.heap.size W (W.alloc (.cells (cellsM m a c) 53))):=(Below.refl _ W).alloc (Nat.le_refl _) _
 have HX:Hid (Boxed (W.alloc (.cells (cellsM m a c) 53)) W.heap.size (cellsM m a c)):=Boxed.new W _ _
 have HS0:=Lib.hid (Strs.below hS HB0.out)
 have HT:=Lib.hid hT
 have HBL:=Lib.hid hB
 have HM:=Lib.hid hm
 have HP:Hid (putL m=if rightL m=false then ([],1) else if m.kind=0 then (if m.body.length < 3 then ([],1) else (fillL m.body.length,0)) else (recL m,0)):=rfl
 have hsz:=S_size
 have hbn:m.body.length≤1073741824:=hm.body
 have hcu:(cellsM m a c).size=10:=rfl
 clear hm hS hT hB
 go_enter Tryz.func47,Tryz.ntmps47
 go_upto_region 1 with fail
 generalize W.alloc (.cells (cellsM m a c) 53)=w1 at *
 clear hcu
 obtain ⟨A,hA⟩:∃ A,W.heap.size=A:=⟨_,rfl⟩
 rw [hA] at HX HB0 ⊢ HBL
 obtain ⟨k0,k1,k2,k3,k4,k5,k6,k7,k8,k9⟩:=RecW.ten_cells HX.out
 have HR:=Lib.hid (right_any m HM.out a c w1 HS0.out)
 generalize hrl:rightL m=rl at *
 go_wp2_with fail
 refine HR.out.mono ?_
 rintro e w2 ⟨rfl,hb⟩
 have HB2:=Lib.hid (HB0.out.trans (hb.mono (by have:=HB0.out.size; omega)))
 have HX2:=Lib.hid (HX.out.below hb)
 have HS2:=Lib.hid (Strs.below HS0.out hb)
 clear hb HR k0 k1 k2 k3 k4 k5 k6 k7 k8 k9
 cases rl with
 | false =>
   have HF:Hid (putL m=([],1)):=by show _=_; rw [HP.out,if_pos rfl]
   clear HP
   go_wp2_with fail
   go_ret2
   exact ⟨by rw [HF.out]; rfl,hA ▸ HB2.out⟩
 | true =>
   replace HP:Hid (putL m=if m.kind=0 then (if m.body.length < 3 then ([],1) else (fillL m.body.length,0)) else (recL m,0)):=by show _=_; rw [HP.out,if_neg (by simp)]
   have k0:w2.cell? ⟨A,0,none⟩=some (.int .i64 m.kind):=HX2.out 0 _ rfl
   have k8:w2.cell? ⟨A,8,none⟩=some (.string (S m.body)):=HX2.out 8 _ rfl
   by_cases h0:m.kind=0
   case pos =>
    replace HP:Hid (putL m=if m.body.length < 3 then ([],1) else (fillL m.body.length,0)):=by show _=_; rw [HP.out,if_pos h0]
    have hb1024:m.body.length≤1024:=by
     have h:=hrl
     unfold rightL at h
     split at h
     · cases h
     · simp [h0] at h
       exact h.1.1
    have HFI:=Lib.hid (fill_any (m.body.length:Int) (by omega) (by omega) w2)
    clear hrl
    by_cases h3:m.body.length < 3
    ·
     rw [decide_eq_false (by omega)] at HFI
     have HF:Hid (putL m=([],1)):=by show _=_; rw [HP.out,if_pos h3]
     clear HP
     go_wp2_with fail
     refine HFI.out.mono ?_
     rintro e w3 ⟨rfl,hb⟩
     have HB3:=Lib.hid (HB2.out.trans (hb.mono (by have:=HB2.out.size; omega)))
     clear hb HFI
     go_wp2_with fail
     go_ret2
     exact ⟨by rw [HF.out]; rfl,hA ▸ HB3.out⟩
    ·
     rw [decide_eq_true (by omega)] at HFI
     have HF:Hid (putL m=(fillL m.body.length,0)):=by show _=_; rw [HP.out,if_neg h3]
     clear HP
     go_wp2_with fail
     refine HFI.out.mono ?_
     rintro e w3 ⟨rfl,hb⟩
     have HB3:=Lib.hid (HB2.out.trans (hb.mono (by have:=HB2.out.size; omega)))
     clear hb HFI
     go_wp2_with fail
     go_ret2
     exact ⟨by rw [HF.out]; rfl,hA ▸ HB3.out⟩
   case neg =>
    have HF:Hid (putL m=(recL m,0)):=by show _=_; rw [HP.out,if_neg h0]
    have k1:w2.cell? ⟨A,1,none⟩=some (.int .i64 m.queue):=HX2.out 1 _ rfl
    have k2:w2.cell? ⟨A,2,none⟩=some (.int .i64 m.due):=HX2.out 2 _ rfl
    have k3:w2.cell? ⟨A,3,none⟩=some (.int .i64 m.retry):=HX2.out 3 _ rfl
    have k4:w2.cell? ⟨A,4,none⟩=some (.int .i64 m.ref):=HX2.out 4 _ rfl
    have k5:w2.cell? ⟨A,5,none⟩=some (.int .i64 m.born):=HX2.out 5 _ rfl
    have k6:w2.cell? ⟨A,6,none⟩=some (.string (S m.topic)):=HX2.out 6 _ rfl
    have k7:w2.cell? ⟨A,7,none⟩=some (.string (S m.tag)):=HX2.out 7 _ rfl
    have k9:w2.cell? ⟨A,9,none⟩=some (.slice a m.keys.length c):=HX2.out 9 _ rfl
    have hil:=inside_len hrl h0
    have HI:=Lib.hid (inside_any m hrl h0 a c w2 HS2.out)
    have HSE:=Lib.hid (fun (w':World) (hb:Below A W w')=>CrcW.seal_any B (S (insideL m)) (by rw [S_size]; omega) w' (by have:=hb.size; have:=HBL.out; omega) (tabs_below HT.out (by rw [hA]; exact HBL.out) (by rw [hA]; exact hb)))
    have hse:(⟨(CrcMath.sealed (S (insideL m)).data.toList).toArray⟩:ByteArray)=S (CrcMath.sealed (insideL m)):=by rw [S_list]; rfl
    rw [hse] at HSE
    have hsl:(S (CrcMath.sealed (insideL m))).size=4+(insideL m).length:=by rw [S_size,CrcMath.sealed_length]
    have n2:OctW.numsW 2 [(3:Int)+((S (CrcMath.sealed (insideL m))).size:Int)]=(be 2 (3+(CrcMath.sealed (insideL m)).length),0):=by
     have e:(3:Int)+((S (CrcMath.sealed (insideL m))).size:Int)=((3+(CrcMath.sealed (insideL m)).length:Nat):Int):=by rw [S_size]; omega
     have hl:=CrcMath.sealed_length (insideL m)
     rw [e,show (2:Int)=((2:Nat):Int) from rfl,nums_fit 2 _ (by omega) (by omega) (fun x hx=>by rw [List.mem_singleton] at hx; subst hx; exact ⟨by omega,by show _ < ((256 ^ 2:Nat):Int); omega⟩)]
     show ([((3+(CrcMath.sealed (insideL m)).length:Nat):Int)].flatMap fun x=>be 2 x.toNat,0)=_
     rw [List.flatMap_cons,List.flatMap_nil,List.append_nil,Int.toNat_natCast]
    have HN:=Lib.hid (fun (w:World)=>OctW.nums_any 2 (by omega) (by omega) (some ⟨w.heap.size,0,none⟩) 1 [(3:Int)+((S (CrcMath.sealed (insideL m))).size:Int)] (by simp) (fun x hx=>by simp at hx; omega) _ (ints_new w _ 3))
    rw [n2] at HN
    change Hid (∀ w:World,Calls _ _ #[.int .i64 2,.slice (some ⟨w.heap.size,0,none⟩) 1 1] (w.alloc (.cells #[.int .i64 ((3:Int)+((S (CrcMath.sealed (insideL m))).size:Int))] _)) _) at HN
    have HRL:Hid (S [165]++S (be 2 (3+(CrcMath.sealed (insideL m)).length))++S (CrcMath.sealed (insideL m))=S (recL m)):=by
     show _=_
     rw [S_append,S_append]; rfl
    have z2:(S (be 2 (3+(CrcMath.sealed (insideL m)).length))).size=2:=by rw [S_size,be_length]
    generalize S (be 2 (3+(CrcMath.sealed (insideL m)).length))=s2 at *
    generalize S (CrcMath.sealed (insideL m))=se at *
    generalize S (insideL m)=si at *
    generalize (insideL m).length=il at *
    clear hse n2 hrl HP
    rw [hsl] at HN
    go_wp2_with fail
    refine HI.out.mono ?_
    rintro e w3 ⟨rfl,hb⟩
    have HB3:=Lib.hid (HB2.out.trans (hb.mono (by have:=HB2.out.size; omega)))
    clear hb HI k0 k1 k2 k3 k4 k5 k6 k7 k8 k9
    go_wp2_with fail
    refine (HSE.out w3 HB3.out).mono ?_
    rintro e w4 ⟨rfl,hb⟩
    have HB4:=Lib.hid (HB3.out.trans (hb.mono (by have:=HB3.out.size; omega)))
    clear hb HSE
    go_wp2_with fail
    refine (HN.out w4).mono ?_
    rintro e w5 ⟨rfl,hb⟩
    have HB5:=Lib.hid (HB4.out.trans ((((Below.refl w4.heap.size w4).alloc (Nat.le_refl _) _).trans (hb.mono (by rw [World.size_alloc]; omega))).mono (by have:=HB4.out.size; omega)))
    clear hb HN
    go_wp2_with fail
    go_ret2
    exact ⟨by rw [HF.out,← HRL.out]; rfl,hA ▸ HB5.out⟩
end Go.Proofs.YtnoehodmmkioaaaGreatDoor.RecW
namespace Go.Proofs.YtnoehodmmkioaaaGreatDoor.MapG
open Go.RowKit Go.MapKept
variable {P:Program}
structure Keyed (P:Program) (kt:TypeId) (K:Value→Prop):Prop where
 check:∀ k,K k→∀ e w,(Instr.checkKey e 10000 kt k).run P w=.ok () w
 find:∀ k,K k→∀ l:List MapEntry,(∀ x∈l,K x.key)→∀ w,((∀ x∈l,x.key≠k)∧(Instr.findKey kt k l).run P w=.ok none w)∨∃ j e,(Instr.findKey kt k l).run P w=.ok (some (j,e.val)) w∧l[j]?=some e∧e.key=k
 stays:∀ k,K k→∀ w,(Instr.keyThatStays k k).run P w=.ok k w
theorem Keyed.of_isKey {kt:TypeId} {d:TypeDesc} (hd:P.underlying kt=some d):Keyed P kt (IsKey d):=by
 refine ⟨fun k hk e w=>Go.MapKept.run_checkKey hd hk e 9999,fun k hk l hl w=>?_,fun k hk w=>Go.MapKept.run_keyThatStays hk⟩
 rcases findNow_spec hk l 0 hl with ⟨h1,h2⟩ | ⟨j,e,h1,h2,h3⟩
 · exact .inl ⟨h2,Go.MapKept.run_findKey hd h1⟩
 · exact .inr ⟨j,e,by rw [Go.MapKept.run_findKey hd h1,Nat.zero_add],h2,h3⟩
theorem run_asking {kt:TypeId} {K:Value→Prop} (heq:∀ a b,K a→K b→∀ w,∃ r,(Op.equal kt a b).run P w=.ok r w∧(r=true↔a=b)) {k:Value} (hk:K k) (w:World):∀ (l:List MapEntry) (i:Nat),(∀ x∈l,K x.key) →
 ((∀ x∈l,x.key≠k)∧(Instr.findAsking kt k l i).run P w=.ok none w)∨∃ j e,(Instr.findAsking kt k l i).run P w=.ok (some (i+j,e.val)) w∧l[j]?=some e∧e.key=k
 | [],i,_=>.inl ⟨by simp,by simp [Instr.findAsking]⟩
 | e :: es,i,h=>by
   obtain ⟨r,hr,hiff⟩:=heq k e.key hk (h e (.head _)) w
   cases r with
   | true=>exact .inr ⟨0,e,by simp [Instr.findAsking,Sem.run_bind,hr,Result.andThen],rfl,(hiff.1 rfl).symm⟩
   | false =>
     have hne:e.key≠k:=fun q=>by have:=hiff.2 q.symm; cases this
     rcases run_asking heq hk w es (i+1) (fun x hx=>h x (.tail _ hx)) with ⟨h1,h2⟩ | ⟨j,e',h1,h2,h3⟩
     · exact .inl ⟨fun x hx=>by
        cases hx with
        | head=>exact hne
        | tail _ hx=>exact h1 x hx,by simp [Instr.findAsking,Sem.run_bind,hr,Result.andThen,h2]⟩
     · exact .inr ⟨j+1,e',by simp [Instr.findAsking,Sem.run_bind,hr,Result.andThen,h1]; omega,by simpa using h2,h3⟩
theorem Keyed.of_equal {kt:TypeId} {d:TypeDesc} {K:Value→Prop} (hd:P.underlying kt=some d) (hnow:∀ a b,K a→K b→Instr.sameNow d a b=none) (heq:∀ a b,K a→K b→∀ w,∃ r,(Op.equal kt a b).run P w=.ok r w∧(r=true↔a=b))
 (hc:∀ k,K k→∀ e w,(Instr.checkKey e 10000 kt k).run P w=.ok () w) (hs:∀ k,K k→Instr.sameBits 10000 k k=true):Keyed P kt K:=by
 refine ⟨hc,fun k hk l hl w=>?_,fun k hk w=>by simp [Instr.keyThatStays,hs k hk]⟩
 cases l with
 | nil=>exact .inl ⟨by simp,by simp [Instr.findKey,run_underlying hd,Result.andThen,Instr.findNow]⟩
 | cons e es =>
   have hn:Instr.findNow d k (e :: es) 0=none:=by simp [Instr.findNow,hnow k e.key hk (hl e (.head _))]
   have hr:(Instr.findKey kt k (e :: es)).run P w=(Instr.findAsking kt k (e :: es) 0).run P w:=by simp [Instr.findKey,run_underlying hd,Result.andThen,hn]
   rw [hr]
   rcases run_asking heq hk w (e :: es) 0 hl with ⟨h1,h2⟩ | ⟨j,e',h1,h2,h3⟩
   · exact .inl ⟨h1,h2⟩
   · exact .inr ⟨j,e',by rw [h1,Nat.zero_add],h2,h3⟩
def PairsAt (w:World) (b:Nat) (l:List (Value×Value)):Prop:=∃ es c,w.heap[b]?=some (.map es c)∧Stamped es c∧es.toList.map (fun e=>(e.key,e.val))=l
theorem PairsAt.lt {w:World} {b:Nat} {l:List (Value×Value)} (h:PairsAt w b l):b < w.heap.size:=by
 obtain ⟨es,c,h1,_⟩:=h; exact (Array.getElem?_eq_some_iff.1 h1).1
theorem PairsAt.mod {w w':World} {b:Nat} {l:List (Value×Value)} {M:Nat→Prop} (h:PairsAt w b l) (hm:Mod M w w') (hM:¬ M b):PairsAt w' b l:=by
 obtain ⟨es,c,h1,h2,h3⟩:=h
 exact ⟨es,c,(hm.block b (Array.getElem?_eq_some_iff.1 h1).1 hM).trans h1,h2,h3⟩
theorem PairsAt.below {w w':World} {b:Nat} {l:List (Value×Value)} (h:PairsAt w b l) (hb:Below w.heap.size w w'):PairsAt w' b l:=h.mod (M:=fun _=>False) (Mod.of_below hb) (fun h=>h)
theorem PairsAt.new (w:World):PairsAt (w.alloc (.map #[] 0)) w.heap.size []:=⟨#[],0,heap_alloc_new w _,stamped_empty 0,rfl⟩
theorem PairsAt.nodup {w:World} {b:Nat} {l:List (Value×Value)} (h:PairsAt w b l):(l.map (·.1)).Nodup:=by
 obtain ⟨es,c,h1,h2,h3⟩:=h
 rw [← h3,List.map_map]
 exact h2.2.2
theorem keys_of {K:Value→Prop} {es:List MapEntry} {l:List (Value×Value)} (h:es.map (fun e=>(e.key,e.val))=l) (hl:∀ p∈l,K p.1):∀ x∈es,K x.key:=fun x hx=>hl (x.key,x.val) (h ▸ List.mem_map.2 ⟨x,hx,rfl⟩)
theorem pair_inj {l:List (Value×Value)} (h:(l.map (·.1)).Nodup) {k a b:Value} (ha:(k,a)∈l) (hb:(k,b)∈l):a=b:=by
 induction l with
 | nil=>cases ha
 | cons p l ih =>
   simp only [List.map_cons,List.nodup_cons] at h
   rcases List.mem_cons.1 ha with e1 | h1 <;> rcases List.mem_cons.1 hb with e2 | h2
   · rw [← e1] at e2; exact (Prod.mk.inj e2).2.symm
   · exact absurd (List.mem_map.2 ⟨_,h2,rfl⟩) (by rw [← e1] at h; exact h.1)
   · exact absurd (List.mem_map.2 ⟨_,h1,rfl⟩) (by rw [← e2] at h; exact h.1)
   · exact ih h.2 h1 h2
theorem lookup_has {mt kt et:TypeId} {K:Value→Prop} (hm:P.underlying mt=some (.map kt et)) (hK:Keyed P kt K) {w:World} {b:Nat} {l:List (Value×Value)} (h:PairsAt w b l) (hl:∀ p∈l,K p.1) {k v:Value} (hk:K k) (hv:(k,v)∈l) (ok:Bool) :
 (Instr.lookup mt (.map (some b)) k ok).run P w=.ok (if ok then .tuple #[v,.bool true] else v) w:=by
 have hnd:=h.nodup
 obtain ⟨es,c,hb,hst,hmap⟩:=h
 rcases hK.find k hk es.toList (keys_of hmap hl) w with ⟨h1,h2⟩ | ⟨j,e,h1,h2,h3⟩
 ·
  exfalso
  rw [← hmap] at hv
  obtain ⟨x,hx,he⟩:=List.mem_map.1 hv
  exact h1 x hx (Prod.mk.inj he).1
 ·
  have hev:e.val=v:=by
   have hm1:(k,e.val)∈l:=by rw [← hmap,← h3]; exact List.mem_map.2 ⟨e,List.mem_of_getElem? h2,rfl⟩
   exact pair_inj hnd hm1 hv
  cases ok <;> simp [Instr.lookup,run_underlying hm,Go.MapKept.run_getObj_map hb,hK.check k hk,h1,Result.andThen,hev]
theorem lookup_not {mt kt et:TypeId} {K:Value→Prop} (hm:P.underlying mt=some (.map kt et)) (hK:Keyed P kt K) {w:World} {b:Nat} {l:List (Value×Value)} (h:PairsAt w b l) (hl:∀ p∈l,K p.1) {k:Value} (hk:K k) (hn:∀ p∈l,p.1≠k)
 {z:Value} (hz:∀ w,(zeroValue et).run P w=.ok z w) (ok:Bool) :
 (Instr.lookup mt (.map (some b)) k ok).run P w=.ok (if ok then .tuple #[z,.bool false] else z) w:=by
 obtain ⟨es,c,hb,hst,hmap⟩:=h
 rcases hK.find k hk es.toList (keys_of hmap hl) w with ⟨h1,h2⟩ | ⟨j,e,h1,h2,h3⟩
 · cases ok <;> simp [Instr.lookup,run_underlying hm,Go.MapKept.run_getObj_map hb,hK.check k hk,h2,Result.andThen,hz]
 · exfalso
   exact hn (e.key,e.val) (hmap ▸ List.mem_map.2 ⟨e,List.mem_of_getElem? h2,rfl⟩) h3
theorem update_new {mt kt et:TypeId} {K:Value→Prop} (hm:P.underlying mt=some (.map kt et)) (hK:Keyed P kt K) {w:World} {b:Nat} {l:List (Value×Value)} (h:PairsAt w b l) (hl:∀ p∈l,K p.1) {k:Value} (hk:K k) (hn:∀ p∈l,p.1≠k) (v:Value) :
 ∃ w',(Instr.mapUpdate mt (.map (some b)) k v).run P w=.ok () w'∧PairsAt w' b (l++[(k,v)])∧Mod (fun x=>x=b) w w':=by
 obtain ⟨es,c,hb,hst,hmap⟩:=h
 rcases hK.find k hk es.toList (keys_of hmap hl) w with ⟨h1,h2⟩ | ⟨j,e,h1,h2,h3⟩
 ·
  have hrun:(Instr.mapUpdate mt (.map (some b)) k v).run P w=.ok () { w with heap:=w.heap.setIfInBounds b (.map (es.push ⟨k,v,c⟩) (c+1)) }:=by
   simp [Instr.mapUpdate,run_underlying hm,Go.MapKept.run_getObj_map hb,hK.check k hk,h2,Go.MapKept.run_setObj_map _ hb,Result.andThen]
  refine ⟨_,hrun,⟨es.push ⟨k,v,c⟩,c+1,(heap_set hb).1,stamped_push hst h1,?_⟩,⟨rfl,rfl,rfl,by simp,fun r _ hr=>(heap_set hb).2 r hr⟩⟩
  rw [Array.toList_push,List.map_append,hmap]; rfl
 · exfalso
   exact hn (e.key,e.val) (hmap ▸ List.mem_map.2 ⟨e,List.mem_of_getElem? h2,rfl⟩) h3
theorem update_old {mt kt et:TypeId} {K:Value→Prop} (hm:P.underlying mt=some (.map kt et)) (hK:Keyed P kt K) {w:World} {b:Nat} {l l1 l2:List (Value×Value)} (h:PairsAt w b l) (hl:∀ p∈l,K p.1) {k v0:Value} (hk:K k) (he:l=l1++(k,v0) :: l2) (v:Value) :
 ∃ w',(Instr.mapUpdate mt (.map (some b)) k v).run P w=.ok () w'∧PairsAt w' b (l1++(k,v) :: l2)∧Mod (fun x=>x=b) w w':=by
 have hnd:=h.nodup
 obtain ⟨es,c,hb,hst,hmap⟩:=h
 rcases hK.find k hk es.toList (keys_of hmap hl) w with ⟨h1,h2⟩ | ⟨j,e,h1,h2,h3⟩
 ·
  exfalso
  have:(k,v0)∈es.toList.map (fun e=>(e.key,e.val)):=by rw [hmap,he]; simp
  obtain ⟨x,hx,hxe⟩:=List.mem_map.1 this
  exact h1 x hx (Prod.mk.inj hxe).1
 ·
  have hj:es[j]?=some e:=by simpa using h2
  have hrun:(Instr.mapUpdate mt (.map (some b)) k v).run P w=.ok () { w with heap:=w.heap.setIfInBounds b (.map (es.modify j fun e=>{ e with key:=k,val:=v }) c) }:=by
   simp [Instr.mapUpdate,run_underlying hm,Go.MapKept.run_getObj_map hb,hK.check k hk,h1,hj,h3,hK.stays k hk,Go.MapKept.run_setObj_map _ hb,Result.andThen]
  have hkey:∀ e',es[j]?=some e'→({ e' with key:=k,val:=v }:MapEntry).key=e'.key:=fun e' he'=>by rw [hj] at he'; cases he'; exact h3.symm
  refine ⟨_,hrun,⟨_,c,(heap_set hb).1,stamped_modify hst _ _ (fun _ _=>rfl) (fun e' _ he'=>hkey e' he'),?_⟩,⟨rfl,rfl,rfl,by simp,fun r _ hr=>(heap_set hb).2 r hr⟩⟩
  have hjl:l[j]?=some (k,e.val):=by rw [← hmap,List.getElem?_map,h2,Option.map_some,h3]
  have hl1:l1.length=j:=by
   have hx:l[l1.length]?=some (k,v0):=by rw [he]; simp
   have hn1:(l.map (·.1))[l1.length]?=some k:=by rw [List.getElem?_map,hx]; rfl
   have hn2:(l.map (·.1))[j]?=some k:=by rw [List.getElem?_map,hjl]; rfl
   obtain ⟨p1,q1⟩:=List.getElem?_eq_some_iff.1 hn1
   obtain ⟨p2,q2⟩:=List.getElem?_eq_some_iff.1 hn2
   rcases Nat.lt_trichotomy l1.length j with h | h | h
   · exact absurd (q1.trans q2.symm) (List.pairwise_iff_getElem.1 hnd _ _ p1 p2 h)
   · exact h
   · exact absurd (q2.trans q1.symm) (List.pairwise_iff_getElem.1 hnd _ _ p2 p1 h)
  apply List.ext_getElem?
  intro i
  rw [List.getElem?_map,Array.getElem?_toList,Array.getElem?_modify]
  by_cases hi:j=i
  · subst hi
    rw [if_pos rfl,hj,← hl1]
    simp
  ·
   rw [if_neg hi]
   have h1:(es[i]?.map fun e=>(e.key,e.val))=l[i]?:=by rw [← hmap,List.getElem?_map,Array.getElem?_toList]
   rw [h1,he]
   have hne:i≠l1.length:=fun e=>hi (e ▸ hl1.symm)
   rcases Nat.lt_or_ge i l1.length with hlt | hge
   · rw [List.getElem?_append_left hlt,List.getElem?_append_left hlt]
   · rw [List.getElem?_append_right hge,List.getElem?_append_right hge]
     obtain ⟨m,hm'⟩:∃ m,i - l1.length=m+1:=⟨i - l1.length - 1,by omega⟩
     rw [hm',List.getElem?_cons_succ,List.getElem?_cons_succ]
end Go.Proofs.YtnoehodmmkioaaaGreatDoor.MapG
namespace Go.Proofs.YtnoehodmmkioaaaGreatDoor.TapeW
open Go.RowKit Go.MapKept OctMath RecMath TapeMath DskW SegW MapG
def tapeH:List UInt8:=[116,97,112,101,45]
def Waiting (D:DiskD) (R:SegD):Prop:=∀ x∈D.waits,R.synced < R.e∧∃ i,i < R.n∧R.synced < R.b+i * R.size+R.size∧∃ f,D.find (nameL R.head (R.b+i * R.size))=some f∧f.blk=x.blk
def idsL (l:List (Nat×Msg)):List Value:=l.map fun p=>.int .i64 (p.1:Int)
def sizesL (l:List (Nat×Msg)):List (Value×Value):=l.map fun p=>(.int .i64 (p.1:Int),.int .i64 ((recL p.2).length:Int))
structure OwnD where
 blk:Nat
 rb:Nat
 sums:Nat
 idv:Value
 mB:Nat
 last:Int
 recs:List (Nat×Msg)
def OwnD.cells (T:OwnD):Array Value:=#[.pointer (some ⟨T.rb,0,none⟩),.pointer (some ⟨T.sums,0,none⟩),T.idv,.map (some T.mB),.int .i64 T.last]
def OwnD.foot (T:OwnD) (k:Nat):Prop:=k=T.blk∨k=T.sums∨k=T.mB∨T.idv.ownBlock=some k
structure OwnAt (base:Nat) (w:World) (T:OwnD):Prop where
 cells:w.heap[T.blk]?=some (.cells T.cells 84 (0,0))
 ids:w.ownsRow base 3 1 T.idv T.recs.length (idsL T.recs)
 sizes:PairsAt w T.mB (sizesL T.recs)
 tabs:CrcW.Tabs w T.sums
 low:T.sums < w.heap.size∧base≤T.sums∧base≤T.blk∧base≤T.mB
 apart:T.blk≠T.sums∧T.blk≠T.mB∧T.sums≠T.mB∧∀ k,T.idv.ownBlock=some k→k≠T.blk∧k≠T.sums∧k≠T.mB
theorem OwnAt.lt {base:Nat} {w:World} {T:OwnD} (h:OwnAt base w T) {k:Nat} (hk:T.foot k):k < w.heap.size:=by
 rcases hk with hk | hk | hk | hk
 · rw [hk]; exact (Array.getElem?_eq_some_iff.1 h.cells).1
 · rw [hk]; exact h.low.1
 · rw [hk]; exact h.sizes.lt
 · rcases h.ids.2 with ⟨e,_⟩ | ⟨g,cap,cur,e,_,hg,_⟩
   · rw [e] at hk; cases hk
   · rw [e] at hk; cases hk; exact (Array.getElem?_eq_some_iff.1 hg).1
theorem OwnAt.base_le {base:Nat} {w:World} {T:OwnD} (h:OwnAt base w T) {k:Nat} (hk:T.foot k):base≤k:=by
 rcases hk with hk | hk | hk | hk
 · rw [hk]; exact h.low.2.2.1
 · rw [hk]; exact h.low.2.1
 · rw [hk]; exact h.low.2.2.2
 · exact ownBlock_of_own h.ids k hk
theorem tabs_mod {M:Nat→Prop} {w w':World} {B:Nat} (h:CrcW.Tabs w B) (hB:B < w.heap.size) (hm:Mod M w w') (hM:¬ M B):CrcW.Tabs w' B :=
 fun k j hk hj=>by rw [hm.cell (by simpa using hB) (by simpa using hM)]; exact h k j hk hj
theorem OwnAt.mod {base:Nat} {w w':World} {T:OwnD} {M:Nat→Prop} (h:OwnAt base w T) (hm:Mod M w w') (hM:∀ k,T.foot k→¬ M k):OwnAt base w' T :=
 { h with
  cells:=(hm.block _ (h.lt (.inl rfl)) (hM _ (.inl rfl))).trans h.cells
  ids:=SegW.ownsRow_mod h.ids hm (fun k hk=>hM k (.inr (.inr (.inr hk))))
  sizes:=h.sizes.mod hm (hM _ (.inr (.inr (.inl rfl))))
  tabs:=tabs_mod h.tabs h.low.1 hm (hM _ (.inr (.inl rfl)))
  low:=⟨Nat.lt_of_lt_of_le h.low.1 hm.size,h.low.2⟩ }
theorem OwnAt.below {base:Nat} {w w':World} {T:OwnD} (h:OwnAt base w T) (hb:Below w.heap.size w w'):OwnAt base w' T :=
 h.mod (M:=fun _=>False) (Mod.of_below hb) (fun _ _ h=>h)
theorem OwnAt.cell {base:Nat} {w:World} {T:OwnD} (h:OwnAt base w T) (k:Nat) (v:Value) (hv:T.cells[k]?=some v):w.cell? ⟨T.blk,k,Option.none⟩=some v:=by
 unfold World.cell?; rw [show w.heap[(⟨T.blk,k,Option.none⟩:Addr).block]?=_ from h.cells]; simpa using hv
structure TapeD where
 O:OwnD
 D:DiskD
 R:SegD
 its:List TapeMath.Item
def TapeD.foot (T:TapeD) (k:Nat):Prop:=T.O.foot k∨T.D.foot k∨T.R.foot k
structure TapeAt (base:Nat) (w:World) (T:TapeD):Prop where
 own:OwnAt base w T.O
 rb:T.O.rb=T.R.blk
 recs:T.O.recs=recsOf T.R.b T.its
 away:∀ k,T.O.foot k→¬ T.D.foot k∧¬ T.R.foot k
 whole:Whole base w T.D T.R
 head:T.R.head=tapeH
 size:T.R.size=1024
 txt:T.R.txt=bytesL T.its
 fits:Fits T.R.b T.its
 last:∀ p,T.O.recs.getLast?=some p→T.O.last=p.2.born
 wait:Waiting T.D T.R
theorem TapeAt.lt {base:Nat} {w:World} {T:TapeD} (h:TapeAt base w T) {k:Nat} (hk:T.foot k):k < w.heap.size:=by
 rcases hk with hk | hk | hk
 · exact h.own.lt hk
 · exact h.whole.dsk.lt hk
 · exact h.whole.seg.lt hk
theorem TapeAt.base_le {base:Nat} {w:World} {T:TapeD} (h:TapeAt base w T) {k:Nat} (hk:T.foot k):base≤k:=by
 rcases hk with hk | hk | hk
 · exact h.own.base_le hk
 · exact h.whole.dsk.base_le hk
 · rcases hk with hk | hk
   · rw [hk]; exact h.whole.seg.above
   · exact ownBlock_of_own h.whole.seg.row k hk
theorem TapeAt.mod {base:Nat} {w w':World} {T:TapeD} {M:Nat→Prop} (h:TapeAt base w T) (hm:Mod M w w') (hM:∀ k,T.foot k→¬ M k):TapeAt base w' T :=
 { h with
  own:=h.own.mod hm (fun k hk=>hM k (.inl hk))
  whole:=h.whole.mod hm (fun k hk=>hM k (.inr (.inl hk))) (fun k hk=>hM k (.inr (.inr hk))) }
theorem TapeAt.below {base:Nat} {w w':World} {T:TapeD} (h:TapeAt base w T) (hb:Below w.heap.size w w'):TapeAt base w' T :=
 h.mod (M:=fun _=>False) (Mod.of_below hb) (fun _ _ h=>h)
theorem room_eq {base:Nat} {w:World} {R:SegD} (h:SegAt base w R) (hs:R.size=1024):R.room=roomL R.e:=by
 have hm:=h.mult
 rw [hs] at hm
 unfold SegD.room roomL SegD.e
 rw [hs]
 rcases Nat.eq_zero_or_pos R.n with h0 | hp
 · rw [if_neg (by omega),(h.empty h0).2,(h.empty h0).1]; rfl
 · obtain ⟨l1,l2,l3⟩:=h.long hp
   rw [hs] at l1 l2
   split <;> omega
theorem room_le (e:Nat):1≤roomL e∧roomL e≤1024:=by unfold roomL; omega
theorem Waiting.app {base:Nat} {w w':World} {D D':DiskD} {R R':SegD} {s:List UInt8} (h:Waiting D R) (hR:SegAt base w R) (hR':SegAt base w' R') (ha:AppOk D D' R R' s) (h0:s≠[]) (he:R'={ R with n:=R'.n,pv:=R'.pv,txt:=R.txt++s }) (hp:0 < R'.n):Waiting D' R':=by
 have e1:R'.synced=R.synced:=by rw [he]
 have e2:R'.b=R.b:=by rw [he]
 have e3:R'.size=R.size:=by rw [he]
 have e4:R'.head=R.head:=by rw [he]
 have e5:R'.txt=R.txt++s:=by rw [he]
 have hsl:0 < s.length:=List.length_pos_iff.2 h0
 have e6:R'.e=R.e+s.length:=by unfold SegD.e; rw [e2,e5,List.length_append]; omega
 have hsy:=hR.syn
 obtain ⟨l1,l2,l3⟩:=hR'.long hp
 have hnn:R.n≤R'.n:=by
  rcases Nat.lt_or_ge R'.n R.n with hlt | hge
  ·
   exfalso
   obtain ⟨k1,k2,k3⟩:=hR.long (by omega)
   have:R'.n * R.size≤(R.n - 1) * R.size:=Nat.mul_le_mul_right _ (by omega)
   rw [e5,List.length_append,e3] at l2
   omega
  · exact hge
 obtain ⟨f,o,hf,hw⟩:=ha.waits
 intro x hx
 rw [hw] at hx
 rw [e1,e2,e3,e4,e6]
 refine ⟨by omega,?_⟩
 rcases List.mem_append.1 hx with hx | hx
 · obtain ⟨g1,i,g2,g3,f0,g4,g5⟩:=h x hx
   obtain ⟨f1,g6,g7,_⟩:=ha.blks _ _ g4
   exact ⟨i,by omega,g3,f1,g6,g7.trans g5⟩
 ·
  rw [List.mem_singleton] at hx
  subst hx
  refine ⟨R'.n - 1,by omega,?_,f,?_,rfl⟩
  ·
   have h1:=mul_pred (s:=R.size) hp
   have:R'.e=R'.b+R'.txt.length:=rfl
   rw [e3] at l2
   rw [e2] at this
   omega
  · unfold SegD.lastP at hf
    rw [e2,e3] at hf
    exact hf
theorem Waiting.none {D:DiskD} {R:SegD} (h:D.waits=[]):Waiting D R:=fun x hx=>by rw [h] at hx; cases hx
theorem Waiting.sync {base:Nat} {w:World} {D:DiskD} {R:SegD} (h:Waiting D R) (hR:SegAt base w R) (hD:DiskAt base w D) (wv:Value):(R.syncD D wv).waits=[]:=by
 unfold SegD.syncD
 by_cases hn:R.syncL=[]
 ·
  rw [if_pos hn]
  have he:=(syncL_nil hR).1 hn
  cases hw:D.waits with
  | nil=>rfl
  | cons x l =>
    have:=(h x (by rw [hw]; exact .head _)).1
    omega
 ·
  rw [if_neg hn]
  unfold DiskD.lasts
  simp only
  rw [List.filter_eq_nil_iff]
  intro x hx
  obtain ⟨g1,i,g2,g3,f,g4,g5⟩:=h x hx
  simp only [Bool.not_eq_true,Bool.not_eq_false',Bool.not_eq_eq_eq_not,Bool.not_true,Bool.not_false]
  have hmem:=find_some g4
  have hin:nameL R.head (R.b+i * R.size)∈R.syncL:=by
   unfold SegD.syncL SegD.syncK
   rw [if_pos g1]
   exact List.mem_map.2 ⟨i,List.mem_filter.2 ⟨List.mem_range.2 g2,decide_eq_true g3⟩,rfl⟩
  have:D.files.any (fun p=>decide (p.1∈R.syncL) && decide (x.blk=p.2.blk))=true:=List.any_eq_true.2 ⟨_,hmem,by rw [decide_eq_true hin,decide_eq_true g5.symm]; rfl⟩
  simp [this]
open RecW
theorem TapeAt.c0 {base:Nat} {w:World} {T:TapeD} (h:TapeAt base w T):w.cell? ⟨T.O.blk,0,none⟩=some (.pointer (some ⟨T.R.blk,0,none⟩)):=h.own.cell 0 _ (by rw [← h.rb]; rfl)
theorem begin_any {base:Nat} {T:TapeD} (w:World) (h:TapeAt base w T) :
 Calls Tryz.prog 65 #[.pointer (some ⟨T.O.blk,0,none⟩)] w fun e w'=>e=.returned (.int .i64 (T.R.b:Int))∧w'=w:=by
 have HB:=Lib.hid (SegW.begin_any w h.whole.seg)
 have c0:=h.c0
 clear h
 go_enter Tryz.func65,Tryz.ntmps65
 go_wp2_with fail
 refine HB.out.mono ?_
 rintro e w' ⟨rfl,rfl⟩
 go_wp2_with fail
 go_ret
 exact ⟨rfl,rfl⟩
theorem synced_any {base:Nat} {T:TapeD} (w:World) (h:TapeAt base w T) :
 Calls Tryz.prog 79 #[.pointer (some ⟨T.O.blk,0,none⟩)] w fun e w'=>e=.returned (.int .i64 (T.R.synced:Int))∧w'=w:=by
 have HB:=Lib.hid (SegW.synced_any w h.whole.seg)
 have c0:=h.c0
 clear h
 go_enter Tryz.func79,Tryz.ntmps79
 go_wp2_with fail
 refine HB.out.mono ?_
 rintro e w' ⟨rfl,rfl⟩
 go_wp2_with fail
 go_ret
 exact ⟨rfl,rfl⟩
theorem loose_no (v:Value) (p:Nat) (hp:p≤1099511627776) (h:3≤1024 - p % 1024) (w:World) :
 Calls Tryz.prog 173 #[v,.int .i64 (p:Int)] w fun e w'=>e=.returned (.bool false)∧w'=w:=by
 have h1:(p:Int).tmod 1024=((p % 1024:Nat):Int):=by rw [Int.tmod_eq_emod_of_nonneg (by omega)]; omega
 have h2:¬ ((1024:Int) - ((p % 1024:Nat):Int) < 3):=by omega
 have hlt:p % 1024 < 1024:=Nat.mod_lt _ (by omega)
 generalize p % 1024=z at *
 go_enter Tryz.func173,Tryz.ntmps173
 go_wp2_with fail
 go_ret
 exact ⟨rfl,rfl⟩
def sizeR (l:List (Nat×Msg)) (id:Int):Int:=((l.find? fun p=>decide ((p.1:Int)=id)).map fun p=>((recL p.2).length:Int)).getD 0
theorem keyedI:Keyed Tryz.prog 3 (IsKey (.int .i64)):=Keyed.of_isKey Tryz.underlying3
theorem keysS (l:List (Nat×Msg)):∀ p∈sizesL l,IsKey (.int .i64) p.1:=fun p hp=>by
 obtain ⟨q,_,rfl⟩:=List.mem_map.1 hp; rfl
theorem lookupS {base:Nat} {w:World} {T:OwnD} (h:OwnAt base w T) (id:Int) :
 (Instr.lookup 82 (.map (some T.mB)) (.int .i64 id) false).run Tryz.prog w=.ok (.int .i64 (sizeR T.recs id)) w:=by
 have hm:=Tryz.underlying82
 unfold sizeR
 cases hf:T.recs.find? (fun p=>decide ((p.1:Int)=id)) with
 | none =>
   have hn:=List.find?_eq_none.1 hf
   exact lookup_not hm keyedI h.sizes (keysS _) (k:=.int .i64 id) rfl (fun p hp=>by
    obtain ⟨q,hq,rfl⟩:=List.mem_map.1 hp
    intro e
    exact hn q hq (by simpa using e)) (z:=.int .i64 0) (fun w=>by kernel_rfl) false
 | some q =>
   obtain ⟨h1,a,b,h2,h3⟩:=List.find?_eq_some_iff_append.1 hf
   exact lookup_has hm keyedI h.sizes (keysS _) (k:=.int .i64 id) (v:=.int .i64 ((recL q.2).length:Int)) rfl (List.mem_map.2 ⟨q,by rw [h2]; simp,by rw [show ((q.1:Int))=id by simpa using h1]⟩) false
theorem size_any {base:Nat} {T:OwnD} (id:Int) (w:World) (h:OwnAt base w T) :
 Calls Tryz.prog 81 #[.pointer (some ⟨T.blk,0,none⟩),.int .i64 id] w fun e w'=>e=.returned (.int .i64 (sizeR T.recs id))∧w'=w:=by
 have hl:=lookupS h id
 have c3:w.cell? ⟨T.blk,3,none⟩=some (.map (some T.mB)):=h.cell 3 _ rfl
 clear h
 generalize sizeR T.recs id=z at *
 go_enter Tryz.func81,Tryz.ntmps81
 go_wp2_with fail
 go_ret
 exact ⟨rfl,rfl⟩
theorem updateS {w:World} {l:List (Nat×Msg)} {mB:Nat} (h:PairsAt w mB (sizesL l)) (id:Nat) (m:Msg) (hn:∀ p∈l,p.1≠id) :
 ∃ w',(Instr.mapUpdate 82 (.map (some mB)) (.int .i64 (id:Int)) (.int .i64 ((recL m).length:Int))).run Tryz.prog w=.ok () w'∧PairsAt w' mB (sizesL (l++[(id,m)]))∧Mod (fun k=>k=mB) w w':=by
 obtain ⟨w',h1,h2,h3⟩:=update_new Tryz.underlying82 keyedI h (keysS _) (k:=.int .i64 (id:Int)) rfl (fun p hp=>by
  obtain ⟨q,hq,rfl⟩:=List.mem_map.1 hp
  intro e
  have:(q.1:Int)=(id:Int):=by simpa using e
  exact hn q hq (by omega)) (.int .i64 ((recL m).length:Int))
 refine ⟨w',h1,?_,h3⟩
 unfold sizesL at h2 ⊢
 rw [List.map_append]; exact h2
theorem append_int {base:Nat} {w:World} {v:Value} {n:Nat} {xs:List Value} (h:w.ownsRow base 3 1 v n xs) (x:Int) (hn:n≤1073741824) (hbase:base≤w.heap.size) :
 ∃ v' w8,(Builtin.append_ #[49,49] 49 #[v,.slice (some ⟨w.heap.size,0,none⟩) 1 1]).run Tryz.prog (w.alloc (.cells #[.int .i64 x] 3))=.ok v' w8 ∧
  w8.ownsRow base 3 1 v' (n+1) (xs++[.int .i64 x])∧Mod (fun k=>v.ownBlock=some k) w w8∧(∃ a cp,v'=.slice a (n+1) cp)∧∀ k,v'.ownBlock=some k→v.ownBlock=some k∨w.heap.size≤k:=by
 have hb7:Below w.heap.size w (w.alloc (.cells #[.int .i64 x] 3)):=(Below.refl _ _).alloc (Nat.le_refl _) _
 have hd7:=SegW.ownsRow_mod (M:=fun _=>False) h (Mod.of_below hb7) (fun _ _ h=>h)
 obtain ⟨i0,hi0,hz0,hz1,hz2⟩:∃ i,Tryz.prog.info? 3=some i∧i.zero=some (.int .i64 0)∧i.size=1∧i.bytes=8:=by
  have:=(show (Tryz.prog.info? 3).map (fun i=>(i.zero,i.size,i.bytes))=some (some (.int .i64 0),1,8) by kernel_rfl)
  cases hh:Tryz.prog.info? 3 with
  | none=>rw [hh] at this; cases this
  | some i=>rw [hh] at this; have h2:=Option.some.inj this; exact ⟨i,rfl,congrArg (·.1) h2,congrArg (·.2.1) h2,congrArg (·.2.2) h2⟩
 obtain ⟨v',w8,hr,hrow,hgb,_,hob⟩:=run_append_own_at (P:=Tryz.prog) _ base 49 49 3 i0 (.int .i64 0) 1 8 Tryz.underlying49 hi0 hz0 hz1 hz2 rfl (by omega) _ _ _ hd7
  ⟨w.heap.size,0,none⟩ 1 1 [.int .i64 x] rfl (fun j u hu=>by
   have hadd:(⟨w.heap.size,0,none⟩:Addr).add j=⟨w.heap.size,j,none⟩:=by unfold Addr.add; split <;> simp_all
   rw [hadd,World.cell?_alloc_new]
   match j,hu with
   | 0,hu=>exact hu
   | j+1,hu=>cases hu) (fun u hu=>by
   rw [List.mem_singleton] at hu; subst hu; rfl) (by unfold maxLen; omega) (by omega) (Nat.le_trans hbase hb7.size)
 have hsz7:(w.alloc (.cells #[.int .i64 x] 3)).heap.size=w.heap.size+1:=World.size_alloc _ _
 refine ⟨v',w8,hr,hrow,(Mod.of_below hb7).trans ⟨hgb.os,hgb.tape,hgb.output,hgb.size,fun k hk hnf=>hgb.block k hk (fun e=>hnf e.symm)⟩,own_slice hrow,fun k hk=>?_⟩
 rcases hob with e | e
 · exact .inl (e ▸ hk)
 · rw [e] at hk; cases hk; right; omega
theorem wpList_append_run {P:Program} (w:World) {ops:Array Oper} {rest:List Oper} {o:Oper} {a:Act} {Q:Exit→Act→World→Prop} (hgd:o.guard=none) (s x:Operand) (t tn:TypeId)
 (ho:o.op=.call { callee:=.builtin .append,args:=#[s,x],argTypes:=#[t,tn] }) (vs vx:Value) (hs:a.eval s=vs) (hx:a.eval x=vx)
 (v':Value) (w':World) (hr:(Builtin.append_ #[t,tn] o.type #[vs,vx]).run P w=.ok v' w') (h:wpList P ops Q rest (a.put o.dst v') w'):wpList P ops Q (o :: rest) a w:=by
 refine wpList_plain hgd fun K hK=>?_
 unfold Oper.wp
 simp [execOp,ho,resolve,invoke,builtin,hs,hx,hr,Result.andThen]
 exact hK _ _ h
def OwnD.add (T:OwnD) (idv:Value) (id:Nat) (m:Msg):OwnD:={ T with idv:=idv,last:=m.born,recs:=T.recs++[(id,m)] }
theorem note_one {base:Nat} {T:OwnD} (id:Nat) (m:Msg) (a:Option Addr) (c:Nat) (W:World) (h:OwnAt base W T) (h0:m.kind≠0) (hn:∀ p∈T.recs,p.1≠id) (hl:T.recs.length≤1048576) (hbase:base≤W.heap.size) :
 Calls Tryz.prog 109 #[.pointer (some ⟨T.blk,0,none⟩),.int .i64 (id:Int),.int .i64 ((recL m).length:Int),.agg (cellsM m a c)] W fun e w'=>e=.returned (.tuple #[]) ∧
  ∃ idv,OwnAt base w' (T.add idv id m)∧Mod T.foot W w'∧∀ k,idv.ownBlock=some k→T.foot k∨W.heap.size≤k:=by
 have HB0:Hid (Below W.heap.size W (W.alloc (.cells (cellsM m a c) 53))):=(Below.refl _ W).alloc (Nat.le_refl _) _
 have HX:Hid (RecW.Boxed (W.alloc (.cells (cellsM m a c) 53)) W.heap.size (cellsM m a c)):=RecW.Boxed.new W _ _
 have hz1:(W.alloc (.cells (cellsM m a c) 53)).heap.size=W.heap.size+1:=World.size_alloc _ _
 have HO0:=Lib.hid (h.below HB0.out)
 have HLT:Hid (∀ k,T.foot k→k < W.heap.size):=fun k hk=>h.lt hk
 have hcu:(cellsM m a c).size=10:=rfl
 have HBS:=Lib.hid hbase
 clear h hbase
 go_enter Tryz.func109,Tryz.ntmps109
 go_upto_region 1 with fail
 generalize W.alloc (.cells (cellsM m a c) 53)=w1 at *
 clear hcu
 obtain ⟨A,hA⟩:∃ A,W.heap.size=A:=⟨_,rfl⟩
 rw [hA] at HX hz1 ⊢
 have k0:w1.cell? ⟨A,0,none⟩=some (.int .i64 m.kind):=HX.out 0 _ rfl
 obtain ⟨v',w8,hr,hrow,hm8,⟨av,cv,hv'⟩,hob⟩:=append_int HO0.out.ids (id:Int) (by omega) (Nat.le_trans HBS.out HB0.out.size)
 obtain ⟨a0,cp0,hidv⟩:=own_slice HO0.out.ids
 have hap:=HO0.out.apart
 have hfo:∀ k,T.idv.ownBlock=some k→k < A:=fun k hk=>by have:=HLT.out k (.inr (.inr (.inr hk))); omega
 have hk8:∀ k,k < w1.heap.size→T.idv.ownBlock≠some k→w8.heap[k]?=w1.heap[k]?:=fun k hk hne=>hm8.block k hk hne
 have hb8:w8.heap[T.blk]?=some (.cells T.cells 84 (0,0)):=(hk8 _ (HO0.out.lt (.inl rfl)) (fun e=>(hap.2.2.2 _ e).1 rfl)).trans HO0.out.cells
 have hp8:PairsAt w8 T.mB (sizesL T.recs):=HO0.out.sizes.mod hm8 (fun e=>(hap.2.2.2 _ e).2.2 rfl)
 have ht8:CrcW.Tabs w8 T.sums:=tabs_mod HO0.out.tabs HO0.out.low.1 hm8 (fun e=>(hap.2.2.2 _ e).2.1 rfl)
 have hb9:(w8.setCell ⟨T.blk,2,none⟩ v').heap[T.blk]?=some (.cells #[.pointer (some ⟨T.rb,0,none⟩),.pointer (some ⟨T.sums,0,none⟩),v',.map (some T.mB),.int .i64 T.last] 84 (0,0)):=heap_set1 hb8 _ rfl
 have hm9:Mod (fun k=>k=T.blk) w8 (w8.setCell ⟨T.blk,2,none⟩ v'):=mod_set _ _ _ _
 have hp9:=hp8.mod hm9 (fun e=>hap.2.1 e.symm)
 obtain ⟨w10,hup,hp10,hm10⟩:=updateS hp9 id m hn
 have hA8:A < w8.heap.size:=by have:=hm8.size; omega
 have hA1:∀ (w:World),w.heap[A]?=w1.heap[A]?→RecW.Boxed w A (cellsM m a c):=fun w e i v hv=>by
  rw [World.cell?_of_block (w:=w1) e]; exact HX.out i v hv
 have hx8:=hk8 A (by omega) (fun e=>by have:=hfo A e; omega)
 have hx9:(w8.setCell ⟨T.blk,2,none⟩ v').heap[A]?=w8.heap[A]?:=hm9.block A hA8 (fun e=>by have:=HLT.out _ (.inl rfl); omega)
 have hx10:w10.heap[A]?=w1.heap[A]?:=((hm10.block A (by have:=hm9.size; omega) (fun e=>by have:=HLT.out _ (.inr (.inr (.inl rfl))); omega)).trans hx9).trans hx8
 have k5:w10.cell? ⟨A,5,none⟩=some (.int .i64 m.born):=hA1 w10 hx10 5 _ rfl
 have c2:w1.cell? ⟨T.blk,2,none⟩=some (.slice a0 T.recs.length cp0):=by rw [← hidv]; exact HO0.out.cell 2 _ rfl
 have c28:w8.cell? ⟨T.blk,2,none⟩=some T.idv:=by rw [Lib.cell_of_heap hb8]; rfl
 have f28:w8.frozen? ⟨T.blk,2,none⟩=false:=Lib.frozen_of_heap hb8 2
 have c39:(w8.setCell ⟨T.blk,2,none⟩ v').cell? ⟨T.blk,3,none⟩=some (.map (some T.mB)):=by rw [Lib.cell_of_heap hb9]; rfl
 have hb10:w10.heap[T.blk]?=some (.cells #[.pointer (some ⟨T.rb,0,none⟩),.pointer (some ⟨T.sums,0,none⟩),v',.map (some T.mB),.int .i64 T.last] 84 (0,0)):=(hm10.block _ (Array.getElem?_eq_some_iff.1 hb9).1 hap.2.1).trans hb9
 have c410:w10.cell? ⟨T.blk,4,none⟩=some (.int .i64 T.last):=by rw [Lib.cell_of_heap hb10]; rfl
 have f410:w10.frozen? ⟨T.blk,4,none⟩=false:=Lib.frozen_of_heap hb10 4
 have HOB:=Lib.hid hob
 have HROW:=Lib.hid hrow
 have HM8:=Lib.hid hm8
 have HM9:=Lib.hid hm9
 have HM10:=Lib.hid hm10
 have HP10:=Lib.hid hp10
 have HB10:=Lib.hid hb10
 have HT8:=Lib.hid ht8
 have HAP:=Lib.hid hap
 have HFO:=Lib.hid hfo
 have HAA:=Lib.hid hA
 have HZ1:=Lib.hid hz1
 have HV':=Lib.hid hv'
 have HL8:Hid (∀ k,T.foot k→k < w8.heap.size):=fun k hk=>by have h1:=HLT.out k hk; have h2:=hm8.size; omega
 rw [hidv] at hr
 clear hidv hob hrow hm8 hm9 hm10 hp10 hb8 hb9 hb10 ht8 hap hfo hx8 hx9 hx10 hA1 hA8 hk8 hp8 hp9 hn hl hA hz1
 generalize (recL m).length=L at *
 subst hv'
 have HR:=Lib.hid hr
 clear hr
 go_wp2_with (at_builtin; refine wpList_append_run _ rfl (.tmp 15) (.tmp 17) 49 49 rfl _ _ rfl rfl _ _ HR.out ?_)
 go_end0
 have hap:=HAP.out
 have hm11:Mod (fun k=>k=T.blk) w10 (w10.setCell ⟨T.blk,4,none⟩ (.int .i64 m.born)):=mod_set _ _ _ _
 have hobk:∀ k,(Value.slice av (T.recs.length+1) cv).ownBlock=some k→(T.idv.ownBlock=some k∨A < k):=fun k hk=>(HOB.out k hk).imp_right fun h=>by have:=HZ1.out; omega
 have hne:∀ k,(Value.slice av (T.recs.length+1) cv).ownBlock=some k→k≠T.blk∧k≠T.sums∧k≠T.mB:=fun k hk=>by
  rcases hobk k hk with h | h
  · exact hap.2.2.2 k h
  ·
   have h1:=HLT.out _ (.inl rfl)
   have h2:=HLT.out _ (.inr (.inl rfl))
   have h3:=HLT.out _ (.inr (.inr (.inl rfl)))
   have h4:=HAA.out
   omega
 have hs9:=HM9.out.size
 have hs10:=HM10.out.size
 have hs11:=hm11.size
 have hw18:Mod T.foot w1 w8:=HM8.out.mono (fun k _ hk=>.inr (.inr (.inr hk)))
 have hw89:=HM9.out.mono (N:=T.foot) (fun k _ hk=>.inl hk)
 have hw910:=HM10.out.mono (N:=T.foot) (fun k _ hk=>.inr (.inr (.inl hk)))
 have hw1011:=hm11.mono (N:=T.foot) (fun k _ hk=>.inl hk)
 have hm:Mod T.foot W (w10.setCell ⟨T.blk,4,none⟩ (.int .i64 m.born)):=((((Mod.of_below (M:=T.foot) (HAA.out ▸ HB0.out)).trans hw18).trans hw89).trans hw910).trans hw1011
 have hr9:=SegW.ownsRow_mod HROW.out HM9.out (fun k hk e=>(hne k hk).1 e)
 have hr10:=SegW.ownsRow_mod hr9 HM10.out (fun k hk e=>(hne k hk).2.2 e)
 have hr11:=SegW.ownsRow_mod hr10 hm11 (fun k hk e=>(hne k hk).1 e)
 have ht9:=tabs_mod HT8.out (HL8.out _ (.inr (.inl rfl))) HM9.out (fun e=>hap.1 e.symm)
 have ht10:=tabs_mod ht9 (by have:=HL8.out _ (.inr (.inl rfl)); omega) HM10.out (fun e=>hap.2.2.1 e)
 have ht11:=tabs_mod ht10 (by have:=HL8.out _ (.inr (.inl rfl)); omega) hm11 (fun e=>hap.1 e.symm)
 have hlow:=HO0.out.low
 refine ⟨rfl,_,⟨heap_set1 HB10.out _ rfl,?_,HP10.out.mod hm11 (fun e=>hap.2.1 e.symm),ht11,⟨by have:=HL8.out _ (.inr (.inl rfl)); show T.sums < _; omega,hlow.2⟩,hap.1,hap.2.1,hap.2.2.1,hne⟩,hm,fun k hk=>?_⟩
 ·
  show World.ownsRow _ base _ 1 _ (T.recs++[(id,m)]).length (idsL (T.recs++[(id,m)]))
  unfold idsL
  rw [List.length_append,List.map_append]
  exact hr11
 · rcases hobk k hk with h | h
   · exact .inl (.inr (.inr (.inr h)))
   · right; have:=HAA.out; omega
end Go.Proofs.YtnoehodmmkioaaaGreatDoor.TapeW
namespace Go.Proofs.YtnoehodmmkioaaaGreatDoor.RecW
open Go.RowKit OctMath RecMath NameMath
open OctW (Rd One Texts textL textsL textsW listW)
theorem heap_set1 {w:World} {B i:Nat} {cs:Array Value} {ty:TypeId} (h:w.heap[B]?=some (.cells cs ty (0,0))) (v:Value) {cs':Array Value} (he:cs.setIfInBounds i v=cs'):(w.setCell ⟨B,i,none⟩ v).heap[B]?=some (.cells cs' ty (0,0)):=DskW.heap_set1 h v he
def put10 (w:World) (B:Nat) (x0 x1 x2 x3 x4 x5 x6 x7 x8 x9:Value):World:=(((((((((w.setCell ⟨B,0,none⟩ x0).setCell ⟨B,1,none⟩ x1).setCell ⟨B,2,none⟩ x2).setCell ⟨B,3,none⟩ x3).setCell ⟨B,4,none⟩ x4).setCell ⟨B,5,none⟩ x5).setCell ⟨B,6,none⟩ x6).setCell ⟨B,7,none⟩ x7).setCell ⟨B,8,none⟩ x8).setCell ⟨B,9,none⟩ x9
theorem ten (z:Array Value) (h:z.size=10):∃ x0 x1 x2 x3 x4 x5 x6 x7 x8 x9:Value,z=#[x0,x1,x2,x3,x4,x5,x6,x7,x8,x9]:=by
 rcases z with ⟨l⟩
 rcases l with _ | ⟨x0,_ | ⟨x1,_ | ⟨x2,_ | ⟨x3,_ | ⟨x4,_ | ⟨x5,_ | ⟨x6,_ | ⟨x7,_ | ⟨x8,_ | ⟨x9,_ | ⟨y,l⟩⟩⟩⟩⟩⟩⟩⟩⟩⟩⟩ <;> simp at h
 exact ⟨x0,x1,x2,x3,x4,x5,x6,x7,x8,x9,rfl⟩
theorem put10_heap {w:World} {B:Nat} {z:Array Value} {t:TypeId} (hz:z.size=10) (h:w.heap[B]?=some (.cells z t (0,0))) (x0 x1 x2 x3 x4 x5 x6 x7 x8 x9:Value):(put10 w B x0 x1 x2 x3 x4 x5 x6 x7 x8 x9).heap[B]?=some (.cells #[x0,x1,x2,x3,x4,x5,x6,x7,x8,x9] t (0,0)):=by
 obtain ⟨z0,z1,z2,z3,z4,z5,z6,z7,z8,z9,rfl⟩:=ten z hz
 unfold put10
 have h0:=heap_set1 (i:=0) h x0 rfl
 simp only [List.setIfInBounds_toArray,List.set_cons_zero,List.set_cons_succ] at h0
 have h1:=heap_set1 (i:=1) h0 x1 rfl
 simp only [List.setIfInBounds_toArray,List.set_cons_zero,List.set_cons_succ] at h1
 have h2:=heap_set1 (i:=2) h1 x2 rfl
 simp only [List.setIfInBounds_toArray,List.set_cons_zero,List.set_cons_succ] at h2
 have h3:=heap_set1 (i:=3) h2 x3 rfl
 simp only [List.setIfInBounds_toArray,List.set_cons_zero,List.set_cons_succ] at h3
 have h4:=heap_set1 (i:=4) h3 x4 rfl
 simp only [List.setIfInBounds_toArray,List.set_cons_zero,List.set_cons_succ] at h4
 have h5:=heap_set1 (i:=5) h4 x5 rfl
 simp only [List.setIfInBounds_toArray,List.set_cons_zero,List.set_cons_succ] at h5
 have h6:=heap_set1 (i:=6) h5 x6 rfl
 simp only [List.setIfInBounds_toArray,List.set_cons_zero,List.set_cons_succ] at h6
 have h7:=heap_set1 (i:=7) h6 x7 rfl
 simp only [List.setIfInBounds_toArray,List.set_cons_zero,List.set_cons_succ] at h7
 have h8:=heap_set1 (i:=8) h7 x8 rfl
 simp only [List.setIfInBounds_toArray,List.set_cons_zero,List.set_cons_succ] at h8
 have h9:=heap_set1 (i:=9) h8 x9 rfl
 simp only [List.setIfInBounds_toArray,List.set_cons_zero,List.set_cons_succ] at h9
 exact h9
theorem setm {w w':World} {B:Nat} (h:Mod (fun k=>k=B) w w') (i:Nat) (v:Value):Mod (fun k=>k=B) w (w'.setCell ⟨B,i,none⟩ v):=h.setCell (a:=⟨B,i,none⟩) (.inl rfl) v
theorem put10_mod (w:World) (B:Nat) (x0 x1 x2 x3 x4 x5 x6 x7 x8 x9:Value):Mod (fun k=>k=B) w (put10 w B x0 x1 x2 x3 x4 x5 x6 x7 x8 x9):=by
 unfold put10
 iterate 10 refine setm ?_ _ _
 exact Mod.refl _ _
structure Mid (W:World) (Bt Br Bm:Nat) (cs:Array Value) (r:RS) (w:World):Prop where
 t:w.heap[Bt]?=some (.cells (cellsM noMsg none 0) 53 (0,0))
 m:w.heap[Bm]?=some (.cells cs 53 (0,0))
 r:Rd Br r w
 b:Below W.heap.size W w
theorem Mid.one {W w w':World} {Bt Br Bm:Nat} {cs:Array Value} {r r':RS} (h:Mid W Bt Br Bm cs r w) (hr:Rd Br r' w') (hm:One Br w w') (h1:Bt≠Br) (h2:Bm≠Br) (h3:W.heap.size≤Br):Mid W Bt Br Bm cs r' w' :=
 ⟨(hm.block Bt (Array.getElem?_eq_some_iff.1 h.t).1 h1).trans h.t,(hm.block Bm (Array.getElem?_eq_some_iff.1 h.m).1 h2).trans h.m,hr,h.b.trans (hm.to_below _ h.b.size (fun k e=>e ▸ h3))⟩
theorem Mid.set {W w:World} {Bt Br Bm:Nat} {cs cs':Array Value} {r:RS} (h:Mid W Bt Br Bm cs r w) (i:Nat) (v:Value) (he:cs.setIfInBounds i v=cs') (h1:Bt≠Bm) (h2:Bm≠Br) (h3:W.heap.size≤Bm):Mid W Bt Br Bm cs' r (w.setCell ⟨Bm,i,none⟩ v):=by
 have hm:Mod (fun k=>k=Bm) w (w.setCell ⟨Bm,i,none⟩ v):=setm (Mod.refl _ w) i v
 exact ⟨(hm.block Bt (Array.getElem?_eq_some_iff.1 h.t).1 h1).trans h.t,heap_set1 h.m v he,h.r.mod hm (fun e=>h2 e.symm),h.b.trans (hm.to_below _ h.b.size (fun k e=>e ▸ h3))⟩
theorem Mid.cell {W w:World} {Bt Br Bm:Nat} {cs:Array Value} {r:RS} (h:Mid W Bt Br Bm cs r w) (i:Nat) (v:Value) (hv:cs[i]?=some v):w.cell? ⟨Bm,i,none⟩=some v:=by
 unfold World.cell?; rw [show w.heap[(⟨Bm,i,none⟩:Addr).block]?=_ from h.m]; simpa using hv
theorem Mid.free {W w:World} {Bt Br Bm:Nat} {cs:Array Value} {r:RS} (h:Mid W Bt Br Bm cs r w) (i:Nat):w.frozen? ⟨Bm,i,none⟩=false:=by
 unfold World.frozen?; rw [show w.heap[(⟨Bm,i,none⟩:Addr).block]?=_ from h.m]; rfl
theorem take_text (n:Int) (r:RS):(takeR n r).1.length≤r.s.length:=by
 unfold takeR
 split
 · exact Nat.zero_le _
 ·
  split
  · exact Nat.zero_le _
  · split
    · exact Nat.zero_le _
    · simp only [List.length_take]; omega
theorem text_text (most:Int) (r:RS):(textR most r).1.length≤r.s.length:=by
 by_cases h:r.e≠0
 · unfold textR; rw [if_pos h]; exact Nat.zero_le _
 ·
  rw [OctW.textR_eq most r h]
  have h1:=take_text ((numR 2 r).1:Int) (longR (decide (most < ((numR 2 r).1:Int))) (numR 2 r).2)
  have h2:=OctW.longR_len (decide (most < ((numR 2 r).1:Int))) (numR 2 r).2
  have h3:=OctW.numR_len 2 r
  split <;> (try simp only) <;> omega
theorem texts_text (most:Int) (k:Nat):∀ r:RS,∀ t∈(textsR most k r).1,t.length≤r.s.length:=by
 induction k with
 | zero=>intro r t ht; cases ht
 | succ k ih =>
   intro r t ht
   rw [OctW.textsR_succ] at ht
   rcases List.mem_append.1 ht with ht | ht
   · exact ih r t ht
   · rw [List.mem_singleton] at ht
     subst ht
     exact Nat.le_trans (text_text _ _) (OctW.textsR_len most k r)
theorem list_text (many most:Int) (r:RS):(listR many most r).1.length≤255∧∀ t∈(listR many most r).1,t.length≤r.s.length:=by
 by_cases h:r.e≠0
 · unfold listR; rw [if_pos h]; exact ⟨Nat.zero_le _,fun t ht=>by cases ht⟩
 ·
  rw [OctW.listR_eq many most r h]
  have hx:(numR 1 r).1 < 256:=OctW.numR_lt 1 r
  have h2:=OctW.longR_len (decide (many < ((numR 1 r).1:Int))) (numR 1 r).2
  have h3:=OctW.numR_len 1 r
  split
  · exact ⟨Nat.zero_le _,fun t ht=>by cases ht⟩
  · refine ⟨by rw [OctW.textsR_length]; omega,fun t ht=>?_⟩
    have:=texts_text most _ _ t ht
    omega
theorem opened_ok (s:List UInt8) (hs:s.length≤1073741824):MsgOk (openedR s).1:=by
 have i1:∀ r,inI ((numR 1 r).1:Int):=fun r=>by have:(numR 1 r).1 < 256:=OctW.numR_lt 1 r; unfold inI; omega
 have i6:∀ r,inI ((numR 6 r).1:Int):=fun r=>by have:(numR 6 r).1 < 256 ^ 6:=OctW.numR_lt 6 r; unfold inI; omega
 have hl:(⟨s,0⟩:RS).s.length=s.length:=rfl
 unfold openedR
 dsimp only
 have l0:=OctW.numR_len 1 ⟨s,0⟩
 generalize (numR 1 ⟨s,0⟩).2=r1 at *
 have l1:=OctW.numR_len 1 r1
 generalize (numR 1 r1).2=r2 at *
 have l2:=OctW.numR_len 1 r2
 generalize (numR 1 r2).2=r3 at *
 have l3:=OctW.numR_len 6 r3
 generalize (numR 6 r3).2=r4 at *
 have l4:=OctW.numR_len 6 r4
 generalize (numR 6 r4).2=r5 at *
 have l5:=OctW.numR_len 6 r5
 generalize (numR 6 r5).2=r6 at *
 have l6:=OctW.textR_len 16 r6
 have t1:=text_text 16 r6
 generalize (textR 16 r6).2=r7 at *
 have l7:=OctW.textR_len 16 r7
 have t2:=text_text 16 r7
 generalize (textR 16 r7).2=r8 at *
 have l8:=OctW.textR_len 200 r8
 have t3:=text_text 200 r8
 generalize (textR 200 r8).2=r9 at *
 have k1:=list_text 3 16 r9
 refine ⟨i1 _,i1 _,i6 _,i1 _,i6 _,i6 _,?_,?_,?_,?_,fun t ht=>?_⟩
 · exact Nat.le_trans t1 (by omega)
 · exact Nat.le_trans t2 (by omega)
 · exact Nat.le_trans t3 (by omega)
 · exact Nat.le_trans k1.1 (by omega)
 · exact Nat.le_trans (k1.2 t ht) (by omega)
end Go.Proofs.YtnoehodmmkioaaaGreatDoor.RecW
namespace Go.Proofs.YtnoehodmmkioaaaGreatDoor
open Go.RowKit
def Once (B:Nat) (o:Obj) (u v:World):Prop:=Mod (fun k=>k=B) u v∧(v.heap[B]?=u.heap[B]?∨v.heap[B]?=some o)
theorem Once.refl (B:Nat) (o:Obj) (w:World):Once B o w w:=⟨Mod.refl _ _,.inl rfl⟩
theorem Once.trans {B:Nat} {o:Obj} {u v w:World} (h:Once B o u v) (k:Once B o v w):Once B o u w :=
 ⟨h.1.trans k.1,k.2.elim (fun e=>h.2.elim (fun e2=>.inl (e.trans e2)) fun e2=>.inr (e.trans e2)) .inr⟩
theorem Once.below {B:Nat} {o:Obj} {u v:World} (h:Below u.heap.size u v) (hB:B < u.heap.size):Once B o u v:=⟨Mod.of_below h,.inl (h.block B hB)⟩
theorem Once.drawn {B:Nat} {o:Obj} {u v:World} (h:Drawn u v):Once B o u v:=⟨Mod.of_below (h.below _),.inl (by rw [h.heap])⟩
theorem Once.stays {B:Nat} {o:Obj} {u v:World} (h:Once B o u v) (k:u.heap[B]?=some o):v.heap[B]?=some o:=h.2.elim (fun e=>e.trans k) id
theorem Once.drew {B:Nat} {o:Obj} {u v:World} (h:Once B o u.drew v):Once B o u v:=Once.trans (Once.drawn ((Drawn.refl u).drew)) h
theorem Once.cells {B:Nat} {t:TypeId} {a z:Array Value} {u v:World} (h:Once B (.cells z t (0,0)) u v) (hu:u.heap[B]?=some (.cells a t (0,0))) (hz:z.size=a.size):∃ b:Array Value,b.size=a.size∧v.heap[B]?=some (.cells b t (0,0)) :=
 h.2.elim (fun e=>⟨a,rfl,e.trans hu⟩) fun e=>⟨z,hz,e⟩
end Go.Proofs.YtnoehodmmkioaaaGreatDoor
