/-
  Part 4 of the proof.
-/
import Derived.Test.YtelkmeiepliecaaGreatDoorV03
import Derived.Deep.RegionHeld3
set_option linter.unusedSimpArgs false
set_option linter.unusedVariables false
set_option maxHeartbeats 16000000
namespace Go.Proofs.YtelkmeiepliecaaGreatDoor
open Go.RowKit
open Pm
theorem lens_lo {n m:Nat} {r:Bool} (h:lensOk n m r=true):n≤m∧(r=true→n<m)∧(r=false→n=m):=by
 unfold lensOk at h
 rw [Bool.and_eq_true,Bool.not_eq_true',decide_eq_false_iff_not,beq_iff_eq] at h
 refine ⟨by omega,fun e=>?_,fun e=>?_⟩
 ·rw [e] at h
  exact of_decide_eq_true h.2
 ·rw [e] at h
  have:=of_decide_eq_false h.2
  omega
theorem check_zero {xs:List ByteArray} {r:Bool} (h:checkP xs r=0):0<xs.length∧xs.length≤12∧partsOk xs=true:=by
 unfold checkP at h
 split at h
 ·cases h
 ·split at h
  ·cases h
  ·split at h
   ·cases h
   ·rename_i h1 h2 h3
    refine ⟨by omega,by omega,?_⟩
    cases hp:partsOk xs with
    | true=>rfl
    | false=>exact absurd hp h2
theorem caps_len (st:ByteArray→Bool) (f:ByteArray→ByteArray→ByteArray) (zs:List (ByteArray×ByteArray)):(capsOf st f zs).length≤zs.length:=by
 unfold capsOf
 rw [List.length_map]
 exact List.length_filter_le _ _
theorem match_any (A:Option Addr) (c:Nat) (xs:List ByteArray) (r:Bool) (s:ByteArray) (w:World) (h:RT w A c xs) (hsz:∀ x∈xs,x.size≤9223372036854775807) (hs:s.size≤5000) (hm:ML w) :
 Calls Tryz.prog 70 #[.agg #[.slice A xs.length c,.bool r],.string s] w (RetC w (capsB stB mpCap xs r s) (matchOk mpOk xs r s)):=by
 have h1:=h.1
 have h2:=h.2.1
 have HX:=Lib.hid h
 have HM:=Lib.hid hm
 have HCK:=Lib.hid (fun A c W (h:RT W A c xs)=>check_any A c xs r W h hsz)
 have HSP:=Lib.hid (fun W hW=>split_ret s W (by omega) hW)
 have HCS:=Lib.hid (compsB_size s)
 have hcl:=compsB_len s
 clear h hm hsz
 cases hv:pathOk s.data.toList with
 | false =>
  have HO:Hid (matchOk mpOk xs r s=false):=Lib.hid (by unfold matchOk;rw [hv];rfl)
  rw [HO.out]
  go_enter Tryz.func70,Tryz.ntmps70
  go_wp2_with (go_at_call 95;refine (HSP.out _ (HM.out.below (below_alloc _ _))).mono ?_;rintro e w1 hret;obtain ⟨rfl,hb⟩:=hret.2 hv)
  go_ret2
  exact ⟨fun h=>(by cases h),fun _=>⟨rfl,(below_alloc w _).trans (hb.mono (below_alloc w _).size)⟩⟩
 | true =>
  by_cases hck:checkP xs r=0
  ·have hckB:(checkP xs r != 0)=false:=by rw [hck];rfl
   cases hln:lensOk xs.length (compsB s).length r with
   | false =>
    have HO:Hid (matchOk mpOk xs r s=false):=Lib.hid (by unfold matchOk;rw [hv,hck,hln];rfl)
    rw [HO.out]
    generalize checkP xs r=n at *
    by_cases hlt:(compsB s).length<xs.length
    ·generalize compsB s=cs at *
     go_enter Tryz.func70,Tryz.ntmps70
     go_wp2_with (first
      | (go_at_call 95;refine (HSP.out _ (HM.out.below (below_alloc _ _))).mono ?_;rintro e w1 hret;obtain ⟨B,d,rfl,hr,hb⟩:=hret.1 hv;have P1:=Lib.hid ((PX.new w (.slice A xs.length c) (.bool r) _).below hb);obtain ⟨p1,p2,p3,p4,p5⟩:=P1.out;have HB1:=Lib.hid ((below_alloc w _).trans (hb.mono (below_alloc w _).size));clear hb hret)
      | (go_at_call 77;refine (HCK.out _ _ _ (HX.out.below HB1.out)).mono ?_;rintro e w2 ⟨rfl,hb2⟩;obtain ⟨q1,q2,q3,q4,q5⟩:=P1.out.below hb2))
     go_ret2
     exact ⟨fun h=>(by cases h),fun _=>⟨rfl,HB1.out.trans (hb2.mono HB1.out.size)⟩⟩
    ·have hltB:decide ((compsB s).length<xs.length)=false:=decide_eq_false hlt
     have hrB:decide (xs.length<(compsB s).length)=!r:=by
      unfold lensOk at hln
      rw [hltB,Bool.not_false,Bool.true_and] at hln
      revert hln
      cases decide (xs.length<(compsB s).length)<;>cases r<;>simp
     have HRB:=Lib.hid hrB
     clear hlt
     generalize compsB s=cs at *
     go_enter Tryz.func70,Tryz.ntmps70
     go_wp2_with (first
      | (go_at_call 95;refine (HSP.out _ (HM.out.below (below_alloc _ _))).mono ?_;rintro e w1 hret;obtain ⟨B,d,rfl,hr,hb⟩:=hret.1 hv;have P1:=Lib.hid ((PX.new w (.slice A xs.length c) (.bool r) _).below hb);obtain ⟨p1,p2,p3,p4,p5⟩:=P1.out;have HB1:=Lib.hid ((below_alloc w _).trans (hb.mono (below_alloc w _).size));clear hb hret)
      | (go_at_call 77;refine (HCK.out _ _ _ (HX.out.below HB1.out)).mono ?_;rintro e w2 ⟨rfl,hb2⟩;obtain ⟨q1,q2,q3,q4,q5⟩:=P1.out.below hb2))
     go_ret2
     exact ⟨fun h=>(by cases h),fun _=>⟨rfl,HB1.out.trans (hb2.mono HB1.out.size)⟩⟩
   | true =>
    obtain ⟨hnm,hr1,hr2⟩:=lens_lo hln
    have HL:=Lib.hid hln
    have HCZ:=Lib.hid (check_zero hck)
    have hx0:=HCZ.out.1
    have hx12:=HCZ.out.2.1
    have hltB:decide ((compsB s).length<xs.length)=false:=decide_eq_false (by omega)
    have hrB:decide (xs.length<(compsB s).length)=r:=by
     cases r with
     | true=>exact decide_eq_true (hr1 rfl)
     | false=>exact decide_eq_false (by have:=hr2 rfl;omega)
    have HRB:=Lib.hid hrB
    have HMO:Hid (matchOk mpOk xs r s=okOf mpOk (xs.zip (compsB s))):=Lib.hid (by unfold matchOk;rw [hv,hck,hln];rfl)
    have HCB:Hid (capsB stB mpCap xs r s=capsOf stB mpCap (xs.zip (compsB s))++restL xs r s):=Lib.hid rfl
    have HRL:Hid (restL xs r s=if r=true then [joinT ((compsB s).drop xs.length)] else []):=Lib.hid rfl
    have HJS:=Lib.hid (join_small hs xs.length)
    have hzl:(xs.zip (compsB s)).length=xs.length:=by rw [List.length_zip];omega
    have HZL:=Lib.hid hzl
    rw [HMO.out,HCB.out,HRL.out]
    clear hln hzl hck hr1 hr2
    generalize checkP xs r=n at *
    generalize compsB s=cs at *
    cases r with
    | false =>
     simp only [Bool.false_eq_true,if_false,List.append_nil]
     go_enter Tryz.func70,Tryz.ntmps70
     go_wp2_with (first
      | (go_at_call 95;refine (HSP.out _ (HM.out.below (below_alloc _ _))).mono ?_;rintro e w1 hret;obtain ⟨B,d,rfl,hr,hb⟩:=hret.1 hv;have P1:=Lib.hid ((PX.new w (.slice A xs.length c) _ _).below hb);obtain ⟨p1,p2,p3,p4,p5⟩:=P1.out;have HB1:=Lib.hid ((below_alloc w _).trans (hb.mono (below_alloc w _).size));clear hb hret)
      | (go_at_call 77;refine (HCK.out _ _ _ (HX.out.below HB1.out)).mono ?_;rintro e w2 ⟨rfl,hb2⟩;have P2:=Lib.hid (P1.out.below hb2);obtain ⟨q1,q2,q3,q4,q5⟩:=P2.out))
     have HB2:=Lib.hid (HB1.out.trans (hb2.mono HB1.out.size))
     have HCR:=Lib.hid (hr.below hb2)
     have hd1:=hr.1
     have hd2:=hr.2.1
     clear hr hb2
     go_loopw [9,45] (fun cv i wr=>∃ k:Nat,k≤xs.length∧i=.int .i64 k∧Hid (OT wr w2.heap.size cv (capsOf stB mpCap ((xs.zip cs).take k)))∧Hid (okOf mpOk ((xs.zip cs).take k)=true)∧Hid (Below w2.heap.size w2 wr)) (fun _ i _=>xs.length-(intOf i).toNat)
     case atStart=>exact ⟨0,Nat.zero_le _,rfl,Lib.hid (OT.nil _ _),Lib.hid rfl,Lib.hid (Below.refl _ _)⟩
     case round =>
      obtain ⟨k,hk,rfl,HO,HOK,HBL⟩:=hrel
      obtain ⟨z1,z2,z3,z4,z5⟩:=P2.out.below HBL.out
      have HBW:=Lib.hid (HB2.out.trans (HBL.out.mono HB2.out.size))
      by_cases hlt:k<xs.length
      ·obtain ⟨x,hx⟩:∃ x,xs[k]? = some x:=⟨_,List.getElem?_eq_getElem hlt⟩
       obtain ⟨y,hy⟩:∃ y,cs[k]? = some y:=⟨_,List.getElem?_eq_getElem (by omega)⟩
       obtain ⟨b1,o1,rfl,hb1,hc1⟩:=(HX.out.below HBW.out).2.2 (by omega)
       obtain ⟨b2,o2,rfl,hb2,hc2⟩:=(HCR.out.below HBL.out).2.2 (by omega)
       have hcx:=hc1 k x hx
       have hcy:=hc2 k y hy
       have hyz:=HCS.out y (List.mem_of_getElem? hy)
       have HZ:=Lib.hid (zip_get hx hy)
       clear hc1 hc2 hx hy hb1 hb2
       cases hmo:mpOk x y with
       | false =>
        have HM2:=Lib.hid (ok_miss (g:=mpOk) HZ.out hmo)
        rw [HM2.out]
        go_wp2_with (go_at_call 96;refine (matchPart_any x y _ (by omega)).mono ?_;rintro e w' ⟨rfl,rfl⟩)
        go_ret2
        exact ⟨fun h=>(by cases h),fun _=>⟨rfl,HBW.out⟩⟩
       | true =>
        have HM2:=Lib.hid (ok_step HZ.out HOK.out hmo)
        have hstep:=caps_step (st:=stB) (f:=mpCap) HZ.out
        cases hst:stB x with
        | false =>
         rw [hst] at hstep
         simp only [Bool.false_eq_true,if_false,List.append_nil] at hstep
         have HN:=Lib.hid hstep
         clear hstep
         go_wp2_with (first
          | (go_at_call 96;refine (matchPart_any x y _ (by omega)).mono ?_;rintro e w' ⟨rfl,rfl⟩)
          | (go_at_call 97;refine (isStar_any x _).mono ?_;rintro e w' ⟨rfl,rfl⟩))
         go_roundw
         case rel=>exact ⟨k+1,by omega,by go_num,Lib.hid (by rw [HN.out];exact HO.out),HM2,HBL⟩
         case measure=>simp [intOf];omega
        | true =>
         rw [hst] at hstep
         simp only [if_true] at hstep
         have HN:=Lib.hid hstep
         clear hstep
         have hcl2:(capsOf stB mpCap ((xs.zip cs).take k)).length+[mpCap x y].length≤1000000:=by
          have:=caps_len stB mpCap ((xs.zip cs).take k)
          rw [List.length_take] at this
          simp only [List.length_singleton]
          omega
         have HCL:=Lib.hid hcl2
         have hsz2:=HBL.out.size
         clear hcl2
         go_wp2_with (first
          | (go_at_call 96;refine (matchPart_any x y _ (by omega)).mono ?_;rintro e w' ⟨rfl,rfl⟩)
          | (go_at_call 97;refine (isStar_any x _).mono ?_;rintro e w' ⟨rfl,rfl⟩)
          | (at_builtin;refine wpList_append_texts rfl _ _ rfl w2.heap.size _ _ [mpCap x y] _ 1 rfl rfl (HO.out.below (below_alloc _ _)) (RT.one _ _ _) HCL.out (by simp;omega) ?_;intro v1 w3 hown hg _;have HBL2:=Lib.hid ((HBL.out.alloc HBL.out.size _).grown hg (by simp;omega) HO.out.own);have HOW:=Lib.hid hown;clear hown hg))
         go_roundw
         case rel=>exact ⟨k+1,by omega,by go_num,Lib.hid (by rw [HN.out];exact HOW.out),HM2,HBL2⟩
         case measure=>simp [intOf];omega
      ·have HOK2:Hid (okOf mpOk (xs.zip cs)=true):=Lib.hid (by
        have:=HOK.out
        rwa [List.take_of_length_le (by have:=HZL.out;omega)] at this)
       have HO2:Hid (OT wr w2.heap.size u9 (capsOf stB mpCap (xs.zip cs))):=Lib.hid (by
        have:=HO.out
        rwa [List.take_of_length_le (by have:=HZL.out;omega)] at this)
       obtain ⟨C,cc,rfl,hrt⟩:=HO2.out.read
       go_wp2_with fail
       go_ret2
       exact ⟨fun _=>⟨_,_,rfl,hrt,HBW.out⟩,fun h=>absurd (HOK2.out.symm.trans h) (by decide)⟩
    | true =>
     simp only [if_true]
     go_enter Tryz.func70,Tryz.ntmps70
     go_wp2_with (first
      | (go_at_call 95;refine (HSP.out _ (HM.out.below (below_alloc _ _))).mono ?_;rintro e w1 hret;obtain ⟨B,d,rfl,hr,hb⟩:=hret.1 hv;have P1:=Lib.hid ((PX.new w (.slice A xs.length c) _ _).below hb);obtain ⟨p1,p2,p3,p4,p5⟩:=P1.out;have HB1:=Lib.hid ((below_alloc w _).trans (hb.mono (below_alloc w _).size));clear hb hret)
      | (go_at_call 77;refine (HCK.out _ _ _ (HX.out.below HB1.out)).mono ?_;rintro e w2 ⟨rfl,hb2⟩;have P2:=Lib.hid (P1.out.below hb2);obtain ⟨q1,q2,q3,q4,q5⟩:=P2.out))
     have HB2:=Lib.hid (HB1.out.trans (hb2.mono HB1.out.size))
     have HCR:=Lib.hid (hr.below hb2)
     have hd1:=hr.1
     have hd2:=hr.2.1
     clear hr hb2
     go_loopw [9,45] (fun cv i wr=>∃ k:Nat,k≤xs.length∧i=.int .i64 k∧Hid (OT wr w2.heap.size cv (capsOf stB mpCap ((xs.zip cs).take k)))∧Hid (okOf mpOk ((xs.zip cs).take k)=true)∧Hid (Below w2.heap.size w2 wr)) (fun _ i _=>xs.length-(intOf i).toNat)
     case atStart=>exact ⟨0,Nat.zero_le _,rfl,Lib.hid (OT.nil _ _),Lib.hid rfl,Lib.hid (Below.refl _ _)⟩
     case round =>
      obtain ⟨k,hk,rfl,HO,HOK,HBL⟩:=hrel
      obtain ⟨z1,z2,z3,z4,z5⟩:=P2.out.below HBL.out
      have HBW:=Lib.hid (HB2.out.trans (HBL.out.mono HB2.out.size))
      by_cases hlt:k<xs.length
      ·obtain ⟨x,hx⟩:∃ x,xs[k]? = some x:=⟨_,List.getElem?_eq_getElem hlt⟩
       obtain ⟨y,hy⟩:∃ y,cs[k]? = some y:=⟨_,List.getElem?_eq_getElem (by omega)⟩
       obtain ⟨b1,o1,rfl,hb1,hc1⟩:=(HX.out.below HBW.out).2.2 (by omega)
       obtain ⟨b2,o2,rfl,hb2,hc2⟩:=(HCR.out.below HBL.out).2.2 (by omega)
       have hcx:=hc1 k x hx
       have hcy:=hc2 k y hy
       have hyz:=HCS.out y (List.mem_of_getElem? hy)
       have HZ:=Lib.hid (zip_get hx hy)
       clear hc1 hc2 hx hy hb1 hb2
       cases hmo:mpOk x y with
       | false =>
        have HM2:=Lib.hid (ok_miss (g:=mpOk) HZ.out hmo)
        rw [HM2.out]
        go_wp2_with (go_at_call 96;refine (matchPart_any x y _ (by omega)).mono ?_;rintro e w' ⟨rfl,rfl⟩)
        go_ret2
        exact ⟨fun h=>(by cases h),fun _=>⟨rfl,HBW.out⟩⟩
       | true =>
        have HM2:=Lib.hid (ok_step HZ.out HOK.out hmo)
        have hstep:=caps_step (st:=stB) (f:=mpCap) HZ.out
        cases hst:stB x with
        | false =>
         rw [hst] at hstep
         simp only [Bool.false_eq_true,if_false,List.append_nil] at hstep
         have HN:=Lib.hid hstep
         clear hstep
         go_wp2_with (first
          | (go_at_call 96;refine (matchPart_any x y _ (by omega)).mono ?_;rintro e w' ⟨rfl,rfl⟩)
          | (go_at_call 97;refine (isStar_any x _).mono ?_;rintro e w' ⟨rfl,rfl⟩))
         go_roundw
         case rel=>exact ⟨k+1,by omega,by go_num,Lib.hid (by rw [HN.out];exact HO.out),HM2,HBL⟩
         case measure=>simp [intOf];omega
        | true =>
         rw [hst] at hstep
         simp only [if_true] at hstep
         have HN:=Lib.hid hstep
         clear hstep
         have hcl2:(capsOf stB mpCap ((xs.zip cs).take k)).length+[mpCap x y].length≤1000000:=by
          have:=caps_len stB mpCap ((xs.zip cs).take k)
          rw [List.length_take] at this
          simp only [List.length_singleton]
          omega
         have HCL:=Lib.hid hcl2
         have hsz2:=HBL.out.size
         clear hcl2
         go_wp2_with (first
          | (go_at_call 96;refine (matchPart_any x y _ (by omega)).mono ?_;rintro e w' ⟨rfl,rfl⟩)
          | (go_at_call 97;refine (isStar_any x _).mono ?_;rintro e w' ⟨rfl,rfl⟩)
          | (at_builtin;refine wpList_append_texts rfl _ _ rfl w2.heap.size _ _ [mpCap x y] _ 1 rfl rfl (HO.out.below (below_alloc _ _)) (RT.one _ _ _) HCL.out (by simp;omega) ?_;intro v1 w3 hown hg _;have HBL2:=Lib.hid ((HBL.out.alloc HBL.out.size _).grown hg (by simp;omega) HO.out.own);have HOW:=Lib.hid hown;clear hown hg))
         go_roundw
         case rel=>exact ⟨k+1,by omega,by go_num,Lib.hid (by rw [HN.out];exact HOW.out),HM2,HBL2⟩
         case measure=>simp [intOf];omega
      ·have HOK2:Hid (okOf mpOk (xs.zip cs)=true):=Lib.hid (by
        have:=HOK.out
        rwa [List.take_of_length_le (by have:=HZL.out;omega)] at this)
       have HO2:Hid (OT wr w2.heap.size u9 (capsOf stB mpCap (xs.zip cs))):=Lib.hid (by
        have:=HO.out
        rwa [List.take_of_length_le (by have:=HZL.out;omega)] at this)
       have hlt2:xs.length<cs.length:=of_decide_eq_true HRB.out
       obtain ⟨b2,o2,rfl,hb2,hc2⟩:=(HCR.out.below HBL.out).2.2 (by omega)
       clear hb2 hc2
       have hjl:(cs.drop xs.length).length=cs.length-xs.length:=List.length_drop
       have hj:=join_any (some ⟨b2,o2+xs.length,none⟩) (d-xs.length) (cs.drop xs.length) ⟨#[47]⟩ wr ((HCR.out.below HBL.out).drop xs.length (by omega)) (by rw [hjl];omega) HJS.out
       rw [hjl] at hj
       have HJ:Hid (Calls Tryz.prog 98 #[.slice (some ⟨b2,o2+xs.length,none⟩) (cs.length-xs.length) (d-xs.length),.string ⟨#[47]⟩] wr fun e w'=>e=.returned (.string (joinT (cs.drop xs.length)))∧Below wr.heap.size wr w'):=Lib.hid hj
       clear hj hjl
       have hcl2:(capsOf stB mpCap (xs.zip cs)).length+[joinT (cs.drop xs.length)].length≤1000000:=by
        have:=caps_len stB mpCap (xs.zip cs)
        have:=HZL.out
        simp only [List.length_singleton]
        omega
       have HCL:=Lib.hid hcl2
       have hsz2:=HBL.out.size
       clear hcl2
       generalize joinT (cs.drop xs.length)=jt at *
       go_wp2_with (first
        | (go_at_call 98;refine HJ.out.mono ?_;rintro e w4 ⟨rfl,hb4⟩;have hs4:=hb4.size;have HBL4:=Lib.hid (HBL.out.trans (hb4.mono HBL.out.size));have HO4:=Lib.hid (HO2.out.below hb4);clear hb4)
        | (at_builtin;refine wpList_append_texts rfl _ _ rfl w2.heap.size _ _ [jt] _ 1 rfl rfl (HO4.out.below (below_alloc _ _)) (RT.one _ _ _) HCL.out (by simp;omega) ?_;intro v1 w3 hown hg _;have HBL2:=Lib.hid ((HBL4.out.alloc HBL4.out.size _).grown hg (by simp;omega) HO4.out.own);have HOW:=Lib.hid hown;clear hown hg;obtain ⟨C,cc,rfl,hrt⟩:=HOW.out.read;have HRT:=Lib.hid hrt;clear hrt))
       go_ret2
       exact ⟨fun _=>⟨C,cc,by rw [List.length_append];rfl,HRT.out,HB2.out.trans (HBL2.out.mono HB2.out.size)⟩,fun h=>absurd (HOK2.out.symm.trans h) (by decide)⟩
  ·have hckB:(checkP xs r != 0)=true:=by rw [bne_iff_ne];exact hck
   have HO:Hid (matchOk mpOk xs r s=false):=Lib.hid (by unfold matchOk;rw [hv,beq_eq_false_iff_ne.2 hck];rfl)
   rw [HO.out]
   generalize checkP xs r=n at *
   go_enter Tryz.func70,Tryz.ntmps70
   go_wp2_with (first
    | (go_at_call 95;refine (HSP.out _ (HM.out.below (below_alloc _ _))).mono ?_;rintro e w1 hret;obtain ⟨B,d,rfl,hr,hb⟩:=hret.1 hv;have P1:=Lib.hid ((PX.new w (.slice A xs.length c) (.bool r) _).below hb);obtain ⟨p1,p2,p3,p4,p5⟩:=P1.out;have HB1:=Lib.hid ((below_alloc w _).trans (hb.mono (below_alloc w _).size));clear hb hret)
    | (go_at_call 77;refine (HCK.out _ _ _ (HX.out.below HB1.out)).mono ?_;rintro e w2 ⟨rfl,hb2⟩;obtain ⟨q1,q2,q3,q4,q5⟩:=P1.out.below hb2))
   go_ret2
   exact ⟨fun h=>(by cases h),fun _=>⟨rfl,HB1.out.trans (hb2.mono HB1.out.size)⟩⟩
open Go.RowKit
open Pm
theorem comp_42 {x:ByteArray} (h:comp x.data.toList=true):stB x=false:=by
 unfold stB Lib.hasPrefix
 revert h
 generalize x.data.toList=l
 intro h
 cases l with
 | nil=>cases h
 | cons c r =>
  rw [Bool.eq_false_iff]
  intro k
  simp only [List.isPrefixOf,Bool.and_true,beq_iff_eq] at k
  subst k
  simp [comp] at h
  have:=h.1
  revert this
  decide
theorem star_agree {p:ByteArray} (h:partB p=true):starOk p=stB p:=by
 unfold partB at h
 cases hs:starOk p with
 | true =>
  unfold starOk at hs
  rw [Bool.and_eq_true] at hs
  exact hs.1.symm
 | false =>
  rw [hs,Bool.false_or] at h
  exact (comp_42 h).symm
theorem comp_prefix {l:List UInt8} (h:comp l=true) (n:Nat):comp (l.take n)=!(l.take n).isEmpty:=by
 cases l with
 | nil=>cases h
 | cons c r =>
  cases n with
  | zero=>rfl
  | succ n =>
   simp only [List.take_succ_cons,List.isEmpty_cons,Bool.not_false]
   simp only [comp,Bool.and_eq_true] at h ⊢
   refine ⟨h.1,?_⟩
   rw [List.all_eq_true] at h ⊢
   intro x hx
   refine h.2 x ?_
   rcases List.mem_cons.1 hx with rfl|hx
   ·exact List.mem_cons_self ..
   ·exact List.mem_cons_of_mem _ (List.mem_of_mem_take hx)
theorem parts_all {xs:List ByteArray} (h:partsOk xs=true):∀ x∈xs,partB x=true:=by
 cases xs with
 | nil=>cases h
 | cons y r =>
  unfold partsOk at h
  rw [Bool.and_eq_true,List.all_eq_true] at h
  intro x hx
  rcases List.mem_cons.1 hx with rfl|hx
  ·unfold partB;rw [h.1,Bool.or_true]
  ·exact h.2 x hx
open Go.RowKit
open Pm
def aT:ByteArray:=⟨#[47,47,97,47,42,46,112,115,100,47,46,46,46]⟩
def aP:ByteArray:=⟨#[47,47,97,47,120,46,112,115,100,47,98,47,99]⟩
def aXs:List ByteArray:=[⟨#[97]⟩,⟨#[42,46,112,115,100]⟩]
def aCs:List ByteArray:=[⟨#[120]⟩,⟨#[98,47,99]⟩]
theorem a1:parseN aT=0:=by decide +kernel
theorem a2:ppartsB aT=aXs:=by decide +kernel
theorem a3:prestB aT=true:=by decide +kernel
theorem a4:matchOk mpOk aXs true aP=true:=by decide +kernel
theorem a5:capsB stB mpCap aXs true aP=aCs:=by decide +kernel
open Go.RowKit
open Pm
theorem below_al {w w':World} (h:Below w.heap.size w w') (o:Obj):Below w.heap.size w (w'.alloc o):=h.alloc h.size o
theorem bB {a w:World} (h:Below a.heap.size a w:=by repeat (first|exact Below.refl _ _|apply Below.drew|apply below_drewN|apply below_al)):Below a.heap.size a w:=h
theorem lh {p:Prop} (h:p):Hid p:=Lib.hid h
theorem ba (w:World) (o:Obj):Below w.heap.size w (w.alloc o):=below_alloc w o
theorem gE {α:Type} {l:List α} {i:Nat} (h:i<l.length):l[i]? = some l[i]:=List.getElem?_eq_getElem h
theorem mG {α:Type} {l:List α} {i:Nat} {a:α} (h:l[i]? = some a):a∈l:=List.mem_of_getElem? h
theorem sI {α:Type} {l:List α} {i:Nat} {a:α}:l[i]? = some a↔∃ h:i<l.length,l[i]=a:=List.getElem?_eq_some_iff
theorem sL {α:Type}:(∀ (l:List α) (i:Nat) (a:α),l.toArray.setIfInBounds i a=(l.set i a).toArray)∧(∀ (x:α) (xs:List α) (a:α),(x::xs).set 0 a=a::xs)∧(∀ (x:α) (xs:List α) (i:Nat) (a:α),(x::xs).set (i+1) a=x::xs.set i a):=⟨fun _ _ _=>List.setIfInBounds_toArray ..,fun _ _ _=>List.set_cons_zero,fun _ _ _ _=>List.set_cons_succ⟩
theorem go3 {w v w':World} (h1:Below w.heap.size w v) (h2:Below v.heap.size v w'):Below w.heap.size w w':=h1.trans (h2.mono h1.size)
def Kept (I:World→Prop):Prop:=∀ w w':World,I w→Below w.heap.size w w'→I w'
theorem Kept.both {P Q:World→Prop} (h:Kept P) (k:Kept Q):Kept (fun w=>P w∧Q w):=fun w w' hw hb=>⟨h w w' hw.1 hb,k w w' hw.2 hb⟩
theorem kept_below (W:World):Kept (fun w=>Below W.heap.size W w):=fun w w' h hb=>h.trans (hb.mono h.size)
theorem kept_rt (A:Option Addr) (c:Nat) (xs:List ByteArray):Kept (fun w=>RT w A c xs):=fun w w' h hb=>h.below hb
theorem kept_px (g:Nat) (u v:Value):Kept (fun w=>PX w g u v):=fun w w' h hb=>h.below hb
theorem kept_ml:Kept ML:=fun w w' h hb=>h.below hb
def At (I:World→Prop) (w:World):Prop:=Kept I∧I w
theorem At.out {I:World→Prop} {w:World} (h:At I w):I w:=h.2
theorem At.go {I:World→Prop} {w w':World} (h:At I w) (hb:Below w.heap.size w w'):At I w':=⟨h.1,h.1 w w' h.2 hb⟩
theorem At.go2 {I:World→Prop} {w v w':World} (h:At I w) (h1:Below w.heap.size w v) (h2:Below v.heap.size v w'):At I w':=h.go (h1.trans (h2.mono h1.size))
def P1 (W:World) (A:Option Addr) (c:Nat) (xs:List ByteArray) (r:Bool) (w:World):Prop :=
 PX w W.heap.size (.slice A xs.length c) (.bool r)∧RT w A c xs∧ML w∧Below W.heap.size W w
theorem P1.kept (W:World) (A:Option Addr) (c:Nat) (xs:List ByteArray) (r:Bool):Kept (P1 W A c xs r) :=
 (kept_px _ _ _).both ((kept_rt _ _ _).both (kept_ml.both (kept_below W)))
theorem P1.enter {W:World} {A:Option Addr} {c:Nat} {xs:List ByteArray} (h:RT W A c xs) (m:ML W) (r:Bool) (T:TypeId) :
 At (P1 W A c xs r) (W.alloc (.cells #[.slice A xs.length c,.bool r] T)) :=
 ⟨P1.kept _ _ _ _ _,PX.new W _ _ _,h.below (ba _ _),m.below (ba _ _),ba _ _⟩
theorem P1.cells {W:World} {A:Option Addr} {c:Nat} {xs:List ByteArray} {r:Bool} {w:World} (h:At (P1 W A c xs r) w) :
 w.cell? ⟨W.heap.size,0,none⟩=some (.slice A xs.length c)∧w.cell? ⟨W.heap.size,1,none⟩=some (.bool r):=⟨h.out.1.1,h.out.1.2.1⟩
theorem P1.x {W:World} {A:Option Addr} {c:Nat} {xs:List ByteArray} {r:Bool} {w:World} (h:At (P1 W A c xs r) w):RT w A c xs:=h.out.2.1
theorem P1.m {W:World} {A:Option Addr} {c:Nat} {xs:List ByteArray} {r:Bool} {w:World} (h:At (P1 W A c xs r) w):ML w:=h.out.2.2.1
theorem P1.b {W:World} {A:Option Addr} {c:Nat} {xs:List ByteArray} {r:Bool} {w:World} (h:At (P1 W A c xs r) w):Below W.heap.size W w:=h.out.2.2.2
def P2 (W:World) (A:Option Addr) (c:Nat) (xs:List ByteArray) (r:Bool) (B:Option Addr) (d:Nat) (ys:List ByteArray) (t:Bool) (w:World):Prop :=
 PX w W.heap.size (.slice A xs.length c) (.bool r)∧PX w (W.heap.size+1) (.slice B ys.length d) (.bool t)∧RT w A c xs∧RT w B d ys∧ML w∧Below W.heap.size W w
theorem P2.kept (W:World) (A:Option Addr) (c:Nat) (xs:List ByteArray) (r:Bool) (B:Option Addr) (d:Nat) (ys:List ByteArray) (t:Bool):Kept (P2 W A c xs r B d ys t) :=
 (kept_px _ _ _).both ((kept_px _ _ _).both ((kept_rt _ _ _).both ((kept_rt _ _ _).both (kept_ml.both (kept_below W)))))
theorem P2.enter {W:World} {A:Option Addr} {c:Nat} {xs:List ByteArray} {B:Option Addr} {d:Nat} {ys:List ByteArray} (h:RT W A c xs) (k:RT W B d ys) (m:ML W) (r t:Bool) (T:TypeId) :
 At (P2 W A c xs r B d ys t) ((W.alloc (.cells #[.slice A xs.length c,.bool r] T)).alloc (.cells #[.slice B ys.length d,.bool t] T)) :=
 ⟨P2.kept _ _ _ _ _ _ _ _ _,(PX.new W _ _ _).below (ba _ _),by simpa using PX.new (W.alloc (.cells #[.slice A xs.length c,.bool r] T)) (.slice B ys.length d) (.bool t) T,
  h.below (below_alloc2 _ _ _),k.below (below_alloc2 _ _ _),m.below (below_alloc2 _ _ _),below_alloc2 _ _ _⟩
theorem P2.cells {W:World} {A:Option Addr} {c:Nat} {xs:List ByteArray} {r:Bool} {B:Option Addr} {d:Nat} {ys:List ByteArray} {t:Bool} {w:World} (h:At (P2 W A c xs r B d ys t) w) :
 w.cell? ⟨W.heap.size,0,none⟩=some (.slice A xs.length c)∧w.cell? ⟨W.heap.size,1,none⟩=some (.bool r)∧w.cell? ⟨W.heap.size+1,0,none⟩=some (.slice B ys.length d)∧w.cell? ⟨W.heap.size+1,1,none⟩=some (.bool t) :=
 ⟨h.out.1.1,h.out.1.2.1,h.out.2.1.1,h.out.2.1.2.1⟩
theorem P2.x {W:World} {A:Option Addr} {c:Nat} {xs:List ByteArray} {r:Bool} {B:Option Addr} {d:Nat} {ys:List ByteArray} {t:Bool} {w:World} (h:At (P2 W A c xs r B d ys t) w):RT w A c xs:=h.out.2.2.1
theorem P2.y {W:World} {A:Option Addr} {c:Nat} {xs:List ByteArray} {r:Bool} {B:Option Addr} {d:Nat} {ys:List ByteArray} {t:Bool} {w:World} (h:At (P2 W A c xs r B d ys t) w):RT w B d ys:=h.out.2.2.2.1
theorem P2.m {W:World} {A:Option Addr} {c:Nat} {xs:List ByteArray} {r:Bool} {B:Option Addr} {d:Nat} {ys:List ByteArray} {t:Bool} {w:World} (h:At (P2 W A c xs r B d ys t) w):ML w:=h.out.2.2.2.2.1
theorem P2.b {W:World} {A:Option Addr} {c:Nat} {xs:List ByteArray} {r:Bool} {B:Option Addr} {d:Nat} {ys:List ByteArray} {t:Bool} {w:World} (h:At (P2 W A c xs r B d ys t) w):Below W.heap.size W w:=h.out.2.2.2.2.2
open Go.RowKit
open Pm
def textB (xs:List ByteArray) (r:Bool):ByteArray:=if r=true then (⟨#[47,47]⟩++joinT xs)++⟨#[47,46,46,46]⟩ else ⟨#[47,47]⟩++joinT xs
theorem text_any (A:Option Addr) (c:Nat) (xs:List ByteArray) (r:Bool) (w:World) (h:RT w A c xs) (hl:xs.length≤20) (hz:∀ x∈xs,x.size≤1000000) :
 Calls Tryz.prog 104 #[.agg #[.slice A xs.length c,.bool r]] w fun e w'=>e=.returned (.string (textB xs r))∧Below w.heap.size w w':=by
 have hlen:(Lib.join (datj xs) [47]).length≤100000000:=by
  have h5:=join_le hz
  have h6:xs.length * (1000000+1)≤20 * (1000000+1):=Nat.mul_le_mul_right _ hl
  omega
 have HJ:Hid (∀ W,RT W A c xs→Calls Tryz.prog 98 #[.slice A xs.length c,.string ⟨#[47]⟩] W fun e w'=>e=.returned (.string (joinT xs))∧Below W.heap.size W w'):=lh (fun W hW=>join_any A c xs ⟨#[47]⟩ W hW (by omega) hlen)
 have hsz:(joinT xs).size≤100000000:=by rw [joinT_size];exact hlen
 have HT:Hid (textB xs r=if r=true then (⟨#[47,47]⟩++joinT xs)++⟨#[47,46,46,46]⟩ else ⟨#[47,47]⟩++joinT xs):=lh rfl
 have HX:=lh h
 clear h hz hlen
 generalize joinT xs=jt at *
 cases r <;>
 ·go_enter Tryz.func104,Tryz.ntmps104
  go_wp2_with (go_at_call 98;refine (HJ.out _ (HX.out.below (ba _ _))).mono ?_;rintro e w1 ⟨rfl,hb⟩;obtain ⟨p1,p2,p3,p4,p5⟩:=(PX.new w (.slice A xs.length c) (.bool _) _).below hb)
  go_ret
  exact ⟨ret_str HT.out.symm,(ba w _).trans (hb.mono (ba w _).size)⟩
open Go.RowKit
open Pm
def insB (a b:ByteArray):Bool:=if a=b then true else if stB b=false then false else if stB a=true then Lib.hasSuffix (tlB a).data.toList (tlB b).data.toList else mpOk b a
theorem partWithin_any (a b:ByteArray) (w:World) (ha:a.size≤9223372036854775807) (hb:b.size≤9223372036854775807) :
 Calls Tryz.prog 121 #[.string a,.string b] w fun e w'=>e=.returned (.bool (insB a b))∧Below w.heap.size w w':=by
 have HI:Hid (insB a b=if a=b then true else if stB b=false then false else if stB a=true then Lib.hasSuffix (tlB a).data.toList (tlB b).data.toList else mpOk b a):=lh rfl
 by_cases he:a=b
 ·have heB:(a.toList==b.toList)=true:=by rw [text_eqB,decide_eq_true he]
  rw [if_pos he] at HI
  rw [HI.out]
  clear he
  go_enter Tryz.func121,Tryz.ntmps121
  go_wp2_with fail
  go_ret
  exact ⟨rfl,Below.refl _ _⟩
 ·have heB:(a.toList==b.toList)=false:=by rw [text_eqB,decide_eq_false he]
  rw [if_neg he] at HI
  clear he
  cases hsb:stB b with
  | false =>
   rw [hsb,if_pos rfl] at HI
   rw [HI.out]
   go_enter Tryz.func121,Tryz.ntmps121
   go_wp2_with (go_at_call_of 97 (Value.string b);refine (isStar_any b _).mono ?_;rintro e w' ⟨rfl,rfl⟩)
   go_ret
   exact ⟨rfl,Below.refl _ _⟩
  | true =>
   rw [hsb,if_neg (by decide)] at HI
   have hpb:=stB_pos hsb
   cases hsa:stB a with
   | false =>
    rw [hsa,if_neg (by decide)] at HI
    rw [HI.out]
    go_enter Tryz.func121,Tryz.ntmps121
    go_wp2_with (first
     | (go_at_call_of 97 (Value.string b);refine (isStar_any b _).mono ?_;rintro e w' ⟨rfl,rfl⟩)
     | (go_at_call_of 97 (Value.string a);refine (isStar_any a _).mono ?_;rintro e w' ⟨rfl,rfl⟩)
     | (go_at_call 96;refine (matchPart_any b a _ ha).mono ?_;rintro e w' ⟨rfl,rfl⟩))
    go_ret
    exact ⟨rfl,Below.refl _ _⟩
   | true =>
    rw [hsa,if_pos rfl] at HI
    rw [HI.out]
    have hpa:=stB_pos hsa
    have htz:=tlB_size a
    have HS:Hid (∀ W,Calls Tryz.prog 143 #[.string (a.extract 1 a.size),.string (b.extract 1 b.size)] W fun e w'=>e=.returned (.bool (Lib.hasSuffix (tlB a).data.toList (tlB b).data.toList))∧W=w'):=lh (fun W=>hasSuffix_any (tlB a) (tlB b) W (by omega))
    go_enter Tryz.func121,Tryz.ntmps121
    go_wp2_with (first
     | (go_at_call_of 97 (Value.string b);refine (isStar_any b _).mono ?_;rintro e w' ⟨rfl,rfl⟩)
     | (go_at_call_of 97 (Value.string a);refine (isStar_any a _).mono ?_;rintro e w' ⟨rfl,rfl⟩))
    go_quiet ((go_at_call 143;exact quiet_left (HS.out _)))
    go_wp2_with fail
    go_ret
    exact ⟨rfl,by repeat (first|exact Below.refl _ _|apply Below.drew|apply below_drewN)⟩
end Go.Proofs.YtelkmeiepliecaaGreatDoor
