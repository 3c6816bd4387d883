/-
  Part 12 of the proof.
-/
import Derived.Test.YtelkmeiepliecaaGreatDoorU11
set_option linter.unusedSimpArgs false
set_option linter.unusedVariables false
set_option maxHeartbeats 16000000
namespace Go.Proofs.YtelkmeiepliecaaGreatDoor
open Go.RowKit
open Pm
theorem rest_one {bs ls:List (List ByteArray×Bool)} {st:Nat} {p:List ByteArray×Bool} (h:ls=bs.drop st) (hl:bs.length=st+1) (hp:bs[st]? = some p):ls=[p]:=by
 rw [h,List.drop_eq_getElem_cons (by omega),List.drop_eq_nil_of_le (by omega)]
 obtain ⟨h1,h2⟩:=sI.1 hp
 rw [h2]
theorem sub_limit (A B:Option Addr) (c d:Nat) (xs zs:List ByteArray) (q:Bool) (bs:List (List ByteArray×Bool)) (w:World) (h:RT w A c xs) (k:BT w B d bs)
 (hsx:∀ x∈xs,x.size≤9223372036854775807) (hbz:∀ b∈bs,∀ x∈b.1,x.size≤9223372036854775807) (hn:checkP xs true=0) (hl:bs.length=wildB stB xs true) (hok:BO (countB stB xs) bs bs.length)
 (hsx5:∀ x∈xs,x.size≤5000) (hbz5:∀ b∈bs,∀ x∈b.1,x.size≤5000) (hp:bs[countB stB xs]? = some (zs,q)) (hzl:zs.length≤5000) (h12:12<xs.length+zs.length) :
 Calls Tryz.prog 89 #[.agg #[.slice A xs.length c,.bool true],.slice B bs.length d] w (RetP w [] false 31):=by
 have hsum:IntKind.i64.wrap ((xs.length:Int)+(zs.length:Int))=(xs.length:Int)+(zs.length:Int):=by
  have:=(check_zero hn).2.1
  simp only [IntKind.wrap,IntKind.signed,IntKind.bits]
  first|omega|(simp;omega)
 have h12I:(12:Int)<(xs.length:Int)+(zs.length:Int):=by omega
 have HCL:=lh (fun W (h:RT W A c xs)=>clone_any A c xs W h (check_zero hn).1 (by have:=(check_zero hn).2.1;omega))
 have HP:=lh hp
 have HFL:=lh (flC_len stB tlB xs (bs.map hdP))
 have HI:=PS.enter h k true 45
 have HK:=lh (fun W (h:RT W A c xs)=>kinds_any A c xs true W h hsx)
 rw [(kindN_eq hn).1,(kindN_eq hn).2,hn] at HK
 have hx12:=(check_zero hn).2.1
 have hx0:=(check_zero hn).1
 have hst:=count_le stB xs
 have HBZ:=lh hbz
 have hx1:=h.1
 have hx2:=h.2.1
 have hy1:=k.1
 have hy2:=k.2.1
 unfold wildB at hl
 have HGOOD:=lh hok
 have HSX5:=lh hsx5
 have HBZ5:=lh hbz5
 generalize hst0:countB stB xs=st at *
 have HST:=lh hst0
 clear h k hsx hbz hn hok hsx5 hbz5 hst0 hp
 have hl2:(bs.length:Int)=(st:Int)+1:=by simp at hl;omega
 have hl3:((bs.length:Int) != (st:Int)+1)=false:=by rw [hl2];simp
 have hl4:((bs.length:Int)==(st:Int)+1)=true:=by rw [hl2];simp
 have HLE:Hid (st≤bs.length):=lh (by omega)
 have HL1:Hid (bs.length=st+1):=lh (by omega)
 clear hl hl2
 go_enter Tryz.func89,Tryz.ntmps89
 go_wp2_with (go_at_call 90;refine (HK.out _ (PS.x (HI.go bB))).mono ?_;rintro e w1 ⟨rfl,hb⟩;replace HI:=HI.go2 bB hb;clear hb;obtain ⟨⟨p1,p2,p3,p4,p5⟩,⟨r1,r2,r3,r4,r5⟩⟩:=PS.cells HI)
 go_loopw [45] (fun i wr=>∃ k:Nat,k≤bs.length∧i=.int .i64 k∧At (PS w A c xs true B d bs) wr∧Hid (BO st bs k)) (fun i _=>bs.length-(intOf i).toNat)
 case atStart=>exact ⟨0,Nat.zero_le _,rfl,HI.go bB,lh (BO.zero _ _)⟩
 case round =>
  obtain ⟨k,hk,rfl,HJ,HO⟩:=hrel
  clear HI p1 p2 p3 p4 p5 r1 r2 r3 r4 r5
  obtain ⟨⟨p1,p2,p3,p4,p5⟩,⟨r1,r2,r3,r4,r5⟩⟩:=PS.cells HJ
  by_cases hlt:k<bs.length
  ·obtain ⟨⟨zs,q⟩,hp⟩:∃ p,bs[k]? = some p:=⟨_,gE hlt⟩
   obtain ⟨b1,o1,rfl,hb1,hc1⟩:=(PS.y HJ).2.2 (by omega)
   obtain ⟨C,e,x1,x2,x3⟩:=hc1 k _ hp
   have hlI:(k:Int)<(bs.length:Int):=by omega
   have hz1:=x3.1
   have hz2:=x3.2.1
   have HR:At (fun w=>RT w C e zs) wr:=⟨kept_rt _ _ _,x3⟩
   have HZS:=lh (HBZ.out _ (mG hp))
   have HP:=lh hp
   have hks:((k:Int)==(st:Int))=decide (k=st):=by
    by_cases e:k=st
    ·rw [e];simp
    ·rw [decide_eq_false e,beq_eq_false_iff_ne];omega
   clear hc1 hp x3
   cases hbo:bindOk zs q (decide (k=st)) with
   | true =>
    have HB:=lh (HO.out.step HP.out hbo)
    have HBI:=lh (fun w h=>isBinding_any C e zs q (decide (k=st)) w h HZS.out)
    rw [hbo] at HBI
    clear hbo
    generalize decide (k=st)=kk at *
    go_wp2_with (go_at_call 124;refine (HBI.out _ (HR.go bB).out).mono ?_;rintro e w3 ⟨rfl,hb⟩;replace HJ:=HJ.go2 bB hb;clear hb)
    go_roundw
    case rel=>exact ⟨k+1,by omega,by go_num,HJ,HB⟩
    case measure=>simp [intOf];omega
   | false =>
    have HB:=lh (BO.no HP.out hbo)
    have HBI:=lh (fun w h=>isBinding_any C e zs q (decide (k=st)) w h HZS.out)
    rw [hbo] at HBI
    clear hbo
    generalize decide (k=st)=kk at *
    exact absurd HGOOD.out HB.out
  ·have HOK:Hid (BO st bs bs.length):=lh (by obtain rfl:k=bs.length:=by omega
                                             exact HO.out)
   clear HBZ
   go_wp2_with (go_at_call 85;refine (HCL.out _ (PS.x (HJ.go bB))).mono ?_;rintro e w3 ⟨g,cap,rfl,hoc,hb⟩;obtain ⟨wa,HJ,hoc,hbc⟩:∃ wa,At (PS w A c xs _ B d bs) wa∧OT w3 wa.heap.size (.slice (some ⟨g,0,none⟩) xs.length cap) xs∧Below wa.heap.size wa w3:=⟨_,HJ,hoc,hb⟩;have HOC:=lh hoc;have HBC:=lh hbc;have hgs:=hbc.size;have hgw:g<w3.heap.size:=OT.lt' hoc hx0;clear hoc hbc hb p1 p2 p3 p4 p5 r1 r2 r3 r4 r5;obtain ⟨⟨p1,p2,p3,p4,p5⟩,⟨r1,r2,r3,r4,r5⟩⟩:=PS.cells (HJ.go HBC.out))
   have HO0:=lh (HOC.out.below (ba w3 (.cells #[.slice (some ⟨g,0,none⟩) xs.length cap,.bool false] 45)))
   have HPX0:=lh (PX.new w3 (.slice (some ⟨g,0,none⟩) xs.length cap) (.bool false) 45)
   have HBL0:=lh (HBC.out.alloc hgs (.cells #[.slice (some ⟨g,0,none⟩) xs.length cap,.bool false] 45))
   clear HBC HOC
   go_loopw [1,65] (fun l i wr=>∃ (k:Nat) (ls:List (List ByteArray×Bool)) (done:List ByteArray) (m:Nat) (B':Option Addr) (d':Nat),k≤xs.length∧i=.int .i64 k∧l=.slice B' m d'∧m≤d'∧d'≤9223372036854775807∧Hid (ls.length=m)∧Hid (BT wa B' d' ls)∧Hid (SI stB tlB xs bs k ls done) ∧
    Hid (OT wr wa.heap.size (.slice (some ⟨g,0,none⟩) xs.length cap) (done++xs.drop k))∧Hid (PX wr w3.heap.size (.slice (some ⟨g,0,none⟩) xs.length cap) (.bool false))∧Hid (Below wa.heap.size wa wr)) (fun _ i _=>xs.length-(intOf i).toNat)
   case atStart=>exact ⟨0,bs,[],bs.length,B,d,Nat.zero_le _,rfl,rfl,hy1,hy2,lh rfl,lh (PS.y HJ),lh (SI.start _ _ _ _),lh (by simpa using HO0.out),HPX0,HBL0⟩
   case round =>
    obtain ⟨k,ls,done,m,B',d',hk,rfl,rfl,hmd,hd9,HM,HBT,HS,HOT,HPX,HBL⟩:=hrel
    clear p1 p2 p3 p4 p5 r1 r2 r3 r4 r5 HO0 HPX0 HBL0
    have HQ:=HJ.go HBL.out
    obtain ⟨⟨p1,p2,p3,p4,p5⟩,⟨r1,r2,r3,r4,r5⟩⟩:=PS.cells HQ
    obtain ⟨t1,t2,t3,t4,t5⟩:=HPX.out
    by_cases hlt:k<xs.length
    ·obtain ⟨x,hx⟩:∃ x,xs[k]? = some x:=⟨_,gE hlt⟩
     obtain ⟨hcx,hfx,hg1,hg2,-,hcap,hcap2⟩:=HOT.out.cell (mid_at HS.out.1 hx)
     have hxz:=HSX5.out x (mG hx)
     have HX:=lh hx
     clear hx
     cases hst:stB x with
     | false =>
      have HS2:=lh (HS.out.part HX.out hst)
      go_wp2_with (go_at_call 97;refine (isStar_any x _).mono ?_;rintro e w' ⟨rfl,rfl⟩)
      go_roundw
      case rel=>exact ⟨k+1,ls,done++[x],m,B',d',by omega,by go_num,rfl,hmd,hd9,HM,HBT,HS2,lh (by rw [mid_same HX.out];exact HOT.out),HPX,HBL⟩
      case measure=>simp [intOf];omega
     | true =>
      have hpos:=stB_pos hst
      obtain ⟨p,ls',rfl,hcnt,hp⟩:=HS.out.next HX.out hst (by rw [HST.out];exact HLE.out)
      obtain ⟨y,rfl,hpy⟩:=HGOOD.out.one (by rw [←HST.out];exact hcnt) hp
      have HS2:=lh (HS.out.star HX.out hst)
      have hyz:=HBZ5.out _ (mG hp) y (by simp)
      have hm1:0<m:=by have:=HM.out;simp at this;omega
      have HM2:Hid (ls'.length=m-1):=lh (by have:=HM.out;simp at this;omega)
      obtain ⟨b3,o3,rfl,hb3,hc3⟩:=(HBT.out.below HBL.out).2.2 (by simp)
      obtain ⟨C,n,x1,x2,x3⟩:=hc3 0 _ rfl
      have y1:wr.cell? ⟨b3,o3,none⟩=some (.slice C 1 n):=by simpa using x1
      have n1:=x3.1
      have n2:=x3.2.1
      simp at n1
      obtain ⟨b4,o4,rfl,hb4,hc4⟩:=x3.2.2 (by simp)
      have hcy:wr.cell? ⟨b4,o4,none⟩=some (.string y):=hc4 0 y rfl
      have hlI:(0:Int)<(m:Int):=by omega
      have hkI:(k:Int)<(xs.length:Int):=by omega
      have hgne:g≠w3.heap.size:=by omega
      clear hc3 hc4 x1 x2 x3 hb3 hb4 hcnt hp hpy
      rcases Nat.lt_or_ge 1 d' with hd1|hd1
      ·go_wp2_with (go_at_call 97;refine (isStar_any x _).mono ?_;rintro e w' ⟨rfl,rfl⟩)
       go_region
       all_goals
        go_wp2_with fail
        go_roundw
        case rel=>exact ⟨k+1,ls',done++[y++tlB x],m-1,some ⟨b3,o3+2,none⟩,d'-1,by omega,by go_num,rfl,by omega,by omega,HM2,lh HBT.out.drop1,HS2,lh (by rw [←mid_set HS.out.1 HX.out];exact (HOT.out.set (mid_lt HS.out.1 HX.out) _).below bB),lh ((PX.set_cell HPX.out ⟨g,k,none⟩ hgne _).below bB),lh (HBL.out.setCell (p:=⟨g,k,none⟩) hg1 _).drew⟩
        case measure=>simp [intOf];omega
      ·obtain rfl:d'=1:=by omega
       obtain rfl:m=1:=by omega
       go_wp2_with (go_at_call 97;refine (isStar_any x _).mono ?_;rintro e w' ⟨rfl,rfl⟩)
       go_region
       all_goals
        go_wp2_with fail
        go_roundw
        case rel=>exact ⟨k+1,ls',done++[y++tlB x],0,some ⟨b3,o3,none⟩,0,by omega,by go_num,rfl,by omega,by omega,HM2,lh (by rw [List.eq_nil_of_length_eq_zero HM2.out];exact BT.nil' _ _ _ (by omega)),HS2,lh (by rw [←mid_set HS.out.1 HX.out];exact (HOT.out.set (mid_lt HS.out.1 HX.out) _).below bB),lh ((PX.set_cell HPX.out ⟨g,k,none⟩ hgne _).below bB),lh (HBL.out.setCell (p:=⟨g,k,none⟩) hg1 _).drew⟩
        case measure=>simp [intOf];omega
    ·obtain rfl:k=xs.length:=by omega
     have HD:=lh (HS.out.done (Nat.le_refl _))
     have HRM:Hid (RT wr (some ⟨g,0,none⟩) cap (flC stB tlB xs (bs.map hdP))):=lh (by
      obtain ⟨A',c',e,hrt⟩:=HOT.out.read
      obtain ⟨rfl,_,rfl⟩:=Value.slice.inj e
      rw [List.drop_length,List.append_nil,HD.out.1] at hrt
      exact hrt)
     obtain rfl:=rest_one (ls:=ls) (st:=st) (by rw [HD.out.2,HST.out]) HL1.out HP.out
     obtain rfl:m=1:=by simpa using HM.out.symm
     obtain ⟨b3,o3,rfl,hb3,hc3⟩:=(HBT.out.below HBL.out).2.2 (by simp)
     obtain ⟨C,n,x1,x2,x3⟩:=hc3 0 _ rfl
     have y1:wr.cell? ⟨b3,o3,none⟩=some (.slice C zs.length n):=by simpa using x1
     have y2:wr.cell? ⟨b3,o3+1,none⟩=some (.bool q):=by simpa using x2
     have n1:=x3.1
     have n2:=x3.2.1
     have HRZ:=lh x3
     clear hc3 x1 x2 x3
     go_wp2_with fail
     go_quiet (fail)
     go_wp2_with fail
     refine bodyPost_ret (v:=.tuple #[.agg #[.slice none 0 0,.bool false],.int .i64 31]) (by simp [results,Tryz.results89,go_sem,r1,r2,r3,r4]) rfl ⟨none,0,rfl,RT.nil _ _ _ (by omega),?_⟩
     exact below_box (PS.b (HQ.go bB)) (by omega) _ _
open Go.RowKit
open Pm
theorem sub_rest (A B:Option Addr) (c d:Nat) (xs zs:List ByteArray) (q:Bool) (bs:List (List ByteArray×Bool)) (w:World) (h:RT w A c xs) (k:BT w B d bs)
 (hsx:∀ x∈xs,x.size≤9223372036854775807) (hbz:∀ b∈bs,∀ x∈b.1,x.size≤9223372036854775807) (hn:checkP xs true=0) (hl:bs.length=wildB stB xs true) (hok:BO (countB stB xs) bs bs.length)
 (hsx5:∀ x∈xs,x.size≤5000) (hbz5:∀ b∈bs,∀ x∈b.1,x.size≤5000) (hp:bs[countB stB xs]? = some (zs,q)) (hzl:zs.length≤5000) (h12:¬ 12<xs.length+zs.length) :
 Calls Tryz.prog 89 #[.agg #[.slice A xs.length c,.bool true],.slice B bs.length d] w (RetP w (flC stB tlB xs (bs.map hdP)++zs) q 0):=by
 have hsum:IntKind.i64.wrap ((xs.length:Int)+(zs.length:Int))=(xs.length:Int)+(zs.length:Int):=by
  have:=(check_zero hn).2.1
  simp only [IntKind.wrap,IntKind.signed,IntKind.bits]
  first|omega|(simp;omega)
 have h12I:¬ (12:Int)<(xs.length:Int)+(zs.length:Int):=by omega
 have HCL:=lh (fun W (h:RT W A c xs)=>clone_any A c xs W h (check_zero hn).1 (by have:=(check_zero hn).2.1;omega))
 have HP:=lh hp
 have HFL:=lh (flC_len stB tlB xs (bs.map hdP))
 have HI:=PS.enter h k true 45
 have HK:=lh (fun W (h:RT W A c xs)=>kinds_any A c xs true W h hsx)
 rw [(kindN_eq hn).1,(kindN_eq hn).2,hn] at HK
 have hx12:=(check_zero hn).2.1
 have hx0:=(check_zero hn).1
 have hst:=count_le stB xs
 have HBZ:=lh hbz
 have hx1:=h.1
 have hx2:=h.2.1
 have hy1:=k.1
 have hy2:=k.2.1
 unfold wildB at hl
 have HGOOD:=lh hok
 have HSX5:=lh hsx5
 have HBZ5:=lh hbz5
 generalize hst0:countB stB xs=st at *
 have HST:=lh hst0
 clear h k hsx hbz hn hok hsx5 hbz5 hst0 hp
 have hl2:(bs.length:Int)=(st:Int)+1:=by simp at hl;omega
 have hl3:((bs.length:Int) != (st:Int)+1)=false:=by rw [hl2];simp
 have hl4:((bs.length:Int)==(st:Int)+1)=true:=by rw [hl2];simp
 have HLE:Hid (st≤bs.length):=lh (by omega)
 have HL1:Hid (bs.length=st+1):=lh (by omega)
 clear hl hl2
 go_enter Tryz.func89,Tryz.ntmps89
 go_wp2_with (go_at_call 90;refine (HK.out _ (PS.x (HI.go bB))).mono ?_;rintro e w1 ⟨rfl,hb⟩;replace HI:=HI.go2 bB hb;clear hb;obtain ⟨⟨p1,p2,p3,p4,p5⟩,⟨r1,r2,r3,r4,r5⟩⟩:=PS.cells HI)
 go_loopw [45] (fun i wr=>∃ k:Nat,k≤bs.length∧i=.int .i64 k∧At (PS w A c xs true B d bs) wr∧Hid (BO st bs k)) (fun i _=>bs.length-(intOf i).toNat)
 case atStart=>exact ⟨0,Nat.zero_le _,rfl,HI.go bB,lh (BO.zero _ _)⟩
 case round =>
  obtain ⟨k,hk,rfl,HJ,HO⟩:=hrel
  clear HI p1 p2 p3 p4 p5 r1 r2 r3 r4 r5
  obtain ⟨⟨p1,p2,p3,p4,p5⟩,⟨r1,r2,r3,r4,r5⟩⟩:=PS.cells HJ
  by_cases hlt:k<bs.length
  ·obtain ⟨⟨zs,q⟩,hp⟩:∃ p,bs[k]? = some p:=⟨_,gE hlt⟩
   obtain ⟨b1,o1,rfl,hb1,hc1⟩:=(PS.y HJ).2.2 (by omega)
   obtain ⟨C,e,x1,x2,x3⟩:=hc1 k _ hp
   have hlI:(k:Int)<(bs.length:Int):=by omega
   have hz1:=x3.1
   have hz2:=x3.2.1
   have HR:At (fun w=>RT w C e zs) wr:=⟨kept_rt _ _ _,x3⟩
   have HZS:=lh (HBZ.out _ (mG hp))
   have HP:=lh hp
   have hks:((k:Int)==(st:Int))=decide (k=st):=by
    by_cases e:k=st
    ·rw [e];simp
    ·rw [decide_eq_false e,beq_eq_false_iff_ne];omega
   clear hc1 hp x3
   cases hbo:bindOk zs q (decide (k=st)) with
   | true =>
    have HB:=lh (HO.out.step HP.out hbo)
    have HBI:=lh (fun w h=>isBinding_any C e zs q (decide (k=st)) w h HZS.out)
    rw [hbo] at HBI
    clear hbo
    generalize decide (k=st)=kk at *
    go_wp2_with (go_at_call 124;refine (HBI.out _ (HR.go bB).out).mono ?_;rintro e w3 ⟨rfl,hb⟩;replace HJ:=HJ.go2 bB hb;clear hb)
    go_roundw
    case rel=>exact ⟨k+1,by omega,by go_num,HJ,HB⟩
    case measure=>simp [intOf];omega
   | false =>
    have HB:=lh (BO.no HP.out hbo)
    have HBI:=lh (fun w h=>isBinding_any C e zs q (decide (k=st)) w h HZS.out)
    rw [hbo] at HBI
    clear hbo
    generalize decide (k=st)=kk at *
    exact absurd HGOOD.out HB.out
  ·have HOK:Hid (BO st bs bs.length):=lh (by obtain rfl:k=bs.length:=by omega
                                             exact HO.out)
   clear HBZ
   go_wp2_with (go_at_call 85;refine (HCL.out _ (PS.x (HJ.go bB))).mono ?_;rintro e w3 ⟨g,cap,rfl,hoc,hb⟩;obtain ⟨wa,HJ,hoc,hbc⟩:∃ wa,At (PS w A c xs _ B d bs) wa∧OT w3 wa.heap.size (.slice (some ⟨g,0,none⟩) xs.length cap) xs∧Below wa.heap.size wa w3:=⟨_,HJ,hoc,hb⟩;have HOC:=lh hoc;have HBC:=lh hbc;have hgs:=hbc.size;have hgw:g<w3.heap.size:=OT.lt' hoc hx0;clear hoc hbc hb p1 p2 p3 p4 p5 r1 r2 r3 r4 r5;obtain ⟨⟨p1,p2,p3,p4,p5⟩,⟨r1,r2,r3,r4,r5⟩⟩:=PS.cells (HJ.go HBC.out))
   have hne4:=r5
   have hne5:¬ w3.heap.size=w.heap.size+1:=by omega
   have hne6:¬ w.heap.size+1=w3.heap.size:=by omega
   have HO0:=lh (HOC.out.below (ba w3 (.cells #[.slice (some ⟨g,0,none⟩) xs.length cap,.bool false] 45)))
   have HPX0:=lh (PX.new w3 (.slice (some ⟨g,0,none⟩) xs.length cap) (.bool false) 45)
   have HBL0:=lh (HBC.out.alloc hgs (.cells #[.slice (some ⟨g,0,none⟩) xs.length cap,.bool false] 45))
   clear HBC HOC
   go_loopw [1,65] (fun l i wr=>∃ (k:Nat) (ls:List (List ByteArray×Bool)) (done:List ByteArray) (m:Nat) (B':Option Addr) (d':Nat),k≤xs.length∧i=.int .i64 k∧l=.slice B' m d'∧m≤d'∧d'≤9223372036854775807∧Hid (ls.length=m)∧Hid (BT wa B' d' ls)∧Hid (SI stB tlB xs bs k ls done) ∧
    Hid (OT wr wa.heap.size (.slice (some ⟨g,0,none⟩) xs.length cap) (done++xs.drop k))∧Hid (PX wr w3.heap.size (.slice (some ⟨g,0,none⟩) xs.length cap) (.bool false))∧Hid (Below wa.heap.size wa wr)) (fun _ i _=>xs.length-(intOf i).toNat)
   case atStart=>exact ⟨0,bs,[],bs.length,B,d,Nat.zero_le _,rfl,rfl,hy1,hy2,lh rfl,lh (PS.y HJ),lh (SI.start _ _ _ _),lh (by simpa using HO0.out),HPX0,HBL0⟩
   case round =>
    obtain ⟨k,ls,done,m,B',d',hk,rfl,rfl,hmd,hd9,HM,HBT,HS,HOT,HPX,HBL⟩:=hrel
    clear p1 p2 p3 p4 p5 r1 r2 r3 r4 r5 HO0 HPX0 HBL0
    have HQ:=HJ.go HBL.out
    obtain ⟨⟨p1,p2,p3,p4,p5⟩,⟨r1,r2,r3,r4,r5⟩⟩:=PS.cells HQ
    obtain ⟨t1,t2,t3,t4,t5⟩:=HPX.out
    by_cases hlt:k<xs.length
    ·obtain ⟨x,hx⟩:∃ x,xs[k]? = some x:=⟨_,gE hlt⟩
     obtain ⟨hcx,hfx,hg1,hg2,-,hcap,hcap2⟩:=HOT.out.cell (mid_at HS.out.1 hx)
     have hxz:=HSX5.out x (mG hx)
     have HX:=lh hx
     clear hx
     cases hst:stB x with
     | false =>
      have HS2:=lh (HS.out.part HX.out hst)
      go_wp2_with (go_at_call 97;refine (isStar_any x _).mono ?_;rintro e w' ⟨rfl,rfl⟩)
      go_roundw
      case rel=>exact ⟨k+1,ls,done++[x],m,B',d',by omega,by go_num,rfl,hmd,hd9,HM,HBT,HS2,lh (by rw [mid_same HX.out];exact HOT.out),HPX,HBL⟩
      case measure=>simp [intOf];omega
     | true =>
      have hpos:=stB_pos hst
      obtain ⟨p,ls',rfl,hcnt,hp⟩:=HS.out.next HX.out hst (by rw [HST.out];exact HLE.out)
      obtain ⟨y,rfl,hpy⟩:=HGOOD.out.one (by rw [←HST.out];exact hcnt) hp
      have HS2:=lh (HS.out.star HX.out hst)
      have hyz:=HBZ5.out _ (mG hp) y (by simp)
      have hm1:0<m:=by have:=HM.out;simp at this;omega
      have HM2:Hid (ls'.length=m-1):=lh (by have:=HM.out;simp at this;omega)
      obtain ⟨b3,o3,rfl,hb3,hc3⟩:=(HBT.out.below HBL.out).2.2 (by simp)
      obtain ⟨C,n,x1,x2,x3⟩:=hc3 0 _ rfl
      have y1:wr.cell? ⟨b3,o3,none⟩=some (.slice C 1 n):=by simpa using x1
      have n1:=x3.1
      have n2:=x3.2.1
      simp at n1
      obtain ⟨b4,o4,rfl,hb4,hc4⟩:=x3.2.2 (by simp)
      have hcy:wr.cell? ⟨b4,o4,none⟩=some (.string y):=hc4 0 y rfl
      have hlI:(0:Int)<(m:Int):=by omega
      have hkI:(k:Int)<(xs.length:Int):=by omega
      have hgne:g≠w3.heap.size:=by omega
      clear hc3 hc4 x1 x2 x3 hb3 hb4 hcnt hp hpy
      rcases Nat.lt_or_ge 1 d' with hd1|hd1
      ·go_wp2_with (go_at_call 97;refine (isStar_any x _).mono ?_;rintro e w' ⟨rfl,rfl⟩)
       go_region
       all_goals
        go_wp2_with fail
        go_roundw
        case rel=>exact ⟨k+1,ls',done++[y++tlB x],m-1,some ⟨b3,o3+2,none⟩,d'-1,by omega,by go_num,rfl,by omega,by omega,HM2,lh HBT.out.drop1,HS2,lh (by rw [←mid_set HS.out.1 HX.out];exact (HOT.out.set (mid_lt HS.out.1 HX.out) _).below bB),lh ((PX.set_cell HPX.out ⟨g,k,none⟩ hgne _).below bB),lh (HBL.out.setCell (p:=⟨g,k,none⟩) hg1 _).drew⟩
        case measure=>simp [intOf];omega
      ·obtain rfl:d'=1:=by omega
       obtain rfl:m=1:=by omega
       go_wp2_with (go_at_call 97;refine (isStar_any x _).mono ?_;rintro e w' ⟨rfl,rfl⟩)
       go_region
       all_goals
        go_wp2_with fail
        go_roundw
        case rel=>exact ⟨k+1,ls',done++[y++tlB x],0,some ⟨b3,o3,none⟩,0,by omega,by go_num,rfl,by omega,by omega,HM2,lh (by rw [List.eq_nil_of_length_eq_zero HM2.out];exact BT.nil' _ _ _ (by omega)),HS2,lh (by rw [←mid_set HS.out.1 HX.out];exact (HOT.out.set (mid_lt HS.out.1 HX.out) _).below bB),lh ((PX.set_cell HPX.out ⟨g,k,none⟩ hgne _).below bB),lh (HBL.out.setCell (p:=⟨g,k,none⟩) hg1 _).drew⟩
        case measure=>simp [intOf];omega
    ·obtain rfl:k=xs.length:=by omega
     have HD:=lh (HS.out.done (Nat.le_refl _))
     have HRM:Hid (RT wr (some ⟨g,0,none⟩) cap (flC stB tlB xs (bs.map hdP))):=lh (by
      obtain ⟨A',c',e,hrt⟩:=HOT.out.read
      obtain ⟨rfl,_,rfl⟩:=Value.slice.inj e
      rw [List.drop_length,List.append_nil,HD.out.1] at hrt
      exact hrt)
     have HOF:Hid (OT wr wa.heap.size (.slice (some ⟨g,0,none⟩) xs.length cap) (flC stB tlB xs (bs.map hdP))):=lh (by
      have:=HOT.out
      rw [List.drop_length,List.append_nil,HD.out.1] at this
      exact this)
     have HBA:Hid (∀ b o,B'=some ⟨b,o,none⟩→b<wa.heap.size):=lh (fun b o e=>by
      obtain ⟨b',o',e',hlt',_⟩:=HBT.out.2.2 (by rw [rest_one (ls:=ls) (st:=st) (by rw [HD.out.2,HST.out]) HL1.out HP.out];simp)
      rw [e] at e'
      obtain ⟨rfl,_⟩:=Addr.mk.inj (Option.some.inj e')
      exact hlt')
     obtain rfl:=rest_one (ls:=ls) (st:=st) (by rw [HD.out.2,HST.out]) HL1.out HP.out
     obtain rfl:m=1:=by simpa using HM.out.symm
     obtain ⟨b3,o3,rfl,hb3,hc3⟩:=(HBT.out.below HBL.out).2.2 (by simp)
     obtain ⟨C,n,x1,x2,x3⟩:=hc3 0 _ rfl
     have y1:wr.cell? ⟨b3,o3,none⟩=some (.slice C zs.length n):=by simpa using x1
     have y2:wr.cell? ⟨b3,o3+1,none⟩=some (.bool q):=by simpa using x2
     have n1:=x3.1
     have n2:=x3.2.1
     have HRZ:=lh x3
     clear hc3 x1 x2 x3
     go_wp2_with fail
     go_quiet (fail)
     go_wp2_with fail
     have hb3a:=HBA.out b3 o3 rfl
     have hga:=HOF.out.own g rfl
     go_region_law (refine step_append_textsN rfl _ _ rfl wa.heap.size _ (flC stB tlB xs (bs.map hdP)) zs C n zs.length rfl rfl rfl (HOF.out.below bB) (HRZ.out.below bB) (by rw [HFL.out];omega) (by simp;omega) ?_;intro v2 w2 hown2 hg2 hor2;have HBW:=lh ((HBL.out.trans (Below.mono bB HBL.out.size)).grown hg2 (by simp;omega) (fun k hk=>HOF.out.own k hk));have HX3:=lh ((HPX.out.below bB).grown hg2 (fun h=>by have h2:some w3.heap.size=some g:=h;have:=Option.some.inj h2;omega));have HRW:=lh hown2.read;obtain ⟨g2,cap2,hv,h2a,h2b,-,-⟩:=hown2.block (by simp [HFL.out];omega);rw [List.length_append,HFL.out] at hv;subst hv;have y3:=hg2.cell (a:=⟨b3,o3+1,none⟩) (v:=.bool q) (by simpa using y2) (fun h=>by have h2:some b3=some g:=h;have:=Option.some.inj h2;omega);have HQ2:=HJ.go HBW.out;clear hown2 hg2 hor2 p1 p2 p3 p4 p5 r1 r2 r3 r4 r5 t1 t2 t3 t4 t5;obtain ⟨⟨p1,p2,p3,p4,p5⟩,⟨r1,r2,r3,r4,r5⟩⟩:=PS.cells HQ2;obtain ⟨t1,t2,t3,t4,t5⟩:=HX3.out)
     all_goals (go_wp2_with fail)
     all_goals
      refine bodyPost_ret (v:=.tuple #[.agg #[.slice (some ⟨g2,0,none⟩) (xs.length+zs.length) cap2,.bool q],.int .i64 0]) (by simp [results,Tryz.results89,go_sem,r1,r2,r3,r4,hne5,hne6]) rfl ⟨some ⟨g2,0,none⟩,cap2,by rw [List.length_append,HFL.out],?_,?_⟩
      ·obtain ⟨A',c',e,hrt⟩:=HRW.out
       obtain ⟨e1,_,e2⟩:=Value.slice.inj e
       subst e1 e2
       exact (hrt.box HX3.out (slice_ns _ _ _) (bool_ns _) _ _).box ((PX.set_cell (PX.set_cell (PS.cells HQ2).2 _ hne5 _) _ hne5 _)) (slice_ns _ _ _) (bool_ns _) _ _
      ·exact below_box (below_box (PS.b HQ2) (by omega) _ _) (by omega) _ _
end Go.Proofs.YtelkmeiepliecaaGreatDoor
