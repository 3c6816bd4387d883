/-
  Part 33 of the proof.
-/
import Derived.Test.YtelkmeiepliecaaGreatDoorV32
set_option linter.unusedSimpArgs false
set_option linter.unusedVariables false
set_option maxHeartbeats 16000000
namespace Go.Proofs.YtelkmeiepliecaaGreatDoor
open Go.RowKit
open Pm
theorem equalize_any (A:Option Addr) (c:Nat) (l:List ByteArray) (q:Bool) (B:Option Addr) (d:Nat) (f:List ByteArray) (C:Option Addr) (e:Nat) (s:List ByteArray) (w:World) (h:RT w A c l) (k:RT w B d f) (j:RT w C e s) (hm:ML w)
 (hE:f.length=s.length→ES l f s) (hZ:SZ 2400 l f s) (h0:0<l.length) (h1:0<f.length) (h2:0<s.length) (hl0:l.length≤100) (hl1:f.length≤100) (hl2:s.length≤100) :
 Calls Tryz.prog 73 #[.agg #[.slice A l.length c,.bool q],.agg #[.slice B f.length d,.bool q],.agg #[.slice C s.length e,.bool q]] w (RetM w (eqT l f s).1 ((eqT l f s).2&&q) (eqT l f s).2):=by
 have HI:=PC3.enter h k j hm q q q 45
 have hx1:=h.1
 have hx2:=h.2.1
 have hy1:=k.1
 have hy2:=k.2.1
 have hz1:=j.1
 have hz2:=j.2.1
 clear h k j hm
 by_cases hlen:f.length=s.length
 ·have HE:=lh (hE hlen)
  have HZ:=lh hZ
  have hlB:((f.length:Int) != (s.length:Int))=false:=by rw [hlen];simp
  have HT:Hid (eqT l f s=eqz (countB stB f+1) l f s):=lh (by unfold eqT;rw [if_pos hlen])
  rw [HT.out]
  clear hE hZ HT
  generalize hfin:eqz (countB stB f+1) l f s=fin at *
  obtain ⟨zs,ok⟩:=fin
  have HF:=lh hfin
  have HP:=lh (fun e w' h=>show RetM w zs (ok&&q) ok e w' from h)
  have HL0:=lh (And.intro h0 (And.intro h1 h2))
  have HLL:=lh hlen
  clear hfin hlen h0 h1 h2
  go_enter Tryz.func73,Tryz.ntmps73
  go_wp2_with fail
  go_step3
  go_wp2_with fail
  go_step3
  go_wp2_with fail
  go_loopg [8] (countB stB f+1) (fun g s8 wx=>∃ (A:Option Addr) (c:Nat) (l:List ByteArray) (B:Option Addr) (d:Nat) (f:List ByteArray) (C:Option Addr) (e:Nat) (s:List ByteArray),Hid (eqz g l f s=(zs,ok))∧Hid (countB stB f<g)∧Hid (ES l f s∧SZ 2400 l f s)∧Hid ((0<l.length∧0<f.length∧0<s.length)∧l.length≤100∧f.length≤100∧s.length≤100)∧At (PC3 w A c l q B d f q C e s q) wx)
  case atStart=>exact ⟨A,c,l,B,d,f,C,e,s,HF,lh (Nat.lt_succ_self _),lh ⟨HE.out,HZ.out⟩,lh ⟨HL0.out,hl0,hl1,hl2⟩,HI⟩
  case round =>
   clear HI HE HZ HF HL0 HLL hx1 hx2 hy1 hy2 hz1 hz2 hl0 hl1 hl2 hlB
   obtain ⟨A,c,l,B,d,f,C,e,s,HF,HG,HE,HL,HJ⟩:=hrel
   obtain ⟨⟨p1,p2,p3,p4,p5⟩,⟨q1,q2,q3,q4,q5⟩,⟨r1,r2,r3,r4,r5⟩,⟨s1,s2,s3,s4,s5⟩⟩:=PC3.cells HJ
   have hx1:=HJ.out.2.1.1.1
   have hx2:=HJ.out.2.1.1.2.1
   have hy1:=HJ.out.2.1.2.1.1
   have hy2:=HJ.out.2.1.2.1.2.1
   have hz1:=HJ.out.2.1.2.2.1
   have hz2:=HJ.out.2.1.2.2.2.1
   have hls:f.length=s.length:=HE.out.1.2.2.2
   have HLS:=lh hls
   clear hls
   have hlf:=HL.out.2.2.1
   cases gk with
   | zero=>exact absurd HG.out (by omega)
   | succ g' =>
   go_wp2_with fail
   obtain ⟨wo,rfl⟩:∃ wo:World,wo=wr:=⟨_,rfl⟩
   go_loopg [8,25] f.length (fun g2 s8 s25 wy=>∃ i:Nat,i+g2=f.length∧s25=.int .i64 i∧(∃ n:Nat,n≤i∧s8=.int .i64 n∧Hid (n=countB stB (f.take i)))∧Hid (f.take i=s.take i)∧wo=wy)
   case atStart=>exact ⟨0,by omega,rfl,⟨0,Nat.le_refl _,rfl,lh rfl⟩,lh rfl,rfl⟩
   case round =>
    obtain ⟨i,hig,rfl,⟨n,hni,rfl,HN⟩,HTK,rfl⟩:=hrel
    by_cases hlt:i<f.length
    ·have hlt2:i<s.length:=by rw [←HLS.out];exact hlt
     obtain ⟨g2,rfl⟩:∃ g2,gk=g2+1:=⟨gk-1,by omega⟩
     obtain ⟨x,hx⟩:∃ x,f[i]? = some x:=⟨_,gE hlt⟩
     obtain ⟨y,hy⟩:∃ y,s[i]? = some y:=⟨_,gE hlt2⟩
     obtain ⟨b1,o1,rfl,hb1,hc1⟩:=HJ.out.2.1.2.1.2.2 (by omega)
     obtain ⟨b2,o2,rfl,hb2,hc2⟩:=HJ.out.2.1.2.2.2.2 (by omega)
     have hcx:=hc1 i x hx
     have hcy:=hc2 i y hy
     have hxz:x.size≤2400:=HE.out.2.le.2.1 x (mG hx)
     have hyz:y.size≤2400:=HE.out.2.le.2.2 y (mG hy)
     have HX:=lh hx
     have HY:=lh hy
     clear hc1 hc2 hx hy hb1 hb2
     by_cases he:x=y
     ·have heB:(x.toList==y.toList)=true:=by rw [he];simp
      have HTK2:Hid (f.take (i+1)=s.take (i+1)):=lh (by rw [List.take_add_one,List.take_add_one,HTK.out,HX.out,HY.out,he])
      clear he
      cases hs:stB x with
      | true =>
       have HN2:Hid (n+1=countB stB (f.take (i+1))):=lh (by rw [take_cnt HX.out,if_pos hs,HN.out])
       go_wp2_with (go_at_call 103;refine (starP_any _ _).mono ?_;rintro e w' ⟨rfl,rfl⟩)
       go_roundg g2
       case measure=>omega
       case rel=>exact ⟨i+1,by omega,by go_num,⟨n+1,by omega,by go_num,HN2⟩,HTK2,rfl⟩
      | false =>
       have HN2:Hid (n=countB stB (f.take (i+1))):=lh (by rw [take_cnt HX.out,if_neg (by rw [hs];decide),HN.out];rfl)
       go_wp2_with (go_at_call 103;refine (starP_any _ _).mono ?_;rintro e w' ⟨rfl,rfl⟩)
       go_roundg g2
       case measure=>omega
       case rel=>exact ⟨i+1,by omega,by go_num,⟨n,by omega,rfl,HN2⟩,HTK2,rfl⟩
     ·have heB:=txt_ne he
      have HSTP:Hid (stp f s=some (n,x,y)):=lh (by rw [stp_at HTK.out HX.out HY.out he,HN.out])
      have HDT:=lh (fun w=>determine_any x y w (by omega) (by omega))
      clear he
      cases hd:detO x y with
      | false =>
       rw [hd] at HDT
       have hend:=(eqz_bad (n:=g') (l:=l) HSTP.out hd).symm.trans HF.out
       obtain ⟨rfl,rfl⟩:=Prod.mk.inj hend
       clear hend hd
       generalize detC x y=cap at *
       go_wp2_with (go_at_call 101;refine (HDT.out _).mono ?_;rintro e w' ⟨rfl,rfl⟩)
       try rw [Exit.noGoto_ret]
       refine bodyPost_ret (v:=.tuple #[.agg #[.slice none 0 0,.bool false],.bool false]) (by simp [results,Tryz.results73,go_sem,s1,s2,s3,s4]) rfl (HP.out _ _ ⟨none,0,rfl,RT.nil _ _ _ (by omega),below_box HJ.out.2.2.2 (by omega) _ _⟩)
      | true =>
       rw [hd] at HDT
       have HF2:Hid (eqz g' (fixB (detC x y) n l) (fixB (detC x y) n f) (fixB (detC x y) n s)=(zs,ok)):=lh ((eqz_step (n:=g') (l:=l) HSTP.out hd).symm.trans HF.out)
       obtain ⟨hcc,hkk,_⟩:=HE.out.1.lt HSTP.out hd
       have HE2:=lh (And.intro (HE.out.1.fix hcc hkk).1 (HE.out.2.fix HE.out.1 HSTP.out hd).1)
       have HG2:Hid (countB stB (fixB (detC x y) n f)<g'):=lh (by have:=(HE.out.1.fix hcc hkk).2;have:=HG.out;omega)
       have hcz:=(HE.out.2.fix HE.out.1 HSTP.out hd).2
       have HL2:Hid ((0<(fixB (detC x y) n l).length∧0<(fixB (detC x y) n f).length∧0<(fixB (detC x y) n s).length)∧(fixB (detC x y) n l).length≤100∧(fixB (detC x y) n f).length≤100∧(fixB (detC x y) n s).length≤100):=lh (by rw [fix_len,fix_len,fix_len];exact HL.out)
       have HX1:=lh (fun w h=>fix_any A c l q n (detC x y) w h HL.out.1.1 (by have:=HL.out.2.1;omega) (by omega) (fun z hz=>by have:=HE.out.2.le.1 z hz;omega) (by omega))
       have HX2:=lh (fun w h=>fix_any (some ⟨b1,o1,none⟩) d f q n (detC x y) w h HL.out.1.2.1 (by have:=HL.out.2.2.1;omega) (by omega) (fun z hz=>by have:=HE.out.2.le.2.1 z hz;omega) (by omega))
       have HX3:=lh (fun w h=>fix_any (some ⟨b2,o2,none⟩) e s q n (detC x y) w h HL.out.1.2.2 (by have:=HL.out.2.2.2;omega) (by omega) (fun z hz=>by have:=HE.out.2.le.2.2 z hz;omega) (by omega))
       unfold RetP1 at HX1 HX2 HX3
       clear hcc hkk hd
       generalize fixB (detC x y) n l=l' at *
       generalize fixB (detC x y) n f=f' at *
       generalize fixB (detC x y) n s=s' at *
       generalize detC x y=cap at *
       go_wp2_with (go_at_call 101;refine (HDT.out _).mono ?_;rintro e w' ⟨rfl,rfl⟩)
       go_upto_region 12 with fail
       go_cut [8] (fun s8 wx=>∃ (A1:Option Addr) (c1:Nat) (B1:Option Addr) (d1:Nat) (C1:Option Addr) (e1:Nat),At (PC3 w A1 c1 l' q B1 d1 f' q C1 e1 s' q) wx)
       case first =>
        go_region_with
         (first
          | (go_at_call 102;((with_reducible refine (HX1.out _ (PC3.rl (HJ.go bB))).mono ?_);rintro e w3 ⟨A1,c1,rfl,hr,hb⟩);replace HJ:=HJ.go2 bB hb;have HR1:At (fun w=>RT w A1 c1 l') w3:=⟨kept_rt _ _ _,hr⟩;have hr1:=hr.1;have hr2:=hr.2.1;obtain ⟨⟨p1,p2,p3,p4,p5⟩,⟨q1,q2,q3,q4,q5⟩,⟨r1,r2,r3,r4,r5⟩,⟨s1,s2,s3,s4,s5⟩⟩:=PC3.cells HJ;clear hr hb)
          | (go_at_call 102;((with_reducible refine (HX2.out _ (PC3.rf (HJ.go bB))).mono ?_);rintro e w4 ⟨B1,d1,rfl,hr,hb⟩);replace HJ:=HJ.go2 bB hb;replace HR1:=HR1.go2 bB hb;have HR2:At (fun w=>RT w B1 d1 f') w4:=⟨kept_rt _ _ _,hr⟩;have hr3:=hr.1;have hr4:=hr.2.1;obtain ⟨⟨p1,p2,p3,p4,p5⟩,⟨q1,q2,q3,q4,q5⟩,⟨r1,r2,r3,r4,r5⟩,⟨s1,s2,s3,s4,s5⟩⟩:=PC3.cells HJ;clear hr hb)
          | (go_at_call 102;((with_reducible refine (HX3.out _ (PC3.rs (HJ.go bB))).mono ?_);rintro e w5 ⟨C1,e1,rfl,hr,hb⟩);replace HJ:=HJ.go2 bB hb;replace HR1:=HR1.go2 bB hb;replace HR2:=HR2.go2 bB hb;have HR3:At (fun w=>RT w C1 e1 s') w5:=⟨kept_rt _ _ _,hr⟩;have hr5:=hr.1;have hr6:=hr.2.1;obtain ⟨⟨p1,p2,p3,p4,p5⟩,⟨q1,q2,q3,q4,q5⟩,⟨r1,r2,r3,r4,r5⟩,⟨s1,s2,s3,s4,s5⟩⟩:=PC3.cells HJ;clear hr hb))
        all_goals
         go_wp2_with fail
         go_meet
         exact ⟨A1,c1,B1,d1,C1,e1,PC3.set (HJ.go bB) (HR1.go bB).out (HR2.go bB).out (HR3.go bB).out⟩
       case rest =>
        obtain ⟨A1,c1,B1,d1,C1,e1,HK⟩:=hcut
        go_wp2_with fail
        go_roundg g'
        case measure=>omega
        case rel=>exact ⟨A1,c1,l',B1,d1,f',C1,e1,s',HF2,HG2,HE2,HL2,HK.go bB⟩
    ·have heq:f=s:=by
      have:=HTK.out
      rw [List.take_of_length_le (by omega),List.take_of_length_le (by rw [←HLS.out];omega)] at this
      exact this
     have hend:=(eqz_end (n:=g') (l:=l) (by rw [heq];exact stp_self s)).symm.trans HF.out
     obtain ⟨rfl,rfl⟩:=Prod.mk.inj hend
     clear heq hend
     go_wp2_with fail
     try rw [Exit.noGoto_ret]
     refine bodyPost_ret (v:=.tuple #[.agg #[.slice A l.length c,.bool q],.bool true]) (by simp [results,Tryz.results73,go_sem,s1,s2,s3,s4]) rfl (HP.out _ _ ⟨A,c,rfl,?_,below_box HJ.out.2.2.2 (by omega) _ _⟩)
     exact HJ.out.2.1.1.box ⟨s1,s2,s3,s4,s5⟩ (slice_ns _ _ _) (bool_ns _) _ _
 ·have hlB:((f.length:Int) != (s.length:Int))=true:=by rw [bne_iff_ne];omega
  have HT:Hid (eqT l f s=([],false)):=lh (by unfold eqT;rw [if_neg hlen])
  rw [HT.out]
  clear hE hZ HT hlen
  obtain ⟨⟨p1,p2,p3,p4,p5⟩,⟨q1,q2,q3,q4,q5⟩,⟨r1,r2,r3,r4,r5⟩,⟨s1,s2,s3,s4,s5⟩⟩:=PC3.cells HI
  go_enter Tryz.func73,Tryz.ntmps73
  go_wp2_with fail
  try go_step3
  try go_wp2_with fail
  try go_step3
  try go_wp2_with fail
  try rw [Exit.noGoto_ret]
  refine bodyPost_ret (v:=.tuple #[.agg #[.slice none 0 0,.bool false],.bool false]) (by simp [results,Tryz.results73,go_sem,s1,s2,s3,s4]) rfl ⟨none,0,rfl,RT.nil _ _ _ (by omega),?_⟩
  first|exact bB|exact below_box HI.out.2.2.2 (by omega) _ _
open Go.RowKit
open Pm
def RetA (w:World) (zs:List ByteArray) (q ok:Bool) (ne:Int) (e:Ending) (w':World):Prop :=
 ∃ C n,e=.returned (.tuple #[.agg #[.slice C zs.length n,.bool q],.bool ok,.int .i64 ne])∧RT w' C n zs∧Below w.heap.size w w'
def RetAg (w:World) (xs:List ByteArray) (r:Bool) (ys:List ByteArray) (t:Bool) (zs:List ByteArray) (u:Bool) (vs:List ByteArray) (v:Bool):Ending→World→Prop :=
 RetA w (agZ xs r ys t zs u vs v).1 ((agZ xs r ys t zs u vs v).2&&(r&&u)) (agZ xs r ys t zs u vs v).2 (agE xs r ys t zs u vs v)
theorem ag_bad {w:World} {xs ys zs vs:List ByteArray} {r t u v:Bool} {n:Int} {e:Ending} {w':World} (ho:agG xs r ys t zs u vs v=false) (hn:agE xs r ys t zs u vs v=n) (h:RetA w [] false false n e w'):RetAg w xs r ys t zs u vs v e w':=by
 unfold RetAg agZ
 rw [if_neg (by rw [ho];decide),hn]
 exact h
def PRA (W:World) (ex:Bool) (A:Option Addr) (c:Nat) (xs:List ByteArray) (r:Bool) (B:Option Addr) (d:Nat) (ys:List ByteArray) (t:Bool)
 (fx:Bool) (C:Option Addr) (e:Nat) (zs:List ByteArray) (u:Bool) (D:Option Addr) (f:Nat) (vs:List ByteArray) (v:Bool) (w:World):Prop :=
 PX w (W.heap.size+2) (.slice none 0 0) (.bool false)∧PRT W ex A c xs r B d ys t fx C e zs u D f vs v w
theorem PRA.kept (W:World) (ex:Bool) (A:Option Addr) (c:Nat) (xs:List ByteArray) (r:Bool) (B:Option Addr) (d:Nat) (ys:List ByteArray) (t:Bool)
 (fx:Bool) (C:Option Addr) (e:Nat) (zs:List ByteArray) (u:Bool) (D:Option Addr) (f:Nat) (vs:List ByteArray) (v:Bool):Kept (PRA W ex A c xs r B d ys t fx C e zs u D f vs v) :=
 (kept_px _ _ _).both (PRT.kept _ _ _ _ _ _ _ _ _ _ _ _ _ _ _ _ _ _ _)
theorem PRA.enter {W:World} {A:Option Addr} {c:Nat} {xs:List ByteArray} {B:Option Addr} {d:Nat} {ys:List ByteArray} {C:Option Addr} {e:Nat} {zs:List ByteArray} {D:Option Addr} {f:Nat} {vs:List ByteArray} (h:RT W A c xs) (k:RT W B d ys) (h':RT W C e zs) (k':RT W D f vs) (m:ML W) (ex r t fx u v:Bool) (T U:TypeId) :
 At (PRA W ex A c xs r B d ys t fx C e zs u D f vs v) (((W.alloc (.cells #[.bool ex,.slice A xs.length c,.bool r,.slice B ys.length d,.bool t] T)).alloc (.cells #[.bool fx,.slice C zs.length e,.bool u,.slice D vs.length f,.bool v] T)).alloc (.cells #[.slice none 0 0,.bool false] U)) :=
 ⟨PRA.kept _ _ _ _ _ _ _ _ _ _ _ _ _ _ _ _ _ _ _,PX.nw (by simp),((PRT.enter h k h' k' m ex r t fx u v T).go (ba _ _)).out⟩
open Go.RowKit
open Pm
theorem agree2_any (ex:Bool) (A:Option Addr) (c:Nat) (xs:List ByteArray) (r:Bool) (B:Option Addr) (d:Nat) (ys:List ByteArray) (t:Bool) (fx:Bool) (C:Option Addr) (e:Nat) (zs:List ByteArray) (u:Bool) (D:Option Addr) (f:Nat) (vs:List ByteArray) (v:Bool) (w:World) (h:RT w A c xs) (k:RT w B d ys) (h':RT w C e zs) (k':RT w D f vs) (hm:ML w)
 (hsx:∀ x∈xs,x.size≤5000) (hsy:∀ x∈ys,x.size≤5000) (hsz:∀ x∈zs,x.size≤5000) (hsv:∀ x∈vs,x.size≤5000) (hSZ:agG xs r ys t zs u vs v=true→SZ 2400 (meetL xs zs) (carL xs r (meetL xs zs) (r&&u) ys t) (carL zs u (meetL xs zs) (r&&u) vs v)) (hlx:xs.length≤5000) (hlz:zs.length≤5000) :
 Calls Tryz.prog 38 #[ruV ex A c xs r B d ys t,ruV fx C e zs u D f vs v] w (RetAg w xs r ys t zs u vs v):=by
 have HI:=PRA.enter h k h' k' hm ex r t fx u v 57 45
 have HCK:=lh (fun w h k h' k' m=>checkBoth_any ex A c xs r B d ys t fx C e zs u D f vs v w h k h' k' m hsx hsy hsz hsv)
 have HME:=lh (fun w h l=>(meet_any A C c e xs zs r u w h l (five9 hsx) (five9 hsz)).mono fun _ _ h=>RetM.two h)
 have hx1:=h.1
 have hx2:=h.2.1
 have hy1:=k.1
 have hy2:=k.2.1
 have hz1:=h'.1
 have hz2:=h'.2.1
 have hv1:=k'.1
 have hv2:=k'.2.1
 clear h k h' k' hm
 by_cases h1:chkE xs r ys t zs u vs v=0
 ·rw [h1] at HCK
  cases h3:meetOk xs zs r u with
  | false =>
   have HBAD:=lh (fun e' w' h=>ag_bad (w:=w) (e:=e') (w':=w') (xs:=xs) (ys:=ys) (zs:=zs) (vs:=vs) (r:=r) (t:=t) (u:=u) (v:=v) (n:=0) (by unfold agG;rw [h3];simp) (by unfold agE;rw [if_neg (by simp [h1]),if_pos h3]) h)
   rw [h3] at HME
   simp only [Bool.false_eq_true,if_false] at HME
   obtain ⟨mr,hmr⟩:∃ mr,mr=false:=⟨_,rfl⟩
   unfold ruV at *
   clear hsx hsy hsz hsv hlx hlz h1 h3 hmr hSZ
   go_enter Tryz.func38,Tryz.ntmps38
   go_wp2_with (first
    | (go_at_call 57;refine (HCK.out _ (HI.go bB).out.2.2.1.1.1 (HI.go bB).out.2.2.1.1.2 (HI.go bB).out.2.2.1.2.1 (HI.go bB).out.2.2.1.2.2 (HI.go bB).out.2.2.2.1).mono ?_;rintro e w1 ⟨rfl,hb⟩;replace HI:=HI.go2 bB hb;clear hb;obtain ⟨⟨s0,s1,s2,s3,s4⟩,⟨⟨p1,p2,p3,p4,p5,p6⟩,⟨q1,q2,q3,q4,q5,q6⟩⟩,-⟩:=HI.out)
    | (go_at_call 58;refine (HME.out _ (HI.go bB).out.2.2.1.1.1 (HI.go bB).out.2.2.1.2.1).mono ?_;rintro e w3 ⟨M,n,rfl,hr,hb⟩;replace HI:=HI.go2 bB hb;clear hb;have HM:=At.rb2 (q:=mr) hr;have m1:=hr.1;have m2:=hr.2.1;clear hr;obtain ⟨⟨s0,s1,s2,s3,s4⟩,⟨⟨p1,p2,p3,p4,p5,p6⟩,⟨q1,q2,q3,q4,q5,q6⟩⟩,-⟩:=HI.out)
    | (go_at_call_of 59 (Value.agg #[.slice A xs.length c,.bool r]);refine (HC1.out _ _ _ (HI.go bB).out.2.2.1.1.1 (HM.go bB).out.2 (HI.go bB).out.2.2.1.1.2 (HI.go bB).out.2.2.2.1).mono ?_;rintro e w4 ⟨E,k,rfl,hr,hb⟩;replace HM:=HM.go2 bB hb;replace HI:=HI.go2 bB hb;clear hb;have HD:=At.rb2 (q:=lr) hr;have d1:=hr.1;have d2:=hr.2.1;clear hr;obtain ⟨⟨s0,s1,s2,s3,s4⟩,⟨⟨p1,p2,p3,p4,p5,p6⟩,⟨q1,q2,q3,q4,q5,q6⟩⟩,-⟩:=HI.out;obtain ⟨⟨m3,m4,m5,m6,m7⟩,-⟩:=HM.out)
    | (go_at_call_of 59 (Value.agg #[.slice C zs.length e,.bool u]);refine (HC2.out _ _ _ (HI.go bB).out.2.2.1.2.1 (HM.go bB).out.2 (HI.go bB).out.2.2.1.2.2 (HI.go bB).out.2.2.2.1).mono ?_;rintro e w5 ⟨G,l,rfl,hr,hb⟩;replace HM:=HM.go2 bB hb;replace HD:=HD.go2 bB hb;replace HI:=HI.go2 bB hb;clear hb;have HG:=At.rb2 (q:=rr) hr;have g1:=hr.1;have g2:=hr.2.1;clear hr;obtain ⟨⟨s0,s1,s2,s3,s4⟩,⟨⟨p1,p2,p3,p4,p5,p6⟩,⟨q1,q2,q3,q4,q5,q6⟩⟩,-⟩:=HI.out;obtain ⟨⟨d3,d4,d5,d6,d7⟩,-⟩:=HD.out;obtain ⟨⟨m3,m4,m5,m6,m7⟩,-⟩:=HM.out)
    | (go_at_call 73;refine (HEQ.out _ _ _ _ _ _ _ (HM.go bB).out.2 (HD.go bB).out.2 (HG.go bB).out.2 (HI.go bB).out.2.2.2.1).mono ?_;rintro e w6 ⟨F,i,rfl,hr,hb⟩;replace HM:=HM.go2 bB hb;replace HI:=HI.go2 bB hb;clear hb;have HR:=lh hr;have i1:=hr.1;have i2:=hr.2.1;clear hr;obtain ⟨⟨s0,s1,s2,s3,s4⟩,⟨⟨p1,p2,p3,p4,p5,p6⟩,⟨q1,q2,q3,q4,q5,q6⟩⟩,-⟩:=HI.out;obtain ⟨⟨m3,m4,m5,m6,m7⟩,-⟩:=HM.out))
   refine bodyPost_ret (v:=.tuple #[.agg #[.slice none 0 0,.bool false],.bool false,.int .i64 0]) (by simp [results,Tryz.results38,go_sem,s0,s1,s2,s3,s4]) rfl (HBAD.out _ _ ⟨none,0,rfl,RT.nil _ _ _ (by omega),?_⟩)
   exact below_al (below_box HI.out.2.2.2.2 (by omega) _ _) _
  | true =>
   rw [h3] at HME
   simp only [if_true] at HME
   have hms:∀ z∈meetL xs zs,z.size≤5000:=fun z hz=>(meetL_mem h3 hz).elim (hsx z) (hsz z)
   have hml:(meetL xs zs).length≤5000:=by
    unfold meetL
    split
    ·rw [mzAll_len (by omega)];exact hlz
    ·rw [mzAll_len (by omega)];exact hlx
   have HC1:=lh (fun M n w h m k hm=>carry_any A c xs r M n (meetL xs zs) (r&&u) B d ys t w h m k hm hsx hms hml hsy)
   have HC2:=lh (fun M n w h m k hm=>carry_any C e zs u M n (meetL xs zs) (r&&u) D f vs v w h m k hm hsz hms hml hsv)
   have HCE1:Hid (carE xs r (meetL xs zs) (r&&u) ys t=if subE ys t (bndB xs r (meetL xs zs) (r&&u))=0 then 0 else 43):=lh rfl
   have HCE2:Hid (carE zs u (meetL xs zs) (r&&u) vs v=if subE vs v (bndB zs u (meetL xs zs) (r&&u))=0 then 0 else 43):=lh rfl
   by_cases h4:subE ys t (bndB xs r (meetL xs zs) (r&&u))=0
   ·have hce1:carE xs r (meetL xs zs) (r&&u) ys t=0:=by rw [HCE1.out,if_pos h4]
    rw [hce1] at HC1
    by_cases h5:subE vs v (bndB zs u (meetL xs zs) (r&&u))=0
    ·have hce2:carE zs u (meetL xs zs) (r&&u) vs v=0:=by rw [HCE2.out,if_pos h5]
     have hgood:agG xs r ys t zs u vs v=true:=ag_parts.2 ⟨h1,h3,hce1,hce2⟩
     have hA:=ag_start hgood
     have hZ:=hSZ hgood
     have hP:=hA.parts
     have p1:=check_zero hP.1
     have p2:=check_zero hP.2.1
     have p3:=check_zero hP.2.2
     have HEQ:=lh (fun M n E k G l w h1 h2 h3 hm=>equalize_any M n (meetL xs zs) (r&&u) E k (carL xs r (meetL xs zs) (r&&u) ys t) G l (carL zs u (meetL xs zs) (r&&u) vs v) w h1 h2 h3 hm (fun e=>hA.es e) hZ p1.1 p2.1 p3.1 (by have:=p1.2.1;omega) (by have:=p2.2.1;omega) (by have:=p3.2.1;omega))
     have HGOOD:Hid (∀ e' w',RetA w (eqT (meetL xs zs) (carL xs r (meetL xs zs) (r&&u) ys t) (carL zs u (meetL xs zs) (r&&u) vs v)).1 ((eqT (meetL xs zs) (carL xs r (meetL xs zs) (r&&u) ys t) (carL zs u (meetL xs zs) (r&&u) vs v)).2&&(r&&u)) (eqT (meetL xs zs) (carL xs r (meetL xs zs) (r&&u) ys t) (carL zs u (meetL xs zs) (r&&u) vs v)).2 0 e' w'→RetAg w xs r ys t zs u vs v e' w'):=lh (fun e' w' h=>by
      unfold RetAg agZ agE
      rw [if_pos hgood,if_neg (by simp [h1]),if_neg (by simp [h3]),if_neg (by simp [hce1]),hce2]
      exact h)
     rw [hce2] at HC2
     rw [hA.2.2.2.1] at HC1
     rw [hA.2.2.2.2] at HC2
     unfold RetP at HC1 HC2
     unfold RetM at HEQ
     unfold RetA at HGOOD
     unfold ruV at *
     clear hA hZ hP p1 p2 p3 hgood
     generalize eqT (meetL xs zs) (carL xs r (meetL xs zs) (r&&u) ys t) (carL zs u (meetL xs zs) (r&&u) vs v)=fin at *
     obtain ⟨us,ok⟩:=fin
     generalize carL xs r (meetL xs zs) (r&&u) ys t=ll at *
     generalize carL zs u (meetL xs zs) (r&&u) vs v=rl at *
     generalize meetL xs zs=mm at *
     generalize hmr:(r&&u)=mr at *
     clear hsx hsy hsz hsv hlx hlz h1 h3 hms hml HCE1 HCE2 h4 h5 hce1 hce2 hmr hSZ
     go_enter Tryz.func38,Tryz.ntmps38
     go_wp2_with (first
      | (go_at_call 57;refine (HCK.out _ (HI.go bB).out.2.2.1.1.1 (HI.go bB).out.2.2.1.1.2 (HI.go bB).out.2.2.1.2.1 (HI.go bB).out.2.2.1.2.2 (HI.go bB).out.2.2.2.1).mono ?_;rintro e w1 ⟨rfl,hb⟩;replace HI:=HI.go2 bB hb;clear hb;obtain ⟨⟨s0,s1,s2,s3,s4⟩,⟨⟨p1,p2,p3,p4,p5,p6⟩,⟨q1,q2,q3,q4,q5,q6⟩⟩,-⟩:=HI.out)
      | (go_at_call 58;refine (HME.out _ (HI.go bB).out.2.2.1.1.1 (HI.go bB).out.2.2.1.2.1).mono ?_;rintro e w3 ⟨M,n,rfl,hr,hb⟩;replace HI:=HI.go2 bB hb;clear hb;have HM:=At.rb2 (q:=mr) hr;have m1:=hr.1;have m2:=hr.2.1;clear hr;obtain ⟨⟨s0,s1,s2,s3,s4⟩,⟨⟨p1,p2,p3,p4,p5,p6⟩,⟨q1,q2,q3,q4,q5,q6⟩⟩,-⟩:=HI.out)
      | (go_at_call_of 59 (Value.agg #[.slice A xs.length c,.bool r]);refine (HC1.out _ _ _ (HI.go bB).out.2.2.1.1.1 (HM.go bB).out.2 (HI.go bB).out.2.2.1.1.2 (HI.go bB).out.2.2.2.1).mono ?_;rintro e w4 ⟨E,k,rfl,hr,hb⟩;replace HM:=HM.go2 bB hb;replace HI:=HI.go2 bB hb;clear hb;have HD:=At.rb2 (q:=mr) hr;have d1:=hr.1;have d2:=hr.2.1;clear hr;obtain ⟨⟨s0,s1,s2,s3,s4⟩,⟨⟨p1,p2,p3,p4,p5,p6⟩,⟨q1,q2,q3,q4,q5,q6⟩⟩,-⟩:=HI.out;obtain ⟨⟨m3,m4,m5,m6,m7⟩,-⟩:=HM.out)
      | (go_at_call_of 59 (Value.agg #[.slice C zs.length e,.bool u]);refine (HC2.out _ _ _ (HI.go bB).out.2.2.1.2.1 (HM.go bB).out.2 (HI.go bB).out.2.2.1.2.2 (HI.go bB).out.2.2.2.1).mono ?_;rintro e w5 ⟨G,l,rfl,hr,hb⟩;replace HM:=HM.go2 bB hb;replace HD:=HD.go2 bB hb;replace HI:=HI.go2 bB hb;clear hb;have HG:=At.rb2 (q:=mr) hr;have g1:=hr.1;have g2:=hr.2.1;clear hr;obtain ⟨⟨s0,s1,s2,s3,s4⟩,⟨⟨p1,p2,p3,p4,p5,p6⟩,⟨q1,q2,q3,q4,q5,q6⟩⟩,-⟩:=HI.out;obtain ⟨⟨d3,d4,d5,d6,d7⟩,-⟩:=HD.out;obtain ⟨⟨m3,m4,m5,m6,m7⟩,-⟩:=HM.out)
      | (go_at_call 73;refine (HEQ.out _ _ _ _ _ _ _ (HM.go bB).out.2 (HD.go bB).out.2 (HG.go bB).out.2 (HI.go bB).out.2.2.2.1).mono ?_;rintro e w6 ⟨F,i,rfl,hr,hb⟩;replace HM:=HM.go2 bB hb;replace HI:=HI.go2 bB hb;clear hb;have HR:=lh hr;have i1:=hr.1;have i2:=hr.2.1;clear hr;obtain ⟨⟨s0,s1,s2,s3,s4⟩,⟨⟨p1,p2,p3,p4,p5,p6⟩,⟨q1,q2,q3,q4,q5,q6⟩⟩,-⟩:=HI.out;obtain ⟨⟨m3,m4,m5,m6,m7⟩,-⟩:=HM.out))
     refine bodyPost_ret (v:=.tuple #[.agg #[.slice F us.length i,.bool (ok&&mr)],.bool ok,.int .i64 0]) (by simp [results,Tryz.results38,go_sem,s0,s1,s2,s3,s4,m3,m4,m5,m6]) rfl (HGOOD.out _ _ ⟨F,i,rfl,?_,?_⟩)
     ·exact (HR.out.box HM.out.1 (slice_ns _ _ _) (bool_ns _) _ _).box ((HI.out.1.set_cell _ (by simp;omega) _).set_cell _ (by simp;omega) _) (slice_ns _ _ _) (bool_ns _) _ _
     ·exact below_box (below_box HI.out.2.2.2.2 (by omega) _ _) (by omega) _ _
    ·have hce2:carE zs u (meetL xs zs) (r&&u) vs v=43:=by rw [HCE2.out,if_neg h5]
     have HBAD:=lh (fun e' w' h=>ag_bad (w:=w) (e:=e') (w':=w') (xs:=xs) (ys:=ys) (zs:=zs) (vs:=vs) (r:=r) (t:=t) (u:=u) (v:=v) (n:=43) (by unfold agG;rw [hce2];simp) (by unfold agE;rw [if_neg (by simp [h1]),if_neg (by simp [h3]),if_neg (by simp [hce1]),hce2]) h)
     rw [hce2] at HC2
     unfold ruV at *
     generalize carL xs r (meetL xs zs) (r&&u) ys t=ll at *
     generalize carR xs r (meetL xs zs) (r&&u) ys t=lr at *
     generalize carL zs u (meetL xs zs) (r&&u) vs v=rl at *
     generalize carR zs u (meetL xs zs) (r&&u) vs v=rr at *
     generalize meetL xs zs=mm at *
     generalize hmr:(r&&u)=mr at *
     clear hsx hsy hsz hsv hlx hlz h1 h3 hms hml HCE1 HCE2 h4 h5 hce1 hce2 hmr hSZ
     go_enter Tryz.func38,Tryz.ntmps38
     go_wp2_with (first
      | (go_at_call 57;refine (HCK.out _ (HI.go bB).out.2.2.1.1.1 (HI.go bB).out.2.2.1.1.2 (HI.go bB).out.2.2.1.2.1 (HI.go bB).out.2.2.1.2.2 (HI.go bB).out.2.2.2.1).mono ?_;rintro e w1 ⟨rfl,hb⟩;replace HI:=HI.go2 bB hb;clear hb;obtain ⟨⟨s0,s1,s2,s3,s4⟩,⟨⟨p1,p2,p3,p4,p5,p6⟩,⟨q1,q2,q3,q4,q5,q6⟩⟩,-⟩:=HI.out)
      | (go_at_call 58;refine (HME.out _ (HI.go bB).out.2.2.1.1.1 (HI.go bB).out.2.2.1.2.1).mono ?_;rintro e w3 ⟨M,n,rfl,hr,hb⟩;replace HI:=HI.go2 bB hb;clear hb;have HM:=At.rb2 (q:=mr) hr;have m1:=hr.1;have m2:=hr.2.1;clear hr;obtain ⟨⟨s0,s1,s2,s3,s4⟩,⟨⟨p1,p2,p3,p4,p5,p6⟩,⟨q1,q2,q3,q4,q5,q6⟩⟩,-⟩:=HI.out)
      | (go_at_call_of 59 (Value.agg #[.slice A xs.length c,.bool r]);refine (HC1.out _ _ _ (HI.go bB).out.2.2.1.1.1 (HM.go bB).out.2 (HI.go bB).out.2.2.1.1.2 (HI.go bB).out.2.2.2.1).mono ?_;rintro e w4 ⟨E,k,rfl,hr,hb⟩;replace HM:=HM.go2 bB hb;replace HI:=HI.go2 bB hb;clear hb;have HD:=At.rb2 (q:=lr) hr;have d1:=hr.1;have d2:=hr.2.1;clear hr;obtain ⟨⟨s0,s1,s2,s3,s4⟩,⟨⟨p1,p2,p3,p4,p5,p6⟩,⟨q1,q2,q3,q4,q5,q6⟩⟩,-⟩:=HI.out;obtain ⟨⟨m3,m4,m5,m6,m7⟩,-⟩:=HM.out)
      | (go_at_call_of 59 (Value.agg #[.slice C zs.length e,.bool u]);refine (HC2.out _ _ _ (HI.go bB).out.2.2.1.2.1 (HM.go bB).out.2 (HI.go bB).out.2.2.1.2.2 (HI.go bB).out.2.2.2.1).mono ?_;rintro e w5 ⟨G,l,rfl,hr,hb⟩;replace HM:=HM.go2 bB hb;replace HD:=HD.go2 bB hb;replace HI:=HI.go2 bB hb;clear hb;have HG:=At.rb2 (q:=rr) hr;have g1:=hr.1;have g2:=hr.2.1;clear hr;obtain ⟨⟨s0,s1,s2,s3,s4⟩,⟨⟨p1,p2,p3,p4,p5,p6⟩,⟨q1,q2,q3,q4,q5,q6⟩⟩,-⟩:=HI.out;obtain ⟨⟨d3,d4,d5,d6,d7⟩,-⟩:=HD.out;obtain ⟨⟨m3,m4,m5,m6,m7⟩,-⟩:=HM.out)
      | (go_at_call 73;refine (HEQ.out _ _ _ _ _ _ _ (HM.go bB).out.2 (HD.go bB).out.2 (HG.go bB).out.2 (HI.go bB).out.2.2.2.1).mono ?_;rintro e w6 ⟨F,i,rfl,hr,hb⟩;replace HM:=HM.go2 bB hb;replace HI:=HI.go2 bB hb;clear hb;have HR:=lh hr;have i1:=hr.1;have i2:=hr.2.1;clear hr;obtain ⟨⟨s0,s1,s2,s3,s4⟩,⟨⟨p1,p2,p3,p4,p5,p6⟩,⟨q1,q2,q3,q4,q5,q6⟩⟩,-⟩:=HI.out;obtain ⟨⟨m3,m4,m5,m6,m7⟩,-⟩:=HM.out))
     refine bodyPost_ret (v:=.tuple #[.agg #[.slice none 0 0,.bool false],.bool false,.int .i64 43]) (by simp [results,Tryz.results38,go_sem,s0,s1,s2,s3,s4]) rfl (HBAD.out _ _ ⟨none,0,rfl,RT.nil _ _ _ (by omega),?_⟩)
     exact below_al (below_box HI.out.2.2.2.2 (by omega) _ _) _
   ·have hce1:carE xs r (meetL xs zs) (r&&u) ys t=43:=by rw [HCE1.out,if_neg h4]
    have HBAD:=lh (fun e' w' h=>ag_bad (w:=w) (e:=e') (w':=w') (xs:=xs) (ys:=ys) (zs:=zs) (vs:=vs) (r:=r) (t:=t) (u:=u) (v:=v) (n:=43) (by unfold agG;rw [hce1];simp) (by unfold agE;rw [if_neg (by simp [h1]),if_neg (by simp [h3]),if_pos (by rw [hce1];decide)]) h)
    rw [hce1] at HC1
    unfold ruV at *
    generalize carL xs r (meetL xs zs) (r&&u) ys t=ll at *
    generalize carR xs r (meetL xs zs) (r&&u) ys t=lr at *
    generalize meetL xs zs=mm at *
    generalize hmr:(r&&u)=mr at *
    clear hsx hsy hsz hsv hlx hlz h1 h3 hms hml HCE1 HCE2 h4 hce1 hmr HC2 hSZ
    go_enter Tryz.func38,Tryz.ntmps38
    go_wp2_with (first
     | (go_at_call 57;refine (HCK.out _ (HI.go bB).out.2.2.1.1.1 (HI.go bB).out.2.2.1.1.2 (HI.go bB).out.2.2.1.2.1 (HI.go bB).out.2.2.1.2.2 (HI.go bB).out.2.2.2.1).mono ?_;rintro e w1 ⟨rfl,hb⟩;replace HI:=HI.go2 bB hb;clear hb;obtain ⟨⟨s0,s1,s2,s3,s4⟩,⟨⟨p1,p2,p3,p4,p5,p6⟩,⟨q1,q2,q3,q4,q5,q6⟩⟩,-⟩:=HI.out)
     | (go_at_call 58;refine (HME.out _ (HI.go bB).out.2.2.1.1.1 (HI.go bB).out.2.2.1.2.1).mono ?_;rintro e w3 ⟨M,n,rfl,hr,hb⟩;replace HI:=HI.go2 bB hb;clear hb;have HM:=At.rb2 (q:=mr) hr;have m1:=hr.1;have m2:=hr.2.1;clear hr;obtain ⟨⟨s0,s1,s2,s3,s4⟩,⟨⟨p1,p2,p3,p4,p5,p6⟩,⟨q1,q2,q3,q4,q5,q6⟩⟩,-⟩:=HI.out)
     | (go_at_call_of 59 (Value.agg #[.slice A xs.length c,.bool r]);refine (HC1.out _ _ _ (HI.go bB).out.2.2.1.1.1 (HM.go bB).out.2 (HI.go bB).out.2.2.1.1.2 (HI.go bB).out.2.2.2.1).mono ?_;rintro e w4 ⟨E,k,rfl,hr,hb⟩;replace HM:=HM.go2 bB hb;replace HI:=HI.go2 bB hb;clear hb;have HD:=At.rb2 (q:=lr) hr;have d1:=hr.1;have d2:=hr.2.1;clear hr;obtain ⟨⟨s0,s1,s2,s3,s4⟩,⟨⟨p1,p2,p3,p4,p5,p6⟩,⟨q1,q2,q3,q4,q5,q6⟩⟩,-⟩:=HI.out;obtain ⟨⟨m3,m4,m5,m6,m7⟩,-⟩:=HM.out)
     | (go_at_call_of 59 (Value.agg #[.slice C zs.length e,.bool u]);refine (HC2.out _ _ _ (HI.go bB).out.2.2.1.2.1 (HM.go bB).out.2 (HI.go bB).out.2.2.1.2.2 (HI.go bB).out.2.2.2.1).mono ?_;rintro e w5 ⟨G,l,rfl,hr,hb⟩;replace HM:=HM.go2 bB hb;replace HD:=HD.go2 bB hb;replace HI:=HI.go2 bB hb;clear hb;have HG:=At.rb2 (q:=rr) hr;have g1:=hr.1;have g2:=hr.2.1;clear hr;obtain ⟨⟨s0,s1,s2,s3,s4⟩,⟨⟨p1,p2,p3,p4,p5,p6⟩,⟨q1,q2,q3,q4,q5,q6⟩⟩,-⟩:=HI.out;obtain ⟨⟨d3,d4,d5,d6,d7⟩,-⟩:=HD.out;obtain ⟨⟨m3,m4,m5,m6,m7⟩,-⟩:=HM.out)
     | (go_at_call 73;refine (HEQ.out _ _ _ _ _ _ _ (HM.go bB).out.2 (HD.go bB).out.2 (HG.go bB).out.2 (HI.go bB).out.2.2.2.1).mono ?_;rintro e w6 ⟨F,i,rfl,hr,hb⟩;replace HM:=HM.go2 bB hb;replace HI:=HI.go2 bB hb;clear hb;have HR:=lh hr;have i1:=hr.1;have i2:=hr.2.1;clear hr;obtain ⟨⟨s0,s1,s2,s3,s4⟩,⟨⟨p1,p2,p3,p4,p5,p6⟩,⟨q1,q2,q3,q4,q5,q6⟩⟩,-⟩:=HI.out;obtain ⟨⟨m3,m4,m5,m6,m7⟩,-⟩:=HM.out))
    refine bodyPost_ret (v:=.tuple #[.agg #[.slice none 0 0,.bool false],.bool false,.int .i64 43]) (by simp [results,Tryz.results38,go_sem,s0,s1,s2,s3,s4]) rfl (HBAD.out _ _ ⟨none,0,rfl,RT.nil _ _ _ (by omega),?_⟩)
    exact below_al (below_box HI.out.2.2.2.2 (by omega) _ _) _
 ·have HBAD:=lh (fun e' w' h=>ag_bad (w:=w) (e:=e') (w':=w') (xs:=xs) (ys:=ys) (zs:=zs) (vs:=vs) (r:=r) (t:=t) (u:=u) (v:=v) (n:=chkE xs r ys t zs u vs v) (by unfold agG;rw [beq_eq_false_iff_ne.2 h1];simp) (by unfold agE;rw [if_pos h1]) h)
  have hnB:(chkE xs r ys t zs u vs v != 0)=true:=by rw [bne_iff_ne];exact h1
  unfold ruV at *
  clear hsx hsy hsz hsv hlx hlz h1 HME hSZ
  generalize chkE xs r ys t zs u vs v=nn at *
  go_enter Tryz.func38,Tryz.ntmps38
  go_wp2_with (first
   | (go_at_call 57;refine (HCK.out _ (HI.go bB).out.2.2.1.1.1 (HI.go bB).out.2.2.1.1.2 (HI.go bB).out.2.2.1.2.1 (HI.go bB).out.2.2.1.2.2 (HI.go bB).out.2.2.2.1).mono ?_;rintro e w1 ⟨rfl,hb⟩;replace HI:=HI.go2 bB hb;clear hb;obtain ⟨⟨s0,s1,s2,s3,s4⟩,⟨⟨p1,p2,p3,p4,p5,p6⟩,⟨q1,q2,q3,q4,q5,q6⟩⟩,-⟩:=HI.out)
   | (go_at_call 58;refine (HME.out _ (HI.go bB).out.2.2.1.1.1 (HI.go bB).out.2.2.1.2.1).mono ?_;rintro e w3 ⟨M,n,rfl,hr,hb⟩;replace HI:=HI.go2 bB hb;clear hb;have HM:=At.rb2 (q:=mr) hr;have m1:=hr.1;have m2:=hr.2.1;clear hr;obtain ⟨⟨s0,s1,s2,s3,s4⟩,⟨⟨p1,p2,p3,p4,p5,p6⟩,⟨q1,q2,q3,q4,q5,q6⟩⟩,-⟩:=HI.out)
   | (go_at_call_of 59 (Value.agg #[.slice A xs.length c,.bool r]);refine (HC1.out _ _ _ (HI.go bB).out.2.2.1.1.1 (HM.go bB).out.2 (HI.go bB).out.2.2.1.1.2 (HI.go bB).out.2.2.2.1).mono ?_;rintro e w4 ⟨E,k,rfl,hr,hb⟩;replace HM:=HM.go2 bB hb;replace HI:=HI.go2 bB hb;clear hb;have HD:=At.rb2 (q:=lr) hr;have d1:=hr.1;have d2:=hr.2.1;clear hr;obtain ⟨⟨s0,s1,s2,s3,s4⟩,⟨⟨p1,p2,p3,p4,p5,p6⟩,⟨q1,q2,q3,q4,q5,q6⟩⟩,-⟩:=HI.out;obtain ⟨⟨m3,m4,m5,m6,m7⟩,-⟩:=HM.out)
   | (go_at_call_of 59 (Value.agg #[.slice C zs.length e,.bool u]);refine (HC2.out _ _ _ (HI.go bB).out.2.2.1.2.1 (HM.go bB).out.2 (HI.go bB).out.2.2.1.2.2 (HI.go bB).out.2.2.2.1).mono ?_;rintro e w5 ⟨G,l,rfl,hr,hb⟩;replace HM:=HM.go2 bB hb;replace HD:=HD.go2 bB hb;replace HI:=HI.go2 bB hb;clear hb;have HG:=At.rb2 (q:=rr) hr;have g1:=hr.1;have g2:=hr.2.1;clear hr;obtain ⟨⟨s0,s1,s2,s3,s4⟩,⟨⟨p1,p2,p3,p4,p5,p6⟩,⟨q1,q2,q3,q4,q5,q6⟩⟩,-⟩:=HI.out;obtain ⟨⟨d3,d4,d5,d6,d7⟩,-⟩:=HD.out;obtain ⟨⟨m3,m4,m5,m6,m7⟩,-⟩:=HM.out)
   | (go_at_call 73;refine (HEQ.out _ _ _ _ _ _ _ (HM.go bB).out.2 (HD.go bB).out.2 (HG.go bB).out.2 (HI.go bB).out.2.2.2.1).mono ?_;rintro e w6 ⟨F,i,rfl,hr,hb⟩;replace HM:=HM.go2 bB hb;replace HI:=HI.go2 bB hb;clear hb;have HR:=lh hr;have i1:=hr.1;have i2:=hr.2.1;clear hr;obtain ⟨⟨s0,s1,s2,s3,s4⟩,⟨⟨p1,p2,p3,p4,p5,p6⟩,⟨q1,q2,q3,q4,q5,q6⟩⟩,-⟩:=HI.out;obtain ⟨⟨m3,m4,m5,m6,m7⟩,-⟩:=HM.out))
  refine bodyPost_ret (v:=.tuple #[.agg #[.slice none 0 0,.bool false],.bool false,.int .i64 nn]) (by simp [results,Tryz.results38,go_sem,s0,s1,s2,s3,s4]) rfl (HBAD.out _ _ ⟨none,0,rfl,RT.nil _ _ _ (by omega),?_⟩)
  exact below_box HI.out.2.2.2.2 (by omega) _ _
end Go.Proofs.YtelkmeiepliecaaGreatDoor
