/-
  Part 26 of the proof.
-/
import Derived.Test.YtelkmeiepliecaaGreatDoorU15
set_option linter.unusedSimpArgs false
set_option linter.unusedVariables false
set_option maxHeartbeats 16000000
namespace Go.Proofs.YtelkmeiepliecaaGreatDoor
open Go.RowKit
open Pm
theorem narrowL_any (ex:Bool) (A:Option Addr) (c:Nat) (xs:List ByteArray) (r:Bool) (B:Option Addr) (d:Nat) (ys:List ByteArray) (t:Bool) (C:Option Addr) (e:Nat) (zs:List ByteArray) (u:Bool) (w:World) (h:RT w A c xs) (k:RT w B d ys) (l:RT w C e zs) (hm:ML w)
 (hsx:∀ x∈xs,x.size≤5000) (hsy:∀ x∈ys,x.size≤5000) (hsz:∀ x∈zs,x.size≤5000) (hlx:xs.length≤5000) (hlz:zs.length≤5000) :
 Calls Tryz.prog 44 #[ruV ex A c xs r B d ys t,.agg #[.slice C zs.length e,.bool u]] w (RetNar w xs r ys t zs u):=by
 have HI:=PNL.enter h k l hm ex r t u 57 45
 have HCK:=lh (fun w h k m=>ruleCheck_any ex A B c d xs ys r t w h k m hsx hsy)
 have HCP:=lh (fun w l=>check_any C e zs u w l (five9 hsz))
 have HME:=lh (fun w h l=>(meet_any A C c e xs zs r u w h l (five9 hsx) (five9 hsz)).mono fun _ _ h=>RetM.two h)
 have hx1:=h.1
 have hx2:=h.2.1
 have hy1:=k.1
 have hy2:=k.2.1
 have hz1:=l.1
 have hz2:=l.2.1
 clear h k l hm
 by_cases h1:ruleE xs r ys t=0
 ·by_cases h2:checkP zs u=0
  ·rw [h1] at HCK
   rw [h2] at HCP
   cases h3:meetOk xs zs r u with
   | false =>
    have HBAD:=lh (fun e w' h=>nar_bad (w:=w) (e:=e) (w':=w') (xs:=xs) (ys:=ys) (zs:=zs) (r:=r) (t:=t) (u:=u) (n:=0) (by unfold narO;rw [h3];simp) (by unfold narE;rw [if_neg (by simp [h1]),if_neg (by simp [h2]),if_pos h3]) h)
    rw [h3] at HME
    simp only [Bool.false_eq_true,if_false] at HME
    obtain ⟨mr,hmr⟩:∃ mr,mr=false:=⟨_,rfl⟩
    unfold ruV at *
    clear hsx hsy hsz hlx hlz h1 h2 h3 hmr
    go_enter Tryz.func44,Tryz.ntmps44
    go_wp2_with (first
     | (go_at_call 60;refine (HCK.out _ (HI.go bB).out.2.2.1.1 (HI.go bB).out.2.2.1.2.1 (HI.go bB).out.2.2.2.1).mono ?_;rintro e w1 ⟨rfl,hb⟩;replace HI:=HI.go2 bB hb;clear hb;obtain ⟨⟨⟨p1,p2,p3,p4,p5,p6⟩,⟨q1,q2,q3,q4,q5⟩⟩,⟨⟨s0,s1,s2,s3,s4,s5⟩,⟨f0,f1,f2,f3,f4,f5⟩⟩⟩:=PNL.cells HI)
     | (go_at_call 77;refine (HCP.out _ (HI.go bB).out.2.2.1.2.2).mono ?_;rintro e w2 ⟨rfl,hb⟩;replace HI:=HI.go2 bB hb;clear hb;obtain ⟨⟨⟨p1,p2,p3,p4,p5,p6⟩,⟨q1,q2,q3,q4,q5⟩⟩,⟨⟨s0,s1,s2,s3,s4,s5⟩,⟨f0,f1,f2,f3,f4,f5⟩⟩⟩:=PNL.cells HI)
     | (go_at_call 58;refine (HME.out _ (HI.go bB).out.2.2.1.1 (HI.go bB).out.2.2.1.2.2).mono ?_;rintro e w3 ⟨M,n,rfl,hr,hb⟩;replace HI:=HI.go2 bB hb;clear hb;have HM:=At.rb2 (q:=mr) hr;have m1:=hr.1;have m2:=hr.2.1;clear hr;obtain ⟨⟨⟨p1,p2,p3,p4,p5,p6⟩,⟨q1,q2,q3,q4,q5⟩⟩,⟨⟨s0,s1,s2,s3,s4,s5⟩,⟨f0,f1,f2,f3,f4,f5⟩⟩⟩:=PNL.cells HI)
     | (go_at_call 59;refine (HCA.out _ _ _ (HI.go bB).out.2.2.1.1 (HM.go bB).out.2 (HI.go bB).out.2.2.1.2.1 (HI.go bB).out.2.2.2.1).mono ?_;rintro e w4 ⟨D,k,rfl,hr,hb⟩;replace HM:=HM.go2 bB hb;replace HI:=HI.go2 bB hb;clear hb;have HD:=At.rb2 (q:=dr) hr;have HD0:=lh hr;have d1:=hr.1;have d2:=hr.2.1;clear hr;obtain ⟨⟨⟨p1,p2,p3,p4,p5,p6⟩,⟨q1,q2,q3,q4,q5⟩⟩,⟨⟨s0,s1,s2,s3,s4,s5⟩,⟨f0,f1,f2,f3,f4,f5⟩⟩⟩:=PNL.cells HI;obtain ⟨⟨m3,m4,m5,m6,m7⟩,-⟩:=HM.out))
    refine bodyPost_ret (v:=.tuple #[.agg #[.bool false,.slice none 0 0,.bool false,.slice none 0 0,.bool false],.bool false,.int .i64 0]) (by simp [results,Tryz.results44,go_sem,s0,s1,s2,s3,s4,s5,f0,f1,f2,f3,f4]) rfl (HBAD.out _ _ ⟨none,0,none,0,rfl,RT.nil _ _ _ (by omega),RT.nil _ _ _ (by omega),?_⟩)
    exact below_al (below_set5 HI.out.2.2.2.2 (by omega) _ _ _ _ _) _
   | true =>
    rw [h3] at HME
    simp only [if_true] at HME
    have hms:∀ z∈meetL xs zs,z.size≤5000:=fun z hz=>(meetL_mem h3 hz).elim (hsx z) (hsz z)
    have hml:(meetL xs zs).length≤5000:=by
     unfold meetL
     split
     ·rw [mzAll_len (by omega)];exact hlz
     ·rw [mzAll_len (by omega)];exact hlx
    have HCA:=lh (fun M n w h m k hm=>carry_any A c xs r M n (meetL xs zs) (r&&u) B d ys t w h m k hm hsx hms hml hsy)
    have HO:Hid (narO xs r ys t zs u=(carE xs r (meetL xs zs) (r&&u) ys t==0)):=lh (by unfold narO;rw [h1,h2,h3];rfl)
    have HN:Hid (narE xs r ys t zs u=carE xs r (meetL xs zs) (r&&u) ys t):=lh (by unfold narE;rw [if_neg (by simp [h1]),if_neg (by simp [h2]),if_neg (by simp [h3])])
    have HCE:Hid (carE xs r (meetL xs zs) (r&&u) ys t=if subE ys t (bndB xs r (meetL xs zs) (r&&u))=0 then 0 else 43):=lh rfl
    by_cases h4:subE ys t (bndB xs r (meetL xs zs) (r&&u))=0
    ·have hce:carE xs r (meetL xs zs) (r&&u) ys t=0:=by rw [HCE.out,if_pos h4]
     have HGOOD:=lh (fun e w' h=>nar_good (w:=w) (e:=e) (w':=w') (xs:=xs) (ys:=ys) (zs:=zs) (r:=r) (t:=t) (u:=u) (by rw [HO.out,hce];rfl) h)
     unfold ruV at *
     rw [hce] at HCA
     have e1:subL ys t (bndB xs r (meetL xs zs) (r&&u))=carL xs r (meetL xs zs) (r&&u) ys t:=rfl
     have e2:subR ys t (bndB xs r (meetL xs zs) (r&&u))=carR xs r (meetL xs zs) (r&&u) ys t:=rfl
     generalize carL xs r (meetL xs zs) (r&&u) ys t=dl at *
     generalize carR xs r (meetL xs zs) (r&&u) ys t=dr at *
     generalize bndB xs r (meetL xs zs) (r&&u)=bs at *
     generalize withinOk insB (meetL xs zs) xs (r&&u) r=wo at *
     generalize meetL xs zs=mm at *
     generalize hmr:(r&&u)=mr at *
     clear hsx hsy hsz hlx hlz h1 h2 h3 hms hml HO HN HCE hce h4 hmr e1 e2
     go_enter Tryz.func44,Tryz.ntmps44
     go_wp2_with (first
      | (go_at_call 60;refine (HCK.out _ (HI.go bB).out.2.2.1.1 (HI.go bB).out.2.2.1.2.1 (HI.go bB).out.2.2.2.1).mono ?_;rintro e w1 ⟨rfl,hb⟩;replace HI:=HI.go2 bB hb;clear hb;obtain ⟨⟨⟨p1,p2,p3,p4,p5,p6⟩,⟨q1,q2,q3,q4,q5⟩⟩,⟨⟨s0,s1,s2,s3,s4,s5⟩,⟨f0,f1,f2,f3,f4,f5⟩⟩⟩:=PNL.cells HI)
      | (go_at_call 77;refine (HCP.out _ (HI.go bB).out.2.2.1.2.2).mono ?_;rintro e w2 ⟨rfl,hb⟩;replace HI:=HI.go2 bB hb;clear hb;obtain ⟨⟨⟨p1,p2,p3,p4,p5,p6⟩,⟨q1,q2,q3,q4,q5⟩⟩,⟨⟨s0,s1,s2,s3,s4,s5⟩,⟨f0,f1,f2,f3,f4,f5⟩⟩⟩:=PNL.cells HI)
      | (go_at_call 58;refine (HME.out _ (HI.go bB).out.2.2.1.1 (HI.go bB).out.2.2.1.2.2).mono ?_;rintro e w3 ⟨M,n,rfl,hr,hb⟩;replace HI:=HI.go2 bB hb;clear hb;have HM:=At.rb2 (q:=mr) hr;have m1:=hr.1;have m2:=hr.2.1;clear hr;obtain ⟨⟨⟨p1,p2,p3,p4,p5,p6⟩,⟨q1,q2,q3,q4,q5⟩⟩,⟨⟨s0,s1,s2,s3,s4,s5⟩,⟨f0,f1,f2,f3,f4,f5⟩⟩⟩:=PNL.cells HI)
      | (go_at_call 59;refine (HCA.out _ _ _ (HI.go bB).out.2.2.1.1 (HM.go bB).out.2 (HI.go bB).out.2.2.1.2.1 (HI.go bB).out.2.2.2.1).mono ?_;rintro e w4 ⟨D,k,rfl,hr,hb⟩;replace HM:=HM.go2 bB hb;replace HI:=HI.go2 bB hb;clear hb;have HD:=At.rb2 (q:=dr) hr;have HD0:=lh hr;have d1:=hr.1;have d2:=hr.2.1;clear hr;obtain ⟨⟨⟨p1,p2,p3,p4,p5,p6⟩,⟨q1,q2,q3,q4,q5⟩⟩,⟨⟨s0,s1,s2,s3,s4,s5⟩,⟨f0,f1,f2,f3,f4,f5⟩⟩⟩:=PNL.cells HI;obtain ⟨⟨m3,m4,m5,m6,m7⟩,-⟩:=HM.out))
     refine bodyPost_ret (v:=.tuple #[.agg #[.bool false,.slice M mm.length n,.bool mr,.slice D dl.length k,.bool dr],.bool true,.int .i64 0]) (by simp [results,Tryz.results44,go_sem,s0,s1,s2,s3,s4,s5,f0,f1,f2,f3,f4]) rfl (HGOOD.out _ _ ⟨M,n,D,k,rfl,?_,?_,?_⟩)
     ·exact (HM.out.2.set5 HI.out.2.1.1 (bool_ns _) (slice_ns _ _ _) (bool_ns _) (slice_ns _ _ _) (bool_ns _) _ _ _ _ _).below (ba _ _)
     ·exact (HD0.out.set5 HI.out.2.1.1 (bool_ns _) (slice_ns _ _ _) (bool_ns _) (slice_ns _ _ _) (bool_ns _) _ _ _ _ _).below (ba _ _)
     ·exact below_al (below_set5 HI.out.2.2.2.2 (by omega) _ _ _ _ _) _
    ·have hce:carE xs r (meetL xs zs) (r&&u) ys t=43:=by rw [HCE.out,if_neg h4]
     have hse:=sub_err rfl h4
     have HBAD:=lh (fun e w' h=>nar_bad (w:=w) (e:=e) (w':=w') (xs:=xs) (ys:=ys) (zs:=zs) (r:=r) (t:=t) (u:=u) (n:=43) (by rw [HO.out,hce];rfl) (by rw [HN.out,hce]) h)
     have hnB:(subE ys t (bndB xs r (meetL xs zs) (r&&u)) != 0)=true:=by rw [bne_iff_ne];exact h4
     unfold ruV at *
     rw [hce] at HCA
     have e1:carL xs r (meetL xs zs) (r&&u) ys t=[]:=hse.1
     have e2:carR xs r (meetL xs zs) (r&&u) ys t=false:=hse.2
     rw [e1,e2] at HCA
     obtain ⟨dr,hdr⟩:∃ dr,dr=false:=⟨_,rfl⟩
     rw [←hdr] at HCA
     generalize subE ys t (bndB xs r (meetL xs zs) (r&&u))=ee at *
     generalize bndB xs r (meetL xs zs) (r&&u)=bs at *
     generalize withinOk insB (meetL xs zs) xs (r&&u) r=wo at *
     generalize meetL xs zs=mm at *
     generalize hmr:(r&&u)=mr at *
     clear hsx hsy hsz hlx hlz h1 h2 h3 hms hml HO HN HCE hce h4 hmr e1 e2 hse hdr
     go_enter Tryz.func44,Tryz.ntmps44
     go_wp2_with (first
      | (go_at_call 60;refine (HCK.out _ (HI.go bB).out.2.2.1.1 (HI.go bB).out.2.2.1.2.1 (HI.go bB).out.2.2.2.1).mono ?_;rintro e w1 ⟨rfl,hb⟩;replace HI:=HI.go2 bB hb;clear hb;obtain ⟨⟨⟨p1,p2,p3,p4,p5,p6⟩,⟨q1,q2,q3,q4,q5⟩⟩,⟨⟨s0,s1,s2,s3,s4,s5⟩,⟨f0,f1,f2,f3,f4,f5⟩⟩⟩:=PNL.cells HI)
      | (go_at_call 77;refine (HCP.out _ (HI.go bB).out.2.2.1.2.2).mono ?_;rintro e w2 ⟨rfl,hb⟩;replace HI:=HI.go2 bB hb;clear hb;obtain ⟨⟨⟨p1,p2,p3,p4,p5,p6⟩,⟨q1,q2,q3,q4,q5⟩⟩,⟨⟨s0,s1,s2,s3,s4,s5⟩,⟨f0,f1,f2,f3,f4,f5⟩⟩⟩:=PNL.cells HI)
      | (go_at_call 58;refine (HME.out _ (HI.go bB).out.2.2.1.1 (HI.go bB).out.2.2.1.2.2).mono ?_;rintro e w3 ⟨M,n,rfl,hr,hb⟩;replace HI:=HI.go2 bB hb;clear hb;have HM:=At.rb2 (q:=mr) hr;have m1:=hr.1;have m2:=hr.2.1;clear hr;obtain ⟨⟨⟨p1,p2,p3,p4,p5,p6⟩,⟨q1,q2,q3,q4,q5⟩⟩,⟨⟨s0,s1,s2,s3,s4,s5⟩,⟨f0,f1,f2,f3,f4,f5⟩⟩⟩:=PNL.cells HI)
      | (go_at_call 59;refine (HCA.out _ _ _ (HI.go bB).out.2.2.1.1 (HM.go bB).out.2 (HI.go bB).out.2.2.1.2.1 (HI.go bB).out.2.2.2.1).mono ?_;rintro e w4 ⟨D,k,rfl,hr,hb⟩;replace HM:=HM.go2 bB hb;replace HI:=HI.go2 bB hb;clear hb;have HD:=At.rb2 (q:=dr) hr;have HD0:=lh hr;have d1:=hr.1;have d2:=hr.2.1;clear hr;obtain ⟨⟨⟨p1,p2,p3,p4,p5,p6⟩,⟨q1,q2,q3,q4,q5⟩⟩,⟨⟨s0,s1,s2,s3,s4,s5⟩,⟨f0,f1,f2,f3,f4,f5⟩⟩⟩:=PNL.cells HI;obtain ⟨⟨m3,m4,m5,m6,m7⟩,-⟩:=HM.out))
     refine bodyPost_ret (v:=.tuple #[.agg #[.bool false,.slice none 0 0,.bool false,.slice none 0 0,.bool false],.bool false,.int .i64 43]) (by simp [results,Tryz.results44,go_sem,s0,s1,s2,s3,s4,s5,f0,f1,f2,f3,f4]) rfl (HBAD.out _ _ ⟨none,0,none,0,rfl,RT.nil _ _ _ (by omega),RT.nil _ _ _ (by omega),?_⟩)
     exact below_al (below_set5 HI.out.2.2.2.2 (by omega) _ _ _ _ _) _
  ·have HBAD:=lh (fun e w' h=>nar_bad (w:=w) (e:=e) (w':=w') (xs:=xs) (ys:=ys) (zs:=zs) (r:=r) (t:=t) (u:=u) (n:=checkP zs u) (by unfold narO;rw [beq_eq_false_iff_ne.2 h2];simp) (by unfold narE;rw [if_neg (by simp [h1]),if_pos h2]) h)
   have hnB:(checkP zs u != 0)=true:=by rw [bne_iff_ne];exact h2
   rw [h1] at HCK
   unfold ruV at *
   clear hsx hsy hsz hlx hlz h1 h2 HME
   generalize checkP zs u=nz at *
   go_enter Tryz.func44,Tryz.ntmps44
   go_wp2_with (first
    | (go_at_call 60;refine (HCK.out _ (HI.go bB).out.2.2.1.1 (HI.go bB).out.2.2.1.2.1 (HI.go bB).out.2.2.2.1).mono ?_;rintro e w1 ⟨rfl,hb⟩;replace HI:=HI.go2 bB hb;clear hb;obtain ⟨⟨⟨p1,p2,p3,p4,p5,p6⟩,⟨q1,q2,q3,q4,q5⟩⟩,⟨⟨s0,s1,s2,s3,s4,s5⟩,⟨f0,f1,f2,f3,f4,f5⟩⟩⟩:=PNL.cells HI)
    | (go_at_call 77;refine (HCP.out _ (HI.go bB).out.2.2.1.2.2).mono ?_;rintro e w2 ⟨rfl,hb⟩;replace HI:=HI.go2 bB hb;clear hb;obtain ⟨⟨⟨p1,p2,p3,p4,p5,p6⟩,⟨q1,q2,q3,q4,q5⟩⟩,⟨⟨s0,s1,s2,s3,s4,s5⟩,⟨f0,f1,f2,f3,f4,f5⟩⟩⟩:=PNL.cells HI)
    | (go_at_call 58;refine (HME.out _ (HI.go bB).out.2.2.1.1 (HI.go bB).out.2.2.1.2.2).mono ?_;rintro e w3 ⟨M,n,rfl,hr,hb⟩;replace HI:=HI.go2 bB hb;clear hb;have HM:=At.rb2 (q:=mr) hr;have m1:=hr.1;have m2:=hr.2.1;clear hr;obtain ⟨⟨⟨p1,p2,p3,p4,p5,p6⟩,⟨q1,q2,q3,q4,q5⟩⟩,⟨⟨s0,s1,s2,s3,s4,s5⟩,⟨f0,f1,f2,f3,f4,f5⟩⟩⟩:=PNL.cells HI)
    | (go_at_call 59;refine (HCA.out _ _ _ (HI.go bB).out.2.2.1.1 (HM.go bB).out.2 (HI.go bB).out.2.2.1.2.1 (HI.go bB).out.2.2.2.1).mono ?_;rintro e w4 ⟨D,k,rfl,hr,hb⟩;replace HM:=HM.go2 bB hb;replace HI:=HI.go2 bB hb;clear hb;have HD:=At.rb2 (q:=dr) hr;have HD0:=lh hr;have d1:=hr.1;have d2:=hr.2.1;clear hr;obtain ⟨⟨⟨p1,p2,p3,p4,p5,p6⟩,⟨q1,q2,q3,q4,q5⟩⟩,⟨⟨s0,s1,s2,s3,s4,s5⟩,⟨f0,f1,f2,f3,f4,f5⟩⟩⟩:=PNL.cells HI;obtain ⟨⟨m3,m4,m5,m6,m7⟩,-⟩:=HM.out))
   refine bodyPost_ret (v:=.tuple #[.agg #[.bool false,.slice none 0 0,.bool false,.slice none 0 0,.bool false],.bool false,.int .i64 nz]) (by simp [results,Tryz.results44,go_sem,s0,s1,s2,s3,s4,s5,f0,f1,f2,f3,f4]) rfl (HBAD.out _ _ ⟨none,0,none,0,rfl,RT.nil _ _ _ (by omega),RT.nil _ _ _ (by omega),?_⟩)
   exact below_set5 HI.out.2.2.2.2 (by omega) _ _ _ _ _
 ·have HBAD:=lh (fun e w' h=>nar_bad (w:=w) (e:=e) (w':=w') (xs:=xs) (ys:=ys) (zs:=zs) (r:=r) (t:=t) (u:=u) (n:=ruleE xs r ys t) (by unfold narO;rw [beq_eq_false_iff_ne.2 h1];simp) (by unfold narE;rw [if_pos h1]) h)
  have hnB:(ruleE xs r ys t != 0)=true:=by rw [bne_iff_ne];exact h1
  unfold ruV at *
  clear hsx hsy hsz hlx hlz h1 HME HCP
  generalize ruleE xs r ys t=nr at *
  go_enter Tryz.func44,Tryz.ntmps44
  go_wp2_with (first
   | (go_at_call 60;refine (HCK.out _ (HI.go bB).out.2.2.1.1 (HI.go bB).out.2.2.1.2.1 (HI.go bB).out.2.2.2.1).mono ?_;rintro e w1 ⟨rfl,hb⟩;replace HI:=HI.go2 bB hb;clear hb;obtain ⟨⟨⟨p1,p2,p3,p4,p5,p6⟩,⟨q1,q2,q3,q4,q5⟩⟩,⟨⟨s0,s1,s2,s3,s4,s5⟩,⟨f0,f1,f2,f3,f4,f5⟩⟩⟩:=PNL.cells HI)
   | (go_at_call 77;refine (HCP.out _ (HI.go bB).out.2.2.1.2.2).mono ?_;rintro e w2 ⟨rfl,hb⟩;replace HI:=HI.go2 bB hb;clear hb;obtain ⟨⟨⟨p1,p2,p3,p4,p5,p6⟩,⟨q1,q2,q3,q4,q5⟩⟩,⟨⟨s0,s1,s2,s3,s4,s5⟩,⟨f0,f1,f2,f3,f4,f5⟩⟩⟩:=PNL.cells HI)
   | (go_at_call 58;refine (HME.out _ (HI.go bB).out.2.2.1.1 (HI.go bB).out.2.2.1.2.2).mono ?_;rintro e w3 ⟨M,n,rfl,hr,hb⟩;replace HI:=HI.go2 bB hb;clear hb;have HM:=At.rb2 (q:=mr) hr;have m1:=hr.1;have m2:=hr.2.1;clear hr;obtain ⟨⟨⟨p1,p2,p3,p4,p5,p6⟩,⟨q1,q2,q3,q4,q5⟩⟩,⟨⟨s0,s1,s2,s3,s4,s5⟩,⟨f0,f1,f2,f3,f4,f5⟩⟩⟩:=PNL.cells HI)
   | (go_at_call 59;refine (HCA.out _ _ _ (HI.go bB).out.2.2.1.1 (HM.go bB).out.2 (HI.go bB).out.2.2.1.2.1 (HI.go bB).out.2.2.2.1).mono ?_;rintro e w4 ⟨D,k,rfl,hr,hb⟩;replace HM:=HM.go2 bB hb;replace HI:=HI.go2 bB hb;clear hb;have HD:=At.rb2 (q:=dr) hr;have HD0:=lh hr;have d1:=hr.1;have d2:=hr.2.1;clear hr;obtain ⟨⟨⟨p1,p2,p3,p4,p5,p6⟩,⟨q1,q2,q3,q4,q5⟩⟩,⟨⟨s0,s1,s2,s3,s4,s5⟩,⟨f0,f1,f2,f3,f4,f5⟩⟩⟩:=PNL.cells HI;obtain ⟨⟨m3,m4,m5,m6,m7⟩,-⟩:=HM.out))
  refine bodyPost_ret (v:=.tuple #[.agg #[.bool false,.slice none 0 0,.bool false,.slice none 0 0,.bool false],.bool false,.int .i64 nr]) (by simp [results,Tryz.results44,go_sem,s0,s1,s2,s3,s4,s5,f0,f1,f2,f3,f4]) rfl (HBAD.out _ _ ⟨none,0,none,0,rfl,RT.nil _ _ _ (by omega),RT.nil _ _ _ (by omega),?_⟩)
  exact below_set5 HI.out.2.2.2.2 (by omega) _ _ _ _ _
open Go.RowKit
open Pm
end Go.Proofs.YtelkmeiepliecaaGreatDoor
namespace Go.Proofs.YtelkmeiepliecaaGreatDoor
open Go.RowKit
open Pm
def nriE (xs:List ByteArray) (r:Bool) (ys:List ByteArray) (t:Bool) (zs:List ByteArray) (u:Bool):Int:=if ruleE xs r ys t≠0 then ruleE xs r ys t else narE ys t xs r zs u
def RetNri (w:World) (xs:List ByteArray) (r:Bool) (ys:List ByteArray) (t:Bool) (zs:List ByteArray) (u:Bool):Ending→World→Prop :=
 RetN w (narR ys t xs r zs u) (narRr ys t xs r zs u) (narL ys t xs r zs u) (narLr ys t xs r zs u) (narO ys t xs r zs u) (nriE xs r ys t zs u)
theorem nri_bad {w:World} {xs ys zs:List ByteArray} {r t u:Bool} {n:Int} {e:Ending} {w':World} (ho:narO ys t xs r zs u=false) (hn:nriE xs r ys t zs u=n) (h:RetN w [] false [] false false n e w'):RetNri w xs r ys t zs u e w':=by
 unfold RetNri narL narLr narR narRr
 rw [ho,hn]
 exact h
theorem nar_e0 {xs ys zs:List ByteArray} {r t u:Bool} (ho:narO xs r ys t zs u=true):narE xs r ys t zs u=0:=by
 unfold narO at ho
 rw [Bool.and_eq_true,Bool.and_eq_true,Bool.and_eq_true,beq_iff_eq,beq_iff_eq,beq_iff_eq] at ho
 unfold narE
 rw [if_neg (by simp [ho.1]),if_neg (by simp [ho.2.1]),if_neg (by simp [ho.2.2.1]),ho.2.2.2]
def PRB (ex:Bool) (L:List ByteArray) (l:Bool) (R:List ByteArray) (q:Bool) (A:Option Addr) (c:Nat) (B:Option Addr) (d:Nat) (g:Nat) (w:World):Prop :=
 P5 w g (.bool ex) (.slice A L.length c) (.bool l) (.slice B R.length d) (.bool q)∧RT w A c L∧RT w B d R
theorem PRB.kept (ex:Bool) (L:List ByteArray) (l:Bool) (R:List ByteArray) (q:Bool) (A:Option Addr) (c:Nat) (B:Option Addr) (d:Nat) (g:Nat):Kept (PRB ex L l R q A c B d g):=(kept_p5 _ _ _ _ _ _).both ((kept_rt _ _ _).both (kept_rt _ _ _))
theorem At.prb {ex:Bool} {w:World} {L R:List ByteArray} {l q:Bool} {A B:Option Addr} {c d:Nat} (h:RT w A c L) (k:RT w B d R):At (PRB ex L l R q A c B d w.heap.size) (w.alloc (.cells #[.bool ex,.slice A L.length c,.bool l,.slice B R.length d,.bool q] 57)) :=
 ⟨PRB.kept _ _ _ _ _ _ _ _ _ _,P5.new _ _ _ _ _ _ _,h.below (ba _ _),k.below (ba _ _)⟩
theorem narrowR_any (ex:Bool) (A:Option Addr) (c:Nat) (xs:List ByteArray) (r:Bool) (B:Option Addr) (d:Nat) (ys:List ByteArray) (t:Bool) (C:Option Addr) (e:Nat) (zs:List ByteArray) (u:Bool) (w:World) (h:RT w A c xs) (k:RT w B d ys) (l:RT w C e zs) (hm:ML w)
 (hsx:∀ x∈xs,x.size≤5000) (hsy:∀ x∈ys,x.size≤5000) (hsz:∀ x∈zs,x.size≤5000) (hly:ys.length≤5000) (hlz:zs.length≤5000) :
 Calls Tryz.prog 31 #[ruV ex A c xs r B d ys t,.agg #[.slice C zs.length e,.bool u]] w (RetNri w xs r ys t zs u):=by
 have HI:=PNL.enter h k l hm ex r t u 57 45
 have HCK:=lh (fun w h k m=>ruleCheck_any ex A B c d xs ys r t w h k m hsx hsy)
 have HNL:=lh (fun w k h l m=>narrowL_any false B d ys t A c xs r C e zs u w k h l m hsy hsx hsz hly hlz)
 have hx1:=h.1
 have hx2:=h.2.1
 have hy1:=k.1
 have hy2:=k.2.1
 have hz1:=l.1
 have hz2:=l.2.1
 clear h k l hm hsx hsy hsz hly hlz
 by_cases h1:ruleE xs r ys t=0
 ·have HE:Hid (nriE xs r ys t zs u=narE ys t xs r zs u):=lh (by unfold nriE;rw [if_neg (by simp [h1])])
  rw [h1] at HCK
  unfold RetNri
  rw [HE.out]
  unfold RetNar RetN ruV at HNL
  unfold ruV at *
  clear HE h1
  generalize narL ys t xs r zs u=L at *
  generalize narLr ys t xs r zs u=ll at *
  generalize narR ys t xs r zs u=R at *
  generalize narRr ys t xs r zs u=rr at *
  generalize narO ys t xs r zs u=ok at *
  generalize narE ys t xs r zs u=ne at *
  go_enter Tryz.func31,Tryz.ntmps31
  go_wp2_with (first
   | (go_at_call 60;refine (HCK.out _ (HI.go bB).out.2.2.1.1 (HI.go bB).out.2.2.1.2.1 (HI.go bB).out.2.2.2.1).mono ?_;rintro e w1 ⟨rfl,hb⟩;replace HI:=HI.go2 bB hb;clear hb;obtain ⟨⟨⟨p1,p2,p3,p4,p5,p6⟩,⟨q1,q2,q3,q4,q5⟩⟩,⟨⟨s0,s1,s2,s3,s4,s5⟩,⟨f0,f1,f2,f3,f4,f5⟩⟩⟩:=PNL.cells HI)
   | (go_at_call 44;refine (HNL.out _ (HI.go bB).out.2.2.1.2.1 (HI.go bB).out.2.2.1.1 (HI.go bB).out.2.2.1.2.2 (HI.go bB).out.2.2.2.1).mono ?_;rintro e w4 ⟨D,m,E,n,rfl,hr,hr2,hb⟩;replace HI:=HI.go2 bB hb;clear hb;have HD:=At.prb (ex:=false) (l:=ll) (q:=rr) hr hr2;have HD0:=lh hr;have HD1:=lh hr2;have d1:=hr.1;have d2:=hr.2.1;have d3:=hr2.1;have d4:=hr2.2.1;clear hr hr2;obtain ⟨⟨⟨p1,p2,p3,p4,p5,p6⟩,⟨q1,q2,q3,q4,q5⟩⟩,⟨⟨s0,s1,s2,s3,s4,s5⟩,⟨f0,f1,f2,f3,f4,f5⟩⟩⟩:=PNL.cells HI))
  refine bodyPost_ret (v:=.tuple #[.agg #[.bool false,.slice E R.length n,.bool rr,.slice D L.length m,.bool ll],.bool ok,.int .i64 ne]) (by simp [results,Tryz.results31,go_sem,s0,s1,s2,s3,s4,s5,f0,f1,f2,f3,f4]) rfl ⟨E,n,D,m,rfl,?_,?_,?_⟩
  ·exact (HD1.out.set5 HI.out.2.1.1 (bool_ns _) (slice_ns _ _ _) (bool_ns _) (slice_ns _ _ _) (bool_ns _) _ _ _ _ _).below (ba _ _)
  ·exact (HD0.out.set5 HI.out.2.1.1 (bool_ns _) (slice_ns _ _ _) (bool_ns _) (slice_ns _ _ _) (bool_ns _) _ _ _ _ _).below (ba _ _)
  ·exact below_al (below_set5 HI.out.2.2.2.2 (by omega) _ _ _ _ _) _
 ·have HBAD:=lh (fun e w' h=>nri_bad (w:=w) (e:=e) (w':=w') (xs:=xs) (ys:=ys) (zs:=zs) (r:=r) (t:=t) (u:=u) (n:=ruleE xs r ys t) (by unfold narO;rw [beq_eq_false_iff_ne.2 (fun h=>h1 (ruleE_turn.1 h))];simp) (by unfold nriE;rw [if_pos h1]) h)
  have hnB:(ruleE xs r ys t != 0)=true:=by rw [bne_iff_ne];exact h1
  unfold ruV at *
  clear h1 HNL
  generalize ruleE xs r ys t=nr at *
  go_enter Tryz.func31,Tryz.ntmps31
  go_wp2_with (go_at_call 60;refine (HCK.out _ (HI.go bB).out.2.2.1.1 (HI.go bB).out.2.2.1.2.1 (HI.go bB).out.2.2.2.1).mono ?_;rintro e w1 ⟨rfl,hb⟩;replace HI:=HI.go2 bB hb;clear hb;obtain ⟨⟨⟨p1,p2,p3,p4,p5,p6⟩,⟨q1,q2,q3,q4,q5⟩⟩,⟨⟨s0,s1,s2,s3,s4,s5⟩,⟨f0,f1,f2,f3,f4,f5⟩⟩⟩:=PNL.cells HI)
  refine bodyPost_ret (v:=.tuple #[.agg #[.bool false,.slice none 0 0,.bool false,.slice none 0 0,.bool false],.bool false,.int .i64 nr]) (by simp [results,Tryz.results31,go_sem,s0,s1,s2,s3,s4,s5,f0,f1,f2,f3,f4]) rfl (HBAD.out _ _ ⟨none,0,none,0,rfl,RT.nil _ _ _ (by omega),RT.nil _ _ _ (by omega),?_⟩)
  exact below_set5 HI.out.2.2.2.2 (by omega) _ _ _ _ _
end Go.Proofs.YtelkmeiepliecaaGreatDoor
