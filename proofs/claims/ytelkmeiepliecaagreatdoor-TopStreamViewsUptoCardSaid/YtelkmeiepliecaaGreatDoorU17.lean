/-
  Part 17 of the proof.
-/
import Derived.Test.YtelkmeiepliecaaGreatDoorU15
set_option linter.unusedSimpArgs false
set_option linter.unusedVariables false
set_option maxHeartbeats 16000000
namespace Go.Proofs.YtelkmeiepliecaaGreatDoor
open Go.RowKit
open Pm
def chkE (xs:List ByteArray) (r:Bool) (ys:List ByteArray) (t:Bool) (zs:List ByteArray) (u:Bool) (vs:List ByteArray) (v:Bool):Int:=if ruleE xs r ys t≠0 then ruleE xs r ys t else ruleE zs u vs v
def chE (xs:List ByteArray) (r:Bool) (ys:List ByteArray) (t:Bool) (zs:List ByteArray) (u:Bool) (vs:List ByteArray) (v:Bool):Int :=
 if chkE xs r ys t zs u vs v≠0 then chkE xs r ys t zs u vs v else if meetOk ys zs t u=false then 0 else if carE ys t (meetL ys zs) (t&&u) xs r≠0 then 43 else carE zs u (meetL ys zs) (t&&u) vs v
def chO (xs:List ByteArray) (r:Bool) (ys:List ByteArray) (t:Bool) (zs:List ByteArray) (u:Bool) (vs:List ByteArray) (v:Bool):Bool :=
 (chkE xs r ys t zs u vs v==0)&&(meetOk ys zs t u&&((carE ys t (meetL ys zs) (t&&u) xs r==0)&&(carE zs u (meetL ys zs) (t&&u) vs v==0)))
def chL (xs:List ByteArray) (r:Bool) (ys:List ByteArray) (t:Bool) (zs:List ByteArray) (u:Bool) (vs:List ByteArray) (v:Bool):List ByteArray:=if chO xs r ys t zs u vs v=true then carL ys t (meetL ys zs) (t&&u) xs r else []
def chLr (xs:List ByteArray) (r:Bool) (ys:List ByteArray) (t:Bool) (zs:List ByteArray) (u:Bool) (vs:List ByteArray) (v:Bool):Bool:=if chO xs r ys t zs u vs v=true then carR ys t (meetL ys zs) (t&&u) xs r else false
def chR (xs:List ByteArray) (r:Bool) (ys:List ByteArray) (t:Bool) (zs:List ByteArray) (u:Bool) (vs:List ByteArray) (v:Bool):List ByteArray:=if chO xs r ys t zs u vs v=true then carL zs u (meetL ys zs) (t&&u) vs v else []
def chRr (xs:List ByteArray) (r:Bool) (ys:List ByteArray) (t:Bool) (zs:List ByteArray) (u:Bool) (vs:List ByteArray) (v:Bool):Bool:=if chO xs r ys t zs u vs v=true then carR zs u (meetL ys zs) (t&&u) vs v else false
def RetCh (w:World) (xs:List ByteArray) (r:Bool) (ys:List ByteArray) (t:Bool) (zs:List ByteArray) (u:Bool) (vs:List ByteArray) (v:Bool):Ending→World→Prop :=
 RetN w (chL xs r ys t zs u vs v) (chLr xs r ys t zs u vs v) (chR xs r ys t zs u vs v) (chRr xs r ys t zs u vs v) (chO xs r ys t zs u vs v) (chE xs r ys t zs u vs v)
theorem ch_bad {w:World} {xs ys zs vs:List ByteArray} {r t u v:Bool} {n:Int} {e:Ending} {w':World} (ho:chO xs r ys t zs u vs v=false) (hn:chE xs r ys t zs u vs v=n) (h:RetN w [] false [] false false n e w'):RetCh w xs r ys t zs u vs v e w':=by
 unfold RetCh chL chLr chR chRr
 rw [ho,hn]
 exact h
theorem ch_parts {xs ys zs vs:List ByteArray} {r t u v:Bool}:chO xs r ys t zs u vs v=true↔chkE xs r ys t zs u vs v=0∧meetOk ys zs t u=true∧carE ys t (meetL ys zs) (t&&u) xs r=0∧carE zs u (meetL ys zs) (t&&u) vs v=0:=by
 unfold chO
 rw [Bool.and_eq_true,Bool.and_eq_true,Bool.and_eq_true,beq_iff_eq,beq_iff_eq,beq_iff_eq]
theorem chk_zero {xs ys zs vs:List ByteArray} {r t u v:Bool}:chkE xs r ys t zs u vs v=0↔ruleE xs r ys t=0∧ruleE zs u vs v=0:=by
 unfold chkE
 by_cases h:ruleE xs r ys t=0
 ·rw [if_neg (by simp [h])]
  exact ⟨fun k=>⟨h,k⟩,fun k=>k.2⟩
 ·rw [if_pos h]
  exact ⟨fun k=>absurd k h,fun k=>absurd k.1 h⟩
theorem ch_e0 {xs ys zs vs:List ByteArray} {r t u v:Bool} (ho:chO xs r ys t zs u vs v=true):chE xs r ys t zs u vs v=0:=by
 obtain ⟨h1,h2,h3,h4⟩:=ch_parts.1 ho
 unfold chE
 rw [if_neg (by simp [h1]),if_neg (by simp [h2]),if_neg (by simp [h3]),h4]
theorem ch_good {w:World} {xs ys zs vs:List ByteArray} {r t u v:Bool} {e:Ending} {w':World} (ho:chO xs r ys t zs u vs v=true) (h:RetN w (carL ys t (meetL ys zs) (t&&u) xs r) (carR ys t (meetL ys zs) (t&&u) xs r) (carL zs u (meetL ys zs) (t&&u) vs v) (carR zs u (meetL ys zs) (t&&u) vs v) true 0 e w'):RetCh w xs r ys t zs u vs v e w':=by
 unfold RetCh chL chLr chR chRr
 rw [ho,ch_e0 ho]
 exact h
def PRT (W:World) (ex:Bool) (A:Option Addr) (c:Nat) (xs:List ByteArray) (r:Bool) (B:Option Addr) (d:Nat) (ys:List ByteArray) (t:Bool)
 (fx:Bool) (C:Option Addr) (e:Nat) (zs:List ByteArray) (u:Bool) (D:Option Addr) (f:Nat) (vs:List ByteArray) (v:Bool) (w:World):Prop :=
 (P5 w W.heap.size (.bool ex) (.slice A xs.length c) (.bool r) (.slice B ys.length d) (.bool t)∧P5 w (W.heap.size+1) (.bool fx) (.slice C zs.length e) (.bool u) (.slice D vs.length f) (.bool v))∧((RT w A c xs∧RT w B d ys)∧(RT w C e zs∧RT w D f vs))∧ML w∧Below W.heap.size W w
theorem PRT.kept (W:World) (ex:Bool) (A:Option Addr) (c:Nat) (xs:List ByteArray) (r:Bool) (B:Option Addr) (d:Nat) (ys:List ByteArray) (t:Bool)
 (fx:Bool) (C:Option Addr) (e:Nat) (zs:List ByteArray) (u:Bool) (D:Option Addr) (f:Nat) (vs:List ByteArray) (v:Bool):Kept (PRT W ex A c xs r B d ys t fx C e zs u D f vs v) :=
 ((kept_p5 _ _ _ _ _ _).both (kept_p5 _ _ _ _ _ _)).both ((((kept_rt _ _ _).both (kept_rt _ _ _)).both ((kept_rt _ _ _).both (kept_rt _ _ _))).both (kept_ml.both (kept_below _)))
theorem PRT.enter {W:World} {A:Option Addr} {c:Nat} {xs:List ByteArray} {B:Option Addr} {d:Nat} {ys:List ByteArray} {C:Option Addr} {e:Nat} {zs:List ByteArray} {D:Option Addr} {f:Nat} {vs:List ByteArray}
 (h:RT W A c xs) (k:RT W B d ys) (h':RT W C e zs) (k':RT W D f vs) (m:ML W) (ex r t fx u v:Bool) (T:TypeId) :
 At (PRT W ex A c xs r B d ys t fx C e zs u D f vs v) ((W.alloc (.cells #[.bool ex,.slice A xs.length c,.bool r,.slice B ys.length d,.bool t] T)).alloc (.cells #[.bool fx,.slice C zs.length e,.bool u,.slice D vs.length f,.bool v] T)) :=
 ⟨PRT.kept _ _ _ _ _ _ _ _ _ _ _ _ _ _ _ _ _ _ _,⟨(kept_p5 _ _ _ _ _ _) _ _ (P5.new W _ _ _ _ _ _) (ba _ _),P5.snd _ _ _ _ _ _ _ _⟩,⟨⟨(h.below (ba _ _)).below (ba _ _),(k.below (ba _ _)).below (ba _ _)⟩,
  ⟨(h'.below (ba _ _)).below (ba _ _),(k'.below (ba _ _)).below (ba _ _)⟩⟩,(m.below (ba _ _)).below (ba _ _),below_alloc2 _ _ _⟩
def PRS (W:World) (ex:Bool) (A:Option Addr) (c:Nat) (xs:List ByteArray) (r:Bool) (B:Option Addr) (d:Nat) (ys:List ByteArray) (t:Bool)
 (fx:Bool) (C:Option Addr) (e:Nat) (zs:List ByteArray) (u:Bool) (D:Option Addr) (f:Nat) (vs:List ByteArray) (v:Bool) (w:World):Prop :=
 (P5 w (W.heap.size+2) (.bool false) (.slice none 0 0) (.bool false) (.slice none 0 0) (.bool false)∧F5 w (W.heap.size+2))∧PRT W ex A c xs r B d ys t fx C e zs u D f vs v w
theorem PRS.kept (W:World) (ex:Bool) (A:Option Addr) (c:Nat) (xs:List ByteArray) (r:Bool) (B:Option Addr) (d:Nat) (ys:List ByteArray) (t:Bool)
 (fx:Bool) (C:Option Addr) (e:Nat) (zs:List ByteArray) (u:Bool) (D:Option Addr) (f:Nat) (vs:List ByteArray) (v:Bool):Kept (PRS W ex A c xs r B d ys t fx C e zs u D f vs v) :=
 ((kept_p5 _ _ _ _ _ _).both (kept_f5 _)).both (PRT.kept _ _ _ _ _ _ _ _ _ _ _ _ _ _ _ _ _ _ _)
theorem PRS.enter {W:World} {A:Option Addr} {c:Nat} {xs:List ByteArray} {B:Option Addr} {d:Nat} {ys:List ByteArray} {C:Option Addr} {e:Nat} {zs:List ByteArray} {D:Option Addr} {f:Nat} {vs:List ByteArray}
 (h:RT W A c xs) (k:RT W B d ys) (h':RT W C e zs) (k':RT W D f vs) (m:ML W) (ex r t fx u v:Bool) (T:TypeId) :
 At (PRS W ex A c xs r B d ys t fx C e zs u D f vs v) (((W.alloc (.cells #[.bool ex,.slice A xs.length c,.bool r,.slice B ys.length d,.bool t] T)).alloc (.cells #[.bool fx,.slice C zs.length e,.bool u,.slice D vs.length f,.bool v] T)).alloc (.cells #[.bool false,.slice none 0 0,.bool false,.slice none 0 0,.bool false] T)) :=
 ⟨PRS.kept _ _ _ _ _ _ _ _ _ _ _ _ _ _ _ _ _ _ _,⟨P5.nw (by simp),F5.nw (by simp)⟩,((PRT.enter h k h' k' m ex r t fx u v T).go (ba _ _)).out⟩
theorem checkBoth_any (ex:Bool) (A:Option Addr) (c:Nat) (xs:List ByteArray) (r:Bool) (B:Option Addr) (d:Nat) (ys:List ByteArray) (t:Bool) (fx:Bool) (C:Option Addr) (e:Nat) (zs:List ByteArray) (u:Bool) (D:Option Addr) (f:Nat) (vs:List ByteArray) (v:Bool) (w:World) (h:RT w A c xs) (k:RT w B d ys) (h':RT w C e zs) (k':RT w D f vs) (hm:ML w)
 (hsx:∀ x∈xs,x.size≤5000) (hsy:∀ x∈ys,x.size≤5000) (hsz:∀ x∈zs,x.size≤5000) (hsv:∀ x∈vs,x.size≤5000) :
 Calls Tryz.prog 57 #[ruV ex A c xs r B d ys t,ruV fx C e zs u D f vs v] w fun e w'=>e=.returned (.int .i64 (chkE xs r ys t zs u vs v))∧Below w.heap.size w w':=by
 have HI:=PRT.enter h k h' k' hm ex r t fx u v 57
 have HC1:=lh (fun w h k m=>ruleCheck_any ex A B c d xs ys r t w h k m hsx hsy)
 have HC2:=lh (fun w h k m=>ruleCheck_any fx C D e f zs vs u v w h k m hsz hsv)
 have HE:Hid (chkE xs r ys t zs u vs v=if ruleE xs r ys t≠0 then ruleE xs r ys t else ruleE zs u vs v):=lh rfl
 unfold ruV at *
 have hx1:=h.1
 have hx2:=h.2.1
 have hy1:=k.1
 have hy2:=k.2.1
 have hz1:=h'.1
 have hz2:=h'.2.1
 have hv1:=k'.1
 have hv2:=k'.2.1
 rw [HE.out]
 clear h k h' k' hm hsx hsy hsz hsv HE
 generalize ruleE zs u vs v=n2 at *
 by_cases h1:ruleE xs r ys t=0
 ·rw [h1] at HC1 ⊢
  rw [if_neg (by simp)]
  clear h1
  go_enter Tryz.func57,Tryz.ntmps57
  go_wp2_with (first
   | (go_at_call_of 60 (Value.agg #[.bool ex,.slice A xs.length c,.bool r,.slice B ys.length d,.bool t]);refine (HC1.out _ (HI.go bB).out.2.1.1.1 (HI.go bB).out.2.1.1.2 (HI.go bB).out.2.2.1).mono ?_;rintro e w1 ⟨rfl,hb⟩;replace HI:=HI.go2 bB hb;clear hb;obtain ⟨⟨p1,p2,p3,p4,p5,p6⟩,⟨q1,q2,q3,q4,q5,q6⟩⟩:=HI.out.1)
   | (go_at_call_of 60 (Value.agg #[.bool fx,.slice C zs.length e,.bool u,.slice D vs.length f,.bool v]);refine (HC2.out _ (HI.go bB).out.2.1.2.1 (HI.go bB).out.2.1.2.2 (HI.go bB).out.2.2.1).mono ?_;rintro e w2 ⟨rfl,hb⟩;replace HI:=HI.go2 bB hb;clear hb))
  go_ret
  exact ⟨rfl,(HI.go bB).out.2.2.2⟩
 ·have hnB:(ruleE xs r ys t != 0)=true:=by rw [bne_iff_ne];exact h1
  rw [if_pos h1]
  generalize ruleE xs r ys t=n1 at *
  clear h1
  go_enter Tryz.func57,Tryz.ntmps57
  go_wp2_with (go_at_call 60;refine (HC1.out _ (HI.go bB).out.2.1.1.1 (HI.go bB).out.2.1.1.2 (HI.go bB).out.2.2.1).mono ?_;rintro e w1 ⟨rfl,hb⟩;replace HI:=HI.go2 bB hb;clear hb)
  go_ret
  exact ⟨rfl,(HI.go bB).out.2.2.2⟩
theorem chain_any (ex:Bool) (A:Option Addr) (c:Nat) (xs:List ByteArray) (r:Bool) (B:Option Addr) (d:Nat) (ys:List ByteArray) (t:Bool) (fx:Bool) (C:Option Addr) (e:Nat) (zs:List ByteArray) (u:Bool) (D:Option Addr) (f:Nat) (vs:List ByteArray) (v:Bool) (w:World) (h:RT w A c xs) (k:RT w B d ys) (h':RT w C e zs) (k':RT w D f vs) (hm:ML w)
 (hsx:∀ x∈xs,x.size≤5000) (hsy:∀ x∈ys,x.size≤5000) (hsz:∀ x∈zs,x.size≤5000) (hsv:∀ x∈vs,x.size≤5000) (hly:ys.length≤5000) (hlz:zs.length≤5000) :
 Calls Tryz.prog 28 #[ruV ex A c xs r B d ys t,ruV fx C e zs u D f vs v] w (RetCh w xs r ys t zs u vs v):=by
 have HI:=PRS.enter h k h' k' hm ex r t fx u v 57
 have HCK:=lh (fun w h k h' k' m=>checkBoth_any ex A c xs r B d ys t fx C e zs u D f vs v w h k h' k' m hsx hsy hsz hsv)
 have HME:=lh (fun w h l=>(meet_any B C d e ys zs t u w h l (five9 hsy) (five9 hsz)).mono fun _ _ h=>RetM.two h)
 have hx1:=h.1
 have hx2:=h.2.1
 have hy1:=k.1
 have hy2:=k.2.1
 have hz1:=h'.1
 have hz2:=h'.2.1
 have hv1:=k'.1
 have hv2:=k'.2.1
 clear h k h' k' hm
 by_cases h1:chkE xs r ys t zs u vs v=0
 ·rw [h1] at HCK
  cases h3:meetOk ys zs t u with
  | false =>
   have HBAD:=lh (fun e' w' h=>ch_bad (w:=w) (e:=e') (w':=w') (xs:=xs) (ys:=ys) (zs:=zs) (vs:=vs) (r:=r) (t:=t) (u:=u) (v:=v) (n:=0) (by unfold chO;rw [h3];simp) (by unfold chE;rw [if_neg (by simp [h1]),if_pos h3]) h)
   rw [h3] at HME
   simp only [Bool.false_eq_true,if_false] at HME
   obtain ⟨mr,hmr⟩:∃ mr,mr=false:=⟨_,rfl⟩
   unfold ruV at *
   clear hsx hsy hsz hsv hly hlz h1 h3 hmr
   go_enter Tryz.func28,Tryz.ntmps28
   go_wp2_with (first
    | (go_at_call 57;refine (HCK.out _ (HI.go bB).out.2.2.1.1.1 (HI.go bB).out.2.2.1.1.2 (HI.go bB).out.2.2.1.2.1 (HI.go bB).out.2.2.1.2.2 (HI.go bB).out.2.2.2.1).mono ?_;rintro e w1 ⟨rfl,hb⟩;replace HI:=HI.go2 bB hb;clear hb;obtain ⟨⟨⟨s0,s1,s2,s3,s4,s5⟩,⟨f0,f1,f2,f3,f4,f5⟩⟩,⟨⟨p1,p2,p3,p4,p5,p6⟩,⟨q1,q2,q3,q4,q5,q6⟩⟩,-⟩:=HI.out)
    | (go_at_call 58;refine (HME.out _ (HI.go bB).out.2.2.1.1.2 (HI.go bB).out.2.2.1.2.1).mono ?_;rintro e w3 ⟨M,n,rfl,hr,hb⟩;replace HI:=HI.go2 bB hb;clear hb;have HM:=At.rb2 (q:=mr) hr;have m1:=hr.1;have m2:=hr.2.1;clear hr;obtain ⟨⟨⟨s0,s1,s2,s3,s4,s5⟩,⟨f0,f1,f2,f3,f4,f5⟩⟩,⟨⟨p1,p2,p3,p4,p5,p6⟩,⟨q1,q2,q3,q4,q5,q6⟩⟩,-⟩:=HI.out)
    | (go_at_call_of 59 (Value.agg #[.slice B ys.length d,.bool t]);refine (HC1.out _ _ _ (HI.go bB).out.2.2.1.1.2 (HM.go bB).out.2 (HI.go bB).out.2.2.1.1.1 (HI.go bB).out.2.2.2.1).mono ?_;rintro e w4 ⟨E,k,rfl,hr,hb⟩;replace HM:=HM.go2 bB hb;replace HI:=HI.go2 bB hb;clear hb;have HD:=At.rb2 (q:=lr) hr;have d1:=hr.1;have d2:=hr.2.1;clear hr;obtain ⟨⟨⟨s0,s1,s2,s3,s4,s5⟩,⟨f0,f1,f2,f3,f4,f5⟩⟩,⟨⟨p1,p2,p3,p4,p5,p6⟩,⟨q1,q2,q3,q4,q5,q6⟩⟩,-⟩:=HI.out;obtain ⟨⟨m3,m4,m5,m6,m7⟩,-⟩:=HM.out)
    | (go_at_call_of 59 (Value.agg #[.slice C zs.length e,.bool u]);refine (HC2.out _ _ _ (HI.go bB).out.2.2.1.2.1 (HM.go bB).out.2 (HI.go bB).out.2.2.1.2.2 (HI.go bB).out.2.2.2.1).mono ?_;rintro e w5 ⟨G,l,rfl,hr,hb⟩;replace HM:=HM.go2 bB hb;replace HD:=HD.go2 bB hb;replace HI:=HI.go2 bB hb;clear hb;have HG:=At.rb2 (q:=rr) hr;have HG0:=lh hr;have g1:=hr.1;have g2:=hr.2.1;clear hr;obtain ⟨⟨⟨s0,s1,s2,s3,s4,s5⟩,⟨f0,f1,f2,f3,f4,f5⟩⟩,⟨⟨p1,p2,p3,p4,p5,p6⟩,⟨q1,q2,q3,q4,q5,q6⟩⟩,-⟩:=HI.out;obtain ⟨⟨d3,d4,d5,d6,d7⟩,-⟩:=HD.out))
   refine bodyPost_ret (v:=.tuple #[.agg #[.bool false,.slice none 0 0,.bool false,.slice none 0 0,.bool false],.bool false,.int .i64 0]) (by simp [results,Tryz.results28,go_sem,s0,s1,s2,s3,s4,s5,f0,f1,f2,f3,f4]) rfl (HBAD.out _ _ ⟨none,0,none,0,rfl,RT.nil _ _ _ (by omega),RT.nil _ _ _ (by omega),?_⟩)
   exact below_al (below_set5 HI.out.2.2.2.2 (by omega) _ _ _ _ _) _
  | true =>
   rw [h3] at HME
   simp only [if_true] at HME
   have hms:∀ z∈meetL ys zs,z.size≤5000:=fun z hz=>(meetL_mem h3 hz).elim (hsy z) (hsz z)
   have hml:(meetL ys zs).length≤5000:=by
    unfold meetL
    split
    ·rw [mzAll_len (by omega)];exact hlz
    ·rw [mzAll_len (by omega)];exact hly
   have HC1:=lh (fun M n w h m k hm=>carry_any B d ys t M n (meetL ys zs) (t&&u) A c xs r w h m k hm hsy hms hml hsx)
   have HC2:=lh (fun M n w h m k hm=>carry_any C e zs u M n (meetL ys zs) (t&&u) D f vs v w h m k hm hsz hms hml hsv)
   have HCE1:Hid (carE ys t (meetL ys zs) (t&&u) xs r=if subE xs r (bndB ys t (meetL ys zs) (t&&u))=0 then 0 else 43):=lh rfl
   have HCE2:Hid (carE zs u (meetL ys zs) (t&&u) vs v=if subE vs v (bndB zs u (meetL ys zs) (t&&u))=0 then 0 else 43):=lh rfl
   by_cases h4:subE xs r (bndB ys t (meetL ys zs) (t&&u))=0
   ·have hce1:carE ys t (meetL ys zs) (t&&u) xs r=0:=by rw [HCE1.out,if_pos h4]
    rw [hce1] at HC1
    by_cases h5:subE vs v (bndB zs u (meetL ys zs) (t&&u))=0
    ·have hce2:carE zs u (meetL ys zs) (t&&u) vs v=0:=by rw [HCE2.out,if_pos h5]
     have HGOOD:=lh (fun e' w' h=>ch_good (w:=w) (e:=e') (w':=w') (xs:=xs) (ys:=ys) (zs:=zs) (vs:=vs) (r:=r) (t:=t) (u:=u) (v:=v) (ch_parts.2 ⟨h1,h3,hce1,hce2⟩) h)
     rw [hce2] at HC2
     unfold ruV at *
     generalize carL ys t (meetL ys zs) (t&&u) xs r=ll at *
     generalize carR ys t (meetL ys zs) (t&&u) xs r=lr at *
     generalize carL zs u (meetL ys zs) (t&&u) vs v=rl at *
     generalize carR zs u (meetL ys zs) (t&&u) vs v=rr at *
     generalize meetL ys zs=mm at *
     generalize hmr:(t&&u)=mr at *
     clear hsx hsy hsz hsv hly hlz h1 h3 hms hml HCE1 HCE2 h4 h5 hce1 hce2 hmr
     go_enter Tryz.func28,Tryz.ntmps28
     go_wp2_with (first
      | (go_at_call 57;refine (HCK.out _ (HI.go bB).out.2.2.1.1.1 (HI.go bB).out.2.2.1.1.2 (HI.go bB).out.2.2.1.2.1 (HI.go bB).out.2.2.1.2.2 (HI.go bB).out.2.2.2.1).mono ?_;rintro e w1 ⟨rfl,hb⟩;replace HI:=HI.go2 bB hb;clear hb;obtain ⟨⟨⟨s0,s1,s2,s3,s4,s5⟩,⟨f0,f1,f2,f3,f4,f5⟩⟩,⟨⟨p1,p2,p3,p4,p5,p6⟩,⟨q1,q2,q3,q4,q5,q6⟩⟩,-⟩:=HI.out)
      | (go_at_call 58;refine (HME.out _ (HI.go bB).out.2.2.1.1.2 (HI.go bB).out.2.2.1.2.1).mono ?_;rintro e w3 ⟨M,n,rfl,hr,hb⟩;replace HI:=HI.go2 bB hb;clear hb;have HM:=At.rb2 (q:=mr) hr;have m1:=hr.1;have m2:=hr.2.1;clear hr;obtain ⟨⟨⟨s0,s1,s2,s3,s4,s5⟩,⟨f0,f1,f2,f3,f4,f5⟩⟩,⟨⟨p1,p2,p3,p4,p5,p6⟩,⟨q1,q2,q3,q4,q5,q6⟩⟩,-⟩:=HI.out)
      | (go_at_call_of 59 (Value.agg #[.slice B ys.length d,.bool t]);refine (HC1.out _ _ _ (HI.go bB).out.2.2.1.1.2 (HM.go bB).out.2 (HI.go bB).out.2.2.1.1.1 (HI.go bB).out.2.2.2.1).mono ?_;rintro e w4 ⟨E,k,rfl,hr,hb⟩;replace HM:=HM.go2 bB hb;replace HI:=HI.go2 bB hb;clear hb;have HD:=At.rb2 (q:=lr) hr;have d1:=hr.1;have d2:=hr.2.1;clear hr;obtain ⟨⟨⟨s0,s1,s2,s3,s4,s5⟩,⟨f0,f1,f2,f3,f4,f5⟩⟩,⟨⟨p1,p2,p3,p4,p5,p6⟩,⟨q1,q2,q3,q4,q5,q6⟩⟩,-⟩:=HI.out;obtain ⟨⟨m3,m4,m5,m6,m7⟩,-⟩:=HM.out)
      | (go_at_call_of 59 (Value.agg #[.slice C zs.length e,.bool u]);refine (HC2.out _ _ _ (HI.go bB).out.2.2.1.2.1 (HM.go bB).out.2 (HI.go bB).out.2.2.1.2.2 (HI.go bB).out.2.2.2.1).mono ?_;rintro e w5 ⟨G,l,rfl,hr,hb⟩;replace HM:=HM.go2 bB hb;replace HD:=HD.go2 bB hb;replace HI:=HI.go2 bB hb;clear hb;have HG:=At.rb2 (q:=rr) hr;have HG0:=lh hr;have g1:=hr.1;have g2:=hr.2.1;clear hr;obtain ⟨⟨⟨s0,s1,s2,s3,s4,s5⟩,⟨f0,f1,f2,f3,f4,f5⟩⟩,⟨⟨p1,p2,p3,p4,p5,p6⟩,⟨q1,q2,q3,q4,q5,q6⟩⟩,-⟩:=HI.out;obtain ⟨⟨d3,d4,d5,d6,d7⟩,-⟩:=HD.out))
     refine bodyPost_ret (v:=.tuple #[.agg #[.bool false,.slice E ll.length k,.bool lr,.slice G rl.length l,.bool rr],.bool true,.int .i64 0]) (by simp [results,Tryz.results28,go_sem,s0,s1,s2,s3,s4,s5,f0,f1,f2,f3,f4]) rfl (HGOOD.out _ _ ⟨E,k,G,l,rfl,?_,?_,?_⟩)
     ·exact (HD.out.2.set5 HI.out.1.1 (bool_ns _) (slice_ns _ _ _) (bool_ns _) (slice_ns _ _ _) (bool_ns _) _ _ _ _ _).below (ba _ _)
     ·exact (HG0.out.set5 HI.out.1.1 (bool_ns _) (slice_ns _ _ _) (bool_ns _) (slice_ns _ _ _) (bool_ns _) _ _ _ _ _).below (ba _ _)
     ·exact below_al (below_set5 HI.out.2.2.2.2 (by omega) _ _ _ _ _) _
    ·have hce2:carE zs u (meetL ys zs) (t&&u) vs v=43:=by rw [HCE2.out,if_neg h5]
     have HBAD:=lh (fun e' w' h=>ch_bad (w:=w) (e:=e') (w':=w') (xs:=xs) (ys:=ys) (zs:=zs) (vs:=vs) (r:=r) (t:=t) (u:=u) (v:=v) (n:=43) (by unfold chO;rw [hce2];simp) (by unfold chE;rw [if_neg (by simp [h1]),if_neg (by simp [h3]),if_neg (by simp [hce1]),hce2]) h)
     rw [hce2] at HC2
     unfold ruV at *
     generalize carL ys t (meetL ys zs) (t&&u) xs r=ll at *
     generalize carR ys t (meetL ys zs) (t&&u) xs r=lr at *
     generalize carL zs u (meetL ys zs) (t&&u) vs v=rl at *
     generalize carR zs u (meetL ys zs) (t&&u) vs v=rr at *
     generalize meetL ys zs=mm at *
     generalize hmr:(t&&u)=mr at *
     clear hsx hsy hsz hsv hly hlz h1 h3 hms hml HCE1 HCE2 h4 h5 hce1 hce2 hmr
     go_enter Tryz.func28,Tryz.ntmps28
     go_wp2_with (first
      | (go_at_call 57;refine (HCK.out _ (HI.go bB).out.2.2.1.1.1 (HI.go bB).out.2.2.1.1.2 (HI.go bB).out.2.2.1.2.1 (HI.go bB).out.2.2.1.2.2 (HI.go bB).out.2.2.2.1).mono ?_;rintro e w1 ⟨rfl,hb⟩;replace HI:=HI.go2 bB hb;clear hb;obtain ⟨⟨⟨s0,s1,s2,s3,s4,s5⟩,⟨f0,f1,f2,f3,f4,f5⟩⟩,⟨⟨p1,p2,p3,p4,p5,p6⟩,⟨q1,q2,q3,q4,q5,q6⟩⟩,-⟩:=HI.out)
      | (go_at_call 58;refine (HME.out _ (HI.go bB).out.2.2.1.1.2 (HI.go bB).out.2.2.1.2.1).mono ?_;rintro e w3 ⟨M,n,rfl,hr,hb⟩;replace HI:=HI.go2 bB hb;clear hb;have HM:=At.rb2 (q:=mr) hr;have m1:=hr.1;have m2:=hr.2.1;clear hr;obtain ⟨⟨⟨s0,s1,s2,s3,s4,s5⟩,⟨f0,f1,f2,f3,f4,f5⟩⟩,⟨⟨p1,p2,p3,p4,p5,p6⟩,⟨q1,q2,q3,q4,q5,q6⟩⟩,-⟩:=HI.out)
      | (go_at_call_of 59 (Value.agg #[.slice B ys.length d,.bool t]);refine (HC1.out _ _ _ (HI.go bB).out.2.2.1.1.2 (HM.go bB).out.2 (HI.go bB).out.2.2.1.1.1 (HI.go bB).out.2.2.2.1).mono ?_;rintro e w4 ⟨E,k,rfl,hr,hb⟩;replace HM:=HM.go2 bB hb;replace HI:=HI.go2 bB hb;clear hb;have HD:=At.rb2 (q:=lr) hr;have d1:=hr.1;have d2:=hr.2.1;clear hr;obtain ⟨⟨⟨s0,s1,s2,s3,s4,s5⟩,⟨f0,f1,f2,f3,f4,f5⟩⟩,⟨⟨p1,p2,p3,p4,p5,p6⟩,⟨q1,q2,q3,q4,q5,q6⟩⟩,-⟩:=HI.out;obtain ⟨⟨m3,m4,m5,m6,m7⟩,-⟩:=HM.out)
      | (go_at_call_of 59 (Value.agg #[.slice C zs.length e,.bool u]);refine (HC2.out _ _ _ (HI.go bB).out.2.2.1.2.1 (HM.go bB).out.2 (HI.go bB).out.2.2.1.2.2 (HI.go bB).out.2.2.2.1).mono ?_;rintro e w5 ⟨G,l,rfl,hr,hb⟩;replace HM:=HM.go2 bB hb;replace HD:=HD.go2 bB hb;replace HI:=HI.go2 bB hb;clear hb;have HG:=At.rb2 (q:=rr) hr;have HG0:=lh hr;have g1:=hr.1;have g2:=hr.2.1;clear hr;obtain ⟨⟨⟨s0,s1,s2,s3,s4,s5⟩,⟨f0,f1,f2,f3,f4,f5⟩⟩,⟨⟨p1,p2,p3,p4,p5,p6⟩,⟨q1,q2,q3,q4,q5,q6⟩⟩,-⟩:=HI.out;obtain ⟨⟨d3,d4,d5,d6,d7⟩,-⟩:=HD.out))
     refine bodyPost_ret (v:=.tuple #[.agg #[.bool false,.slice none 0 0,.bool false,.slice none 0 0,.bool false],.bool false,.int .i64 43]) (by simp [results,Tryz.results28,go_sem,s0,s1,s2,s3,s4,s5,f0,f1,f2,f3,f4]) rfl (HBAD.out _ _ ⟨none,0,none,0,rfl,RT.nil _ _ _ (by omega),RT.nil _ _ _ (by omega),?_⟩)
     exact below_al (below_set5 HI.out.2.2.2.2 (by omega) _ _ _ _ _) _
   ·have hce1:carE ys t (meetL ys zs) (t&&u) xs r=43:=by rw [HCE1.out,if_neg h4]
    have HBAD:=lh (fun e' w' h=>ch_bad (w:=w) (e:=e') (w':=w') (xs:=xs) (ys:=ys) (zs:=zs) (vs:=vs) (r:=r) (t:=t) (u:=u) (v:=v) (n:=43) (by unfold chO;rw [hce1];simp) (by unfold chE;rw [if_neg (by simp [h1]),if_neg (by simp [h3]),if_pos (by rw [hce1];decide)]) h)
    rw [hce1] at HC1
    unfold ruV at *
    generalize carL ys t (meetL ys zs) (t&&u) xs r=ll at *
    generalize carR ys t (meetL ys zs) (t&&u) xs r=lr at *
    generalize meetL ys zs=mm at *
    generalize hmr:(t&&u)=mr at *
    clear hsx hsy hsz hsv hly hlz h1 h3 hms hml HCE1 HCE2 h4 hce1 hmr HC2
    go_enter Tryz.func28,Tryz.ntmps28
    go_wp2_with (first
     | (go_at_call 57;refine (HCK.out _ (HI.go bB).out.2.2.1.1.1 (HI.go bB).out.2.2.1.1.2 (HI.go bB).out.2.2.1.2.1 (HI.go bB).out.2.2.1.2.2 (HI.go bB).out.2.2.2.1).mono ?_;rintro e w1 ⟨rfl,hb⟩;replace HI:=HI.go2 bB hb;clear hb;obtain ⟨⟨⟨s0,s1,s2,s3,s4,s5⟩,⟨f0,f1,f2,f3,f4,f5⟩⟩,⟨⟨p1,p2,p3,p4,p5,p6⟩,⟨q1,q2,q3,q4,q5,q6⟩⟩,-⟩:=HI.out)
     | (go_at_call 58;refine (HME.out _ (HI.go bB).out.2.2.1.1.2 (HI.go bB).out.2.2.1.2.1).mono ?_;rintro e w3 ⟨M,n,rfl,hr,hb⟩;replace HI:=HI.go2 bB hb;clear hb;have HM:=At.rb2 (q:=mr) hr;have m1:=hr.1;have m2:=hr.2.1;clear hr;obtain ⟨⟨⟨s0,s1,s2,s3,s4,s5⟩,⟨f0,f1,f2,f3,f4,f5⟩⟩,⟨⟨p1,p2,p3,p4,p5,p6⟩,⟨q1,q2,q3,q4,q5,q6⟩⟩,-⟩:=HI.out)
     | (go_at_call_of 59 (Value.agg #[.slice B ys.length d,.bool t]);refine (HC1.out _ _ _ (HI.go bB).out.2.2.1.1.2 (HM.go bB).out.2 (HI.go bB).out.2.2.1.1.1 (HI.go bB).out.2.2.2.1).mono ?_;rintro e w4 ⟨E,k,rfl,hr,hb⟩;replace HM:=HM.go2 bB hb;replace HI:=HI.go2 bB hb;clear hb;have HD:=At.rb2 (q:=lr) hr;have d1:=hr.1;have d2:=hr.2.1;clear hr;obtain ⟨⟨⟨s0,s1,s2,s3,s4,s5⟩,⟨f0,f1,f2,f3,f4,f5⟩⟩,⟨⟨p1,p2,p3,p4,p5,p6⟩,⟨q1,q2,q3,q4,q5,q6⟩⟩,-⟩:=HI.out;obtain ⟨⟨m3,m4,m5,m6,m7⟩,-⟩:=HM.out)
     | (go_at_call_of 59 (Value.agg #[.slice C zs.length e,.bool u]);refine (HC2.out _ _ _ (HI.go bB).out.2.2.1.2.1 (HM.go bB).out.2 (HI.go bB).out.2.2.1.2.2 (HI.go bB).out.2.2.2.1).mono ?_;rintro e w5 ⟨G,l,rfl,hr,hb⟩;replace HM:=HM.go2 bB hb;replace HD:=HD.go2 bB hb;replace HI:=HI.go2 bB hb;clear hb;have HG:=At.rb2 (q:=rr) hr;have HG0:=lh hr;have g1:=hr.1;have g2:=hr.2.1;clear hr;obtain ⟨⟨⟨s0,s1,s2,s3,s4,s5⟩,⟨f0,f1,f2,f3,f4,f5⟩⟩,⟨⟨p1,p2,p3,p4,p5,p6⟩,⟨q1,q2,q3,q4,q5,q6⟩⟩,-⟩:=HI.out;obtain ⟨⟨d3,d4,d5,d6,d7⟩,-⟩:=HD.out))
    refine bodyPost_ret (v:=.tuple #[.agg #[.bool false,.slice none 0 0,.bool false,.slice none 0 0,.bool false],.bool false,.int .i64 43]) (by simp [results,Tryz.results28,go_sem,s0,s1,s2,s3,s4,s5,f0,f1,f2,f3,f4]) rfl (HBAD.out _ _ ⟨none,0,none,0,rfl,RT.nil _ _ _ (by omega),RT.nil _ _ _ (by omega),?_⟩)
    exact below_al (below_set5 HI.out.2.2.2.2 (by omega) _ _ _ _ _) _
 ·have HBAD:=lh (fun e' w' h=>ch_bad (w:=w) (e:=e') (w':=w') (xs:=xs) (ys:=ys) (zs:=zs) (vs:=vs) (r:=r) (t:=t) (u:=u) (v:=v) (n:=chkE xs r ys t zs u vs v) (by unfold chO;rw [beq_eq_false_iff_ne.2 h1];simp) (by unfold chE;rw [if_pos h1]) h)
  have hnB:(chkE xs r ys t zs u vs v != 0)=true:=by rw [bne_iff_ne];exact h1
  unfold ruV at *
  clear hsx hsy hsz hsv hly hlz h1 HME
  generalize chkE xs r ys t zs u vs v=nn at *
  go_enter Tryz.func28,Tryz.ntmps28
  go_wp2_with (first
   | (go_at_call 57;refine (HCK.out _ (HI.go bB).out.2.2.1.1.1 (HI.go bB).out.2.2.1.1.2 (HI.go bB).out.2.2.1.2.1 (HI.go bB).out.2.2.1.2.2 (HI.go bB).out.2.2.2.1).mono ?_;rintro e w1 ⟨rfl,hb⟩;replace HI:=HI.go2 bB hb;clear hb;obtain ⟨⟨⟨s0,s1,s2,s3,s4,s5⟩,⟨f0,f1,f2,f3,f4,f5⟩⟩,⟨⟨p1,p2,p3,p4,p5,p6⟩,⟨q1,q2,q3,q4,q5,q6⟩⟩,-⟩:=HI.out)
   | (go_at_call 58;refine (HME.out _ (HI.go bB).out.2.2.1.1.2 (HI.go bB).out.2.2.1.2.1).mono ?_;rintro e w3 ⟨M,n,rfl,hr,hb⟩;replace HI:=HI.go2 bB hb;clear hb;have HM:=At.rb2 (q:=mr) hr;have m1:=hr.1;have m2:=hr.2.1;clear hr;obtain ⟨⟨⟨s0,s1,s2,s3,s4,s5⟩,⟨f0,f1,f2,f3,f4,f5⟩⟩,⟨⟨p1,p2,p3,p4,p5,p6⟩,⟨q1,q2,q3,q4,q5,q6⟩⟩,-⟩:=HI.out)
   | (go_at_call_of 59 (Value.agg #[.slice B ys.length d,.bool t]);refine (HC1.out _ _ _ (HI.go bB).out.2.2.1.1.2 (HM.go bB).out.2 (HI.go bB).out.2.2.1.1.1 (HI.go bB).out.2.2.2.1).mono ?_;rintro e w4 ⟨E,k,rfl,hr,hb⟩;replace HM:=HM.go2 bB hb;replace HI:=HI.go2 bB hb;clear hb;have HD:=At.rb2 (q:=lr) hr;have d1:=hr.1;have d2:=hr.2.1;clear hr;obtain ⟨⟨⟨s0,s1,s2,s3,s4,s5⟩,⟨f0,f1,f2,f3,f4,f5⟩⟩,⟨⟨p1,p2,p3,p4,p5,p6⟩,⟨q1,q2,q3,q4,q5,q6⟩⟩,-⟩:=HI.out;obtain ⟨⟨m3,m4,m5,m6,m7⟩,-⟩:=HM.out)
   | (go_at_call_of 59 (Value.agg #[.slice C zs.length e,.bool u]);refine (HC2.out _ _ _ (HI.go bB).out.2.2.1.2.1 (HM.go bB).out.2 (HI.go bB).out.2.2.1.2.2 (HI.go bB).out.2.2.2.1).mono ?_;rintro e w5 ⟨G,l,rfl,hr,hb⟩;replace HM:=HM.go2 bB hb;replace HD:=HD.go2 bB hb;replace HI:=HI.go2 bB hb;clear hb;have HG:=At.rb2 (q:=rr) hr;have HG0:=lh hr;have g1:=hr.1;have g2:=hr.2.1;clear hr;obtain ⟨⟨⟨s0,s1,s2,s3,s4,s5⟩,⟨f0,f1,f2,f3,f4,f5⟩⟩,⟨⟨p1,p2,p3,p4,p5,p6⟩,⟨q1,q2,q3,q4,q5,q6⟩⟩,-⟩:=HI.out;obtain ⟨⟨d3,d4,d5,d6,d7⟩,-⟩:=HD.out))
  refine bodyPost_ret (v:=.tuple #[.agg #[.bool false,.slice none 0 0,.bool false,.slice none 0 0,.bool false],.bool false,.int .i64 nn]) (by simp [results,Tryz.results28,go_sem,s0,s1,s2,s3,s4,s5,f0,f1,f2,f3,f4]) rfl (HBAD.out _ _ ⟨none,0,none,0,rfl,RT.nil _ _ _ (by omega),RT.nil _ _ _ (by omega),?_⟩)
  exact below_set5 HI.out.2.2.2.2 (by omega) _ _ _ _ _
end Go.Proofs.YtelkmeiepliecaaGreatDoor
