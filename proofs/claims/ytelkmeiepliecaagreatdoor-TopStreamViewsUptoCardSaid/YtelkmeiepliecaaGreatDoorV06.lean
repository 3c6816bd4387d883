/-
  Part 6 of the proof.
-/
import Derived.Test.YtelkmeiepliecaaGreatDoorV05
set_option linter.unusedSimpArgs false
set_option linter.unusedVariables false
set_option maxHeartbeats 16000000
namespace Go.Proofs.YtelkmeiepliecaaGreatDoor
open Go.RowKit
open Pm
theorem fill_e0 {xs:List ByteArray} {r:Bool} {cs:List ByteArray} (h:checkP xs r≠0):fillE xs r cs=checkP xs r∧fillT xs r cs=⟨#[]⟩:=by
 have e:fillE xs r cs=checkP xs r:=by unfold fillE;rw [if_neg h]
 exact ⟨e,by unfold fillT;rw [e,if_neg h]⟩
theorem fill_e1 {xs:List ByteArray} {r:Bool} {cs:List ByteArray} (h:checkP xs r=0) (k:fillOk stB xs r cs=false):fillE xs r cs=32∧fillT xs r cs=⟨#[]⟩:=by
 have e:fillE xs r cs=32:=by unfold fillE;rw [if_pos h,if_neg (by rw [k];decide)]
 exact ⟨e,by unfold fillT;rw [e,if_neg (by decide)]⟩
theorem fill_e2 {xs:List ByteArray} {r:Bool} {cs:List ByteArray} (h:checkP xs r=0) (k:fillOk stB xs r cs=true):fillE xs r cs=0∧fillT xs r cs=joinB (fillL stB tlB xs r cs):=by
 have e:fillE xs r cs=0:=by unfold fillE;rw [if_pos h,if_pos k]
 exact ⟨e,by unfold fillT;rw [e,if_pos rfl]⟩
theorem fill_check (A B:Option Addr) (c d:Nat) (xs cs:List ByteArray) (r:Bool) (w:World) (h:RT w A c xs) (hsz:∀ x∈xs,x.size≤5000) (hn:checkP xs r≠0) :
 Calls Tryz.prog 100 #[.agg #[.slice A xs.length c,.bool r],.slice B cs.length d] w fun e w'=>e=.returned (.tuple #[.string (fillT xs r cs),.int .i64 (fillE xs r cs)])∧Below w.heap.size w w':=by
 obtain ⟨e1,e2⟩:=fill_e0 (cs:=cs) hn
 rw [e1,e2]
 have HK:=lh (fun W (h:RT W A c xs)=>kinds_any A c xs r W h (fun x hx=>by have:=hsz x hx;omega))
 have HX:=lh h
 have hnB:(checkP xs r != 0)=true:=by rw [bne_iff_ne];exact hn
 clear h hsz hn e1 e2
 generalize checkP xs r=n at *
 go_enter Tryz.func100,Tryz.ntmps100
 go_wp2_with (go_at_call 90;refine (HK.out _ (HX.out.below (ba _ _))).mono ?_;rintro e w1 ⟨rfl,hb⟩)
 go_ret2
 exact ⟨rfl,(ba w _).trans (hb.mono (ba w _).size)⟩
theorem wild_bad {xs cs:List ByteArray} {r:Bool} (h:cs.length≠wildB stB xs r):fillOk stB xs r cs=false:=by
 unfold fillOk
 rw [decide_eq_false h,Bool.false_and]
theorem kindN_eq {xs:List ByteArray} {r:Bool} (h:checkP xs r=0):kindN xs r=countB stB xs∧kindR xs r=r:=by
 unfold kindN kindR
 rw [if_pos h,if_pos h]
 exact ⟨rfl,rfl⟩
theorem fill_len (A B:Option Addr) (c d:Nat) (xs cs:List ByteArray) (r:Bool) (w:World) (h:RT w A c xs) (hsz:∀ x∈xs,x.size≤5000) (hcl:cs.length≤9223372036854775807) (hn:checkP xs r=0) (hw:cs.length≠wildB stB xs r) :
 Calls Tryz.prog 100 #[.agg #[.slice A xs.length c,.bool r],.slice B cs.length d] w fun e w'=>e=.returned (.tuple #[.string (fillT xs r cs),.int .i64 (fillE xs r cs)])∧Below w.heap.size w w':=by
 obtain ⟨e1,e2⟩:=fill_e1 hn (wild_bad hw)
 rw [e1,e2]
 have HK:=lh (fun W (h:RT W A c xs)=>kinds_any A c xs r W h (fun x hx=>by have:=hsz x hx;omega))
 have HX:=lh h
 have h12:=(check_zero hn).2.1
 have hct:=count_le stB xs
 rw [(kindN_eq hn).1,(kindN_eq hn).2,hn] at HK
 unfold wildB at hw
 clear h hsz hn e1 e2
 generalize countB stB xs=n at *
 cases r with
 | true =>
  rw [if_pos rfl] at hw
  have hB:((cs.length:Int) != (n:Int)+1)=true:=by rw [bne_iff_ne];omega
  clear hw
  go_enter Tryz.func100,Tryz.ntmps100
  go_wp2_with (go_at_call 90;refine (HK.out _ (HX.out.below (ba _ _))).mono ?_;rintro e w1 ⟨rfl,hb⟩)
  go_ret2
  exact ⟨rfl,(ba w _).trans (hb.mono (ba w _).size)⟩
 | false =>
  rw [if_neg (by decide)] at hw
  have hB:((cs.length:Int) != (n:Int))=true:=by rw [bne_iff_ne];omega
  clear hw
  go_enter Tryz.func100,Tryz.ntmps100
  go_wp2_with (go_at_call 90;refine (HK.out _ (HX.out.below (ba _ _))).mono ?_;rintro e w1 ⟨rfl,hb⟩)
  go_ret2
  exact ⟨rfl,(ba w _).trans (hb.mono (ba w _).size)⟩
theorem fill_good {xs cs:List ByteArray} {r:Bool} (hl:cs.length=wildB stB xs r) (h:flOk stB xs cs=true) (h2:r=true→(spB (lastC stB xs cs).data.toList).all (fun x=>comp x.data.toList)=true):fillOk stB xs r cs=true:=by
 unfold fillOk
 rw [decide_eq_true hl,h]
 cases r with
 | false=>rfl
 | true=>simpa using h2 rfl
theorem fill_bad1 {xs cs:List ByteArray} {r:Bool} (h:flOk stB xs cs=false):fillOk stB xs r cs=false:=by
 unfold fillOk
 rw [h,Bool.false_and,Bool.and_false]
theorem fill_bad2 {xs cs:List ByteArray} (h:(spB (lastC stB xs cs).data.toList).all (fun x=>comp x.data.toList)=false):fillOk stB xs true cs=false:=by
 unfold fillOk
 rw [h]
 simp
theorem fill_ret {xs cs:List ByteArray} {r:Bool} (hn:checkP xs r=0) (k:fillOk stB xs r cs=true) {s:ByteArray} (hs:s=joinB (fillL stB tlB xs r cs)) :
 Ending.returned (.tuple #[.string s,.int .i64 0])=.returned (.tuple #[.string (fillT xs r cs),.int .i64 (fillE xs r cs)]):=by
 rw [(fill_e2 hn k).1,(fill_e2 hn k).2,hs]
theorem fill_nor {xs cs:List ByteArray} {r:Bool} (hn:checkP xs r=0) (k:fillOk stB xs r cs=false) :
 Ending.returned (.tuple #[.string ⟨#[]⟩,.int .i64 32])=.returned (.tuple #[.string (fillT xs r cs),.int .i64 (fillE xs r cs)]):=by
 rw [(fill_e1 hn k).1,(fill_e1 hn k).2]
theorem fill_plain (A B:Option Addr) (c d:Nat) (xs cs:List ByteArray) (w:World) (h:RT w A c xs) (k:RT w B d cs) (hm:ML w) (hsx:∀ x∈xs,x.size≤5000) (hsc:∀ x∈cs,x.size≤5000) (hn:checkP xs false=0) (hw:cs.length=countB stB xs+0) :
 Calls Tryz.prog 100 #[.agg #[.slice A xs.length c,.bool false],.slice B cs.length d] w fun e w'=>e=.returned (.tuple #[.string (fillT xs false cs),.int .i64 (fillE xs false cs)])∧Below w.heap.size w w':=by
 have hct:=count_le stB xs
 have h12:=(check_zero hn).2.1
 have HN:=lh hn
 have HK:=lh (fun W (h:RT W A c xs)=>kinds_any A c xs false W h (fun x hx=>by have:=hsx x hx;omega))
 rw [(kindN_eq hn).1,(kindN_eq hn).2,hn] at HK
 have HI:=P1.enter h hm false 45
 have HSX:=lh hsx
 have HSC:=lh hsc
 have HC0:=lh (k.below (ba w (.cells #[.slice A xs.length c,.bool false] 45)))
 have HW:=lh hw
 have hdc:=k.1
 have hd9:=k.2.1
 obtain ⟨i0,hi,hz0,hz1,hz2⟩:=info_parts textInfo
 clear h k hm hsx hsc hn
 have hB:((cs.length:Int) != (countB stB xs:Nat))=false:=by rw [hw];simp
 have HG:=lh (fun h=>fill_ret (s:=⟨#[47,47]⟩++joinT (flC stB tlB xs cs)) HN.out (fill_good (r:=false) (by rw [hw];rfl) h (fun h=>by cases h)) (by rw [cat_eq];unfold fillL;simp))
 have hjl:(Lib.join (datj (flC stB tlB xs cs)) [47]).length≤100000000:=by
  have h5:=join_le (flC_size (st:=stB) (tl:=tlB) tlB_size HSX.out HSC.out)
  rw [flC_len] at h5
  have h6:xs.length * (10000+1)≤12 * (10000+1):=Nat.mul_le_mul_right _ h12
  exact Nat.le_trans h5 (by omega)
 have HJN:Hid (∀ W C e,RT W C e (flC stB tlB xs cs)→Calls Tryz.prog 98 #[.slice C (flC stB tlB xs cs).length e,.string ⟨#[47]⟩] W fun e w'=>e=.returned (.string (joinT (flC stB tlB xs cs)))∧Below W.heap.size W w'):=lh (fun W C e hW=>join_any C e _ ⟨#[47]⟩ W hW (by rw [flC_len];omega) hjl)
 have hjz:(joinT (flC stB tlB xs cs)).size≤100000000:=by rw [joinT_size];exact hjl
 have HCAT:=lh (cat_eq (flC stB tlB xs cs))
 have HFL:=lh (flC_len stB tlB xs cs)
 clear hjl
 clear hw
 generalize hcn:countB stB xs=n at *
 have HCN:=lh hcn
 clear hcn
 go_enter Tryz.func100,Tryz.ntmps100
 go_wp2_with (first
  | (go_at_call 90;refine (HK.out _ (P1.x (HI.go bB))).mono ?_;rintro e w1 ⟨rfl,hb⟩;have HC:=lh (HC0.out.below hb);replace HI:=HI.go2 bB hb;clear hb;obtain ⟨p1,p2⟩:=P1.cells HI)
  | (at_make;refine wpList_make_own _ rfl _ _ 25 rfl w1.heap.size 9 i0 (.string ByteArray.empty) 1 Tryz.underlying25 hi hz0 hz1 _ _ _ (xs.length+1) rfl rfl (by omega) (by rw [hz2];omega) (by unfold maxLen;omega) (Nat.le_refl _) ?_;intro w2 hown0 hgrow0;have HB2:=lh ((Below.refl w1.heap.size w1).grown hgrow0 (Nat.le_refl _) (fun k h=>by cases h));have HO2:Hid (OT w2 w1.heap.size (.slice (some ⟨w1.heap.size,0,none⟩) 0 (xs.length+1)) []):=lh hown0;clear hown0 hgrow0;have HI2:=HI.go HB2.out;obtain ⟨q1,q2⟩:=P1.cells HI2))
 go_loopw [1,9,49] (fun cv ov i wr=>∃ (k:Nat) (ds done:List ByteArray) (m:Nat) (B':Option Addr) (d':Nat),k≤xs.length∧i=.int .i64 k∧cv=.slice B' m d'∧m≤d'∧d'≤9223372036854775807∧Hid (ds.length=m)∧Hid (m=countB stB (xs.drop k)+0)∧Hid (RT w1 B' d' ds) ∧
  Hid (OT wr w1.heap.size ov done)∧Hid (FI stB tlB xs cs k ds done)∧Hid (Below w1.heap.size w1 wr)) (fun _ _ i _=>xs.length-(intOf i).toNat)
 case atStart=>exact ⟨0,cs,[],cs.length,B,d,Nat.zero_le _,rfl,rfl,hdc,hd9,lh rfl,lh (by rw [List.drop_zero,HCN.out];exact HW.out),HC,HO2,lh (FI.start _ _ _ _),HB2⟩
 case round =>
  obtain ⟨k,ds,done,m,B',d',hk,rfl,rfl,hmd,hd9',HDL,HML,HRD,HO,HF,HBL⟩:=hrel
  have HJ:=HI.go HBL.out
  obtain ⟨z1,z2⟩:=P1.cells HJ
  have hsz2:=HBL.out.size
  by_cases hlt:k<xs.length
  ·obtain ⟨x,hx⟩:∃ x,xs[k]? = some x:=⟨_,gE hlt⟩
   obtain ⟨b1,o1,rfl,hb1,hc1⟩:=(P1.x HJ).2.2 (by omega)
   have hcx:=hc1 k x hx
   have hxz:=HSX.out x (mG hx)
   have HHX:=lh hx
   clear hc1 hx hb1
   have HDN:=lh HF.out.1
   cases hst:stB x with
   | false =>
    have HP:=lh (HF.out.part HHX.out hst)
    go_wp2_with (first
     | (go_at_call 97;refine (isStar_any x _).mono ?_;rintro e w' ⟨rfl,rfl⟩)
     | (at_builtin;refine wpList_append_texts rfl _ _ rfl w1.heap.size _ _ [x] _ 1 rfl rfl (HO.out.below (ba _ _)) (RT.one _ _ _) (by have:=HDN.out;simp only [List.length_singleton];omega) (by simp;omega) ?_;intro v1 w3 hown hg _;have HBL2:=lh ((HBL.out.alloc HBL.out.size _).grown hg (by simp;omega) HO.out.own);have HOW:=lh hown;clear hown hg))
    go_roundw
    case rel=>exact ⟨k+1,ds,done++[x],m,B',d',by omega,by go_num,rfl,hmd,hd9',HDL,lh (by rw [HML.out,HP.out.2]),HRD,HOW,lh HP.out.1,HBL2⟩
    case measure=>simp [intOf];omega
   | true =>
    have hpos:=stB_pos hst
    have hm1:0<m:=by
     have h1:=HML.out
     rw [drop_cons HHX.out,count_cons,if_pos hst] at h1
     omega
    obtain ⟨y,ds',rfl⟩:∃ y ds',ds=y::ds':=by
     cases hds:ds with
     | nil=>have:=HDL.out;rw [hds] at this;simp at this;omega
     | cons y ds'=>exact ⟨y,ds',rfl⟩
    have HS:=lh (HF.out.star HHX.out hst)
    have hyz:=HSC.out y (HF.out.mem (by simp))
    obtain ⟨b2,o2,rfl,hb2,hc2⟩:=(HRD.out.below HBL.out).2.2 (by simp)
    have hcy:wr.cell? ⟨b2,o2,none⟩=some (.string y):=hc2 0 y rfl
    clear hc2 hb2
    have HDL':Hid (ds'.length=m-1):=lh (by have:=HDL.out;simp at this;omega)
    have HML':Hid (m-1=countB stB (xs.drop (k+1))+0):=lh (by have:=HML.out;have:=HS.out.2.2;omega)
    cases hcm:comp y.data.toList with
    | false =>
     have HBAD:=lh (fill_nor HN.out (fill_bad1 (r:=false) (HS.out.2.1 hcm)))
     go_wp2_with (first
      | (go_at_call 97;refine (isStar_any x _).mono ?_;rintro e w' ⟨rfl,rfl⟩)
      | (go_at_call 93;refine (component_any y _ (by omega)).mono ?_;rintro e w' ⟨rfl,rfl⟩))
     go_ret2
     exact ⟨HBAD.out,P1.b HJ⟩
    | true =>
     have HN1:=lh (HS.out.1 hcm)
     rcases Nat.lt_or_ge 1 d' with hd1|hd1
     ·have HRD':Hid (RT w1 (some ⟨b2,o2+1,none⟩) (d'-1) ds'):=lh (by
       have:=HRD.out.drop 1 (by simp)
       simpa using this)
      go_wp2_with (first
       | (go_at_call 97;refine (isStar_any x _).mono ?_;rintro e w' ⟨rfl,rfl⟩)
       | (go_at_call 93;refine (component_any y _ (by omega)).mono ?_;rintro e w' ⟨rfl,rfl⟩))
      go_quiet (fail)
      go_wp2_with (at_builtin;refine wpList_append_texts rfl _ _ rfl w1.heap.size _ _ [y++tlB x] _ 1 rfl rfl (HO.out.below (below_al (below_drewN' _ _) _)) (RT.one _ _ _) (by have:=HDN.out;simp only [List.length_singleton];omega) (by simp;omega) ?_;intro v1 w3 hown hg _;have HBL2:=lh (((below_drewN HBL.out _).alloc (by simp;omega) _).grown hg (by simp;omega) HO.out.own);have HOW:=lh hown;clear hown hg)
      go_roundw
      case rel=>exact ⟨k+1,ds',done++[y++tlB x],m-1,some ⟨b2,o2+1,none⟩,d'-1,by omega,by go_num,rfl,by omega,by omega,HDL',HML',HRD',HOW,HN1,HBL2⟩
      case measure=>simp [intOf];omega
     ·obtain rfl:d'=1:=by omega
      obtain rfl:m=1:=by omega
      have HRD':Hid (RT w1 (some ⟨b2,o2,none⟩) 0 ds'):=lh (by
       have:ds'=[]:=List.eq_nil_of_length_eq_zero HDL'.out
       rw [this]
       exact RT.nil _ _ _ (by omega))
      go_wp2_with (first
       | (go_at_call 97;refine (isStar_any x _).mono ?_;rintro e w' ⟨rfl,rfl⟩)
       | (go_at_call 93;refine (component_any y _ (by omega)).mono ?_;rintro e w' ⟨rfl,rfl⟩))
      go_quiet (fail)
      go_wp2_with (at_builtin;refine wpList_append_texts rfl _ _ rfl w1.heap.size _ _ [y++tlB x] _ 1 rfl rfl (HO.out.below (below_al (below_drewN' _ _) _)) (RT.one _ _ _) (by have:=HDN.out;simp only [List.length_singleton];omega) (by simp;omega) ?_;intro v1 w3 hown hg _;have HBL2:=lh (((below_drewN HBL.out _).alloc (by simp;omega) _).grown hg (by simp;omega) HO.out.own);have HOW:=lh hown;clear hown hg)
      go_roundw
      case rel=>exact ⟨k+1,ds',done++[y++tlB x],0,some ⟨b2,o2,none⟩,0,by omega,by go_num,rfl,by omega,by omega,HDL',HML',HRD',HOW,HN1,HBL2⟩
      case measure=>simp [intOf];omega
  ·obtain ⟨e1,e2,e3,e4⟩:=HF.out.done (by omega)
   have HGG:=lh (HG.out e2)
   subst e1
   obtain ⟨C,cc,rfl,hrt⟩:=HO.out.read
   have HRT:=lh hrt
   have hf1:=hrt.1
   have hf2:=hrt.2.1
   clear hrt e2 e3 e4 HF
   generalize joinT (flC stB tlB xs cs)=jt at *
   generalize flC stB tlB xs cs=fl at *
   go_wp2_with (go_at_call 98;refine (HJN.out _ _ _ HRT.out).mono ?_;rintro e w3 ⟨rfl,hb3⟩)
   go_ret2
   exact ⟨HGG.out,P1.b (HJ.go hb3)⟩
theorem fill_rest (A B:Option Addr) (c d:Nat) (xs cs:List ByteArray) (w:World) (h:RT w A c xs) (k:RT w B d cs) (hm:ML w) (hsx:∀ x∈xs,x.size≤5000) (hsc:∀ x∈cs,x.size≤5000) (hn:checkP xs true=0) (hw:cs.length=countB stB xs+1) :
 Calls Tryz.prog 100 #[.agg #[.slice A xs.length c,.bool true],.slice B cs.length d] w fun e w'=>e=.returned (.tuple #[.string (fillT xs true cs),.int .i64 (fillE xs true cs)])∧Below w.heap.size w w':=by
 have hct:=count_le stB xs
 have h12:=(check_zero hn).2.1
 have HN:=lh hn
 have HK:=lh (fun W (h:RT W A c xs)=>kinds_any A c xs true W h (fun x hx=>by have:=hsx x hx;omega))
 rw [(kindN_eq hn).1,(kindN_eq hn).2,hn] at HK
 have HI:=P1.enter h hm true 45
 have HSX:=lh hsx
 have HSC:=lh hsc
 have HC0:=lh (k.below (ba w (.cells #[.slice A xs.length c,.bool true] 45)))
 have HW:=lh hw
 have hdc:=k.1
 have hd9:=k.2.1
 obtain ⟨i0,hi,hz0,hz1,hz2⟩:=info_parts textInfo
 clear h k hm hsx hsc hn
 have hB:((cs.length:Int) != (countB stB xs:Nat)+1)=false:=by rw [hw];simp
 have HG:=lh (fun h1 h2=>fill_ret (s:=⟨#[47,47]⟩++joinT (flC stB tlB xs cs++[lastC stB xs cs])) HN.out (fill_good (r:=true) (by rw [hw];rfl) h1 (fun _=>h2)) (by rw [cat_eq];unfold fillL;simp))
 have HGB:=lh (fun h=>fill_nor HN.out (fill_bad2 (xs:=xs) (cs:=cs) h))
 have hjs:∀ x∈flC stB tlB xs cs++[lastC stB xs cs],x.size≤10000:=fun x hx=>by
  rcases List.mem_append.1 hx with hx|hx
  ·exact flC_size (st:=stB) (tl:=tlB) tlB_size HSX.out HSC.out x hx
  ·obtain rfl:=List.mem_singleton.1 hx
   unfold lastC
   cases hd:cs.drop (countB stB xs) with
   | nil=>decide
   | cons y ys =>
    have:=HSC.out y (List.mem_of_mem_drop (i:=countB stB xs) (by rw [hd];simp))
    show y.size≤10000
    omega
 have hjl:(Lib.join (datj (flC stB tlB xs cs++[lastC stB xs cs])) [47]).length≤100000000:=by
  have h5:=join_le hjs
  rw [List.length_append,flC_len] at h5
  have h6:(xs.length+[lastC stB xs cs].length) * (10000+1)≤13 * (10000+1):=Nat.mul_le_mul_right _ (by simp;omega)
  exact Nat.le_trans h5 (by omega)
 have HJN:Hid (∀ W C e,RT W C e (flC stB tlB xs cs++[lastC stB xs cs])→Calls Tryz.prog 98 #[.slice C (flC stB tlB xs cs++[lastC stB xs cs]).length e,.string ⟨#[47]⟩] W fun e w'=>e=.returned (.string (joinT (flC stB tlB xs cs++[lastC stB xs cs])))∧Below W.heap.size W w'):=lh (fun W C e hW=>join_any C e _ ⟨#[47]⟩ W hW (by rw [List.length_append,flC_len];simp;omega) hjl)
 have hjz:(joinT (flC stB tlB xs cs++[lastC stB xs cs])).size≤100000000:=by rw [joinT_size];exact hjl
 have HFL:=lh (flC_len stB tlB xs cs)
 clear hjl hjs
 clear hw
 generalize hcn:countB stB xs=n at *
 have HCN:=lh hcn
 clear hcn
 go_enter Tryz.func100,Tryz.ntmps100
 go_wp2_with (first
  | (go_at_call 90;refine (HK.out _ (P1.x (HI.go bB))).mono ?_;rintro e w1 ⟨rfl,hb⟩;have HC:=lh (HC0.out.below hb);replace HI:=HI.go2 bB hb;clear hb;obtain ⟨p1,p2⟩:=P1.cells HI)
  | (at_make;refine wpList_make_own _ rfl _ _ 25 rfl w1.heap.size 9 i0 (.string ByteArray.empty) 1 Tryz.underlying25 hi hz0 hz1 _ _ _ (xs.length+1) rfl rfl (by omega) (by rw [hz2];omega) (by unfold maxLen;omega) (Nat.le_refl _) ?_;intro w2 hown0 hgrow0;have HB2:=lh ((Below.refl w1.heap.size w1).grown hgrow0 (Nat.le_refl _) (fun k h=>by cases h));have HO2:Hid (OT w2 w1.heap.size (.slice (some ⟨w1.heap.size,0,none⟩) 0 (xs.length+1)) []):=lh hown0;clear hown0 hgrow0;have HI2:=HI.go HB2.out;obtain ⟨q1,q2⟩:=P1.cells HI2))
 go_loopw [1,9,49] (fun cv ov i wr=>∃ (k:Nat) (ds done:List ByteArray) (m:Nat) (B':Option Addr) (d':Nat),k≤xs.length∧i=.int .i64 k∧cv=.slice B' m d'∧m≤d'∧d'≤9223372036854775807∧Hid (ds.length=m)∧Hid (m=countB stB (xs.drop k)+1)∧Hid (RT w1 B' d' ds) ∧
  Hid (OT wr w1.heap.size ov done)∧Hid (FI stB tlB xs cs k ds done)∧Hid (Below w1.heap.size w1 wr)) (fun _ _ i _=>xs.length-(intOf i).toNat)
 case atStart=>exact ⟨0,cs,[],cs.length,B,d,Nat.zero_le _,rfl,rfl,hdc,hd9,lh rfl,lh (by rw [List.drop_zero,HCN.out];exact HW.out),HC,HO2,lh (FI.start _ _ _ _),HB2⟩
 case round =>
  obtain ⟨k,ds,done,m,B',d',hk,rfl,rfl,hmd,hd9',HDL,HML,HRD,HO,HF,HBL⟩:=hrel
  have HJ:=HI.go HBL.out
  obtain ⟨z1,z2⟩:=P1.cells HJ
  have hsz2:=HBL.out.size
  by_cases hlt:k<xs.length
  ·obtain ⟨x,hx⟩:∃ x,xs[k]? = some x:=⟨_,gE hlt⟩
   obtain ⟨b1,o1,rfl,hb1,hc1⟩:=(P1.x HJ).2.2 (by omega)
   have hcx:=hc1 k x hx
   have hxz:=HSX.out x (mG hx)
   have HHX:=lh hx
   clear hc1 hx hb1
   have HDN:=lh HF.out.1
   cases hst:stB x with
   | false =>
    have HP:=lh (HF.out.part HHX.out hst)
    go_wp2_with (first
     | (go_at_call 97;refine (isStar_any x _).mono ?_;rintro e w' ⟨rfl,rfl⟩)
     | (at_builtin;refine wpList_append_texts rfl _ _ rfl w1.heap.size _ _ [x] _ 1 rfl rfl (HO.out.below (ba _ _)) (RT.one _ _ _) (by have:=HDN.out;simp only [List.length_singleton];omega) (by simp;omega) ?_;intro v1 w3 hown hg _;have HBL2:=lh ((HBL.out.alloc HBL.out.size _).grown hg (by simp;omega) HO.out.own);have HOW:=lh hown;clear hown hg))
    go_roundw
    case rel=>exact ⟨k+1,ds,done++[x],m,B',d',by omega,by go_num,rfl,hmd,hd9',HDL,lh (by rw [HML.out,HP.out.2]),HRD,HOW,lh HP.out.1,HBL2⟩
    case measure=>simp [intOf];omega
   | true =>
    have hpos:=stB_pos hst
    have hm1:0<m:=by
     have h1:=HML.out
     rw [drop_cons HHX.out,count_cons,if_pos hst] at h1
     omega
    obtain ⟨y,ds',rfl⟩:∃ y ds',ds=y::ds':=by
     cases hds:ds with
     | nil=>have:=HDL.out;rw [hds] at this;simp at this;omega
     | cons y ds'=>exact ⟨y,ds',rfl⟩
    have HS:=lh (HF.out.star HHX.out hst)
    have hyz:=HSC.out y (HF.out.mem (by simp))
    obtain ⟨b2,o2,rfl,hb2,hc2⟩:=(HRD.out.below HBL.out).2.2 (by simp)
    have hcy:wr.cell? ⟨b2,o2,none⟩=some (.string y):=hc2 0 y rfl
    clear hc2 hb2
    have HDL':Hid (ds'.length=m-1):=lh (by have:=HDL.out;simp at this;omega)
    have HML':Hid (m-1=countB stB (xs.drop (k+1))+1):=lh (by have:=HML.out;have:=HS.out.2.2;omega)
    cases hcm:comp y.data.toList with
    | false =>
     have HBAD:=lh (fill_nor HN.out (fill_bad1 (r:=true) (HS.out.2.1 hcm)))
     go_wp2_with (first
      | (go_at_call 97;refine (isStar_any x _).mono ?_;rintro e w' ⟨rfl,rfl⟩)
      | (go_at_call 93;refine (component_any y _ (by omega)).mono ?_;rintro e w' ⟨rfl,rfl⟩))
     go_ret2
     exact ⟨HBAD.out,P1.b HJ⟩
    | true =>
     have HN1:=lh (HS.out.1 hcm)
     rcases Nat.lt_or_ge 1 d' with hd1|hd1
     ·have HRD':Hid (RT w1 (some ⟨b2,o2+1,none⟩) (d'-1) ds'):=lh (by
       have:=HRD.out.drop 1 (by simp)
       simpa using this)
      go_wp2_with (first
       | (go_at_call 97;refine (isStar_any x _).mono ?_;rintro e w' ⟨rfl,rfl⟩)
       | (go_at_call 93;refine (component_any y _ (by omega)).mono ?_;rintro e w' ⟨rfl,rfl⟩))
      go_quiet (fail)
      go_wp2_with (at_builtin;refine wpList_append_texts rfl _ _ rfl w1.heap.size _ _ [y++tlB x] _ 1 rfl rfl (HO.out.below (below_al (below_drewN' _ _) _)) (RT.one _ _ _) (by have:=HDN.out;simp only [List.length_singleton];omega) (by simp;omega) ?_;intro v1 w3 hown hg _;have HBL2:=lh (((below_drewN HBL.out _).alloc (by simp;omega) _).grown hg (by simp;omega) HO.out.own);have HOW:=lh hown;clear hown hg)
      go_roundw
      case rel=>exact ⟨k+1,ds',done++[y++tlB x],m-1,some ⟨b2,o2+1,none⟩,d'-1,by omega,by go_num,rfl,by omega,by omega,HDL',HML',HRD',HOW,HN1,HBL2⟩
      case measure=>simp [intOf];omega
     ·obtain rfl:d'=1:=by omega
      obtain rfl:m=1:=by omega
      have HRD':Hid (RT w1 (some ⟨b2,o2,none⟩) 0 ds'):=lh (by
       have:ds'=[]:=List.eq_nil_of_length_eq_zero HDL'.out
       rw [this]
       exact RT.nil _ _ _ (by omega))
      go_wp2_with (first
       | (go_at_call 97;refine (isStar_any x _).mono ?_;rintro e w' ⟨rfl,rfl⟩)
       | (go_at_call 93;refine (component_any y _ (by omega)).mono ?_;rintro e w' ⟨rfl,rfl⟩))
      go_quiet (fail)
      go_wp2_with (at_builtin;refine wpList_append_texts rfl _ _ rfl w1.heap.size _ _ [y++tlB x] _ 1 rfl rfl (HO.out.below (below_al (below_drewN' _ _) _)) (RT.one _ _ _) (by have:=HDN.out;simp only [List.length_singleton];omega) (by simp;omega) ?_;intro v1 w3 hown hg _;have HBL2:=lh (((below_drewN HBL.out _).alloc (by simp;omega) _).grown hg (by simp;omega) HO.out.own);have HOW:=lh hown;clear hown hg)
      go_roundw
      case rel=>exact ⟨k+1,ds',done++[y++tlB x],0,some ⟨b2,o2,none⟩,0,by omega,by go_num,rfl,by omega,by omega,HDL',HML',HRD',HOW,HN1,HBL2⟩
      case measure=>simp [intOf];omega
  ·obtain ⟨e1,e2,e3,e4⟩:=HF.out.done (by omega)
   subst e1
   obtain rfl:m=1:=by have:=HML.out;omega
   obtain ⟨y,rfl⟩:∃ y,ds=[y]:=by
    have:=HDL.out
    match ds,this with
    | [y],_=>exact ⟨y,rfl⟩
   have hy:y=lastC stB xs cs:=e3
   subst hy
   have HG2:=lh (HG.out e2)
   have hyz:=HSC.out _ (HF.out.mem (List.mem_singleton.2 rfl))
   obtain ⟨b2,o2,rfl,hb2,hc2⟩:=(HRD.out.below HBL.out).2.2 (by simp)
   have hcy:=hc2 0 _ rfl
   have hsm:=HDL.out
   clear hc2 e2 e3 e4 HF hsm HG
   generalize joinT (flC stB tlB xs cs++[lastC stB xs cs])=jt at *
   generalize flC stB tlB xs cs=fl at *
   generalize lastC stB xs cs=y at *
   generalize hfy:fl++[y]=fy at *
   have HFY:=lh hfy
   clear hfy
   have HSP:=lh (fun W hW=>split_any y W (by omega) hW)
   have hsz3:∀ z∈spB y.data.toList,z.size≤5000:=fun z hz=>by
    unfold spB at hz
    obtain ⟨l,hl,rfl⟩:=List.mem_map.1 hz
    have:=sp_total _ l hl
    rw [mkB_size]
    rw [Lib.size_eq] at hyz
    omega
   have HSZ:=lh hsz3
   clear hsz3
   have hcyk:∀ W,Below wr.heap.size wr W→W.cell? ⟨b2,o2,none⟩=some (.string y):=fun W hW=>(hW.cell (p:=⟨b2,o2,none⟩) hb2).trans hcy
   have HCYK:=lh hcyk
   clear hcyk
   have hcy0:wr.cell? ⟨b2,o2,none⟩=some (.string y):=hcy
   clear hcy
   generalize spB y.data.toList=sy at *
   go_wp2_with (go_at_call 92;refine (HSP.out _ (P1.m HJ)).mono ?_;rintro e w3 ⟨SA,sc,rfl,hrs,hb3⟩;have HRS:=lh hrs;have hs1:=hrs.1;have hs2:=hrs.2.1;have HB3:=lh hb3;have hcy3:=HCYK.out _ hb3;clear hrs hb3)
   go_loop [79] (fun i=>∃ k:Nat,k≤sy.length∧i=.int .i64 k∧Hid ((sy.take k).all (fun x=>comp x.data.toList)=true)) (fun i=>sy.length-(intOf i).toNat)
   case atStart=>exact ⟨0,Nat.zero_le _,rfl,lh (by simp)⟩
   case round =>
    obtain ⟨k2,hk2,rfl,HA⟩:=hrel
    by_cases hlt2:k2<sy.length
    ·obtain ⟨z,hz⟩:∃ z,sy[k2]? = some z:=⟨_,gE hlt2⟩
     obtain ⟨b3,o3,rfl,hb3,hc3⟩:=HRS.out.2.2 (by omega)
     have hcz:=hc3 k2 z hz
     have hzz:=HSZ.out z (mG hz)
     have HST:=lh (all_step (p:=fun x=>comp x.data.toList) hz)
     have HMS:=lh (fun h=>all_miss (p:=fun x=>comp x.data.toList) hz h)
     clear hc3 hz hb3
     cases hcm:comp z.data.toList with
     | false =>
      have HBAD:=lh (HGB.out (HMS.out hcm))
      go_wp2_with (go_at_call 93;refine (component_any z _ (by omega)).mono ?_;rintro e w' ⟨rfl,rfl⟩)
      go_ret2
      exact ⟨HBAD.out,P1.b (HJ.go HB3.out)⟩
     | true =>
      go_wp2_with (go_at_call 93;refine (component_any z _ (by omega)).mono ?_;rintro e w' ⟨rfl,rfl⟩)
      go_round
      case rel=>exact ⟨k2+1,by omega,by go_num,lh (by rw [HST.out,HA.out,hcm];rfl)⟩
      case measure=>simp [intOf];omega
    ·have HGG:=lh (HG2.out (by have:=HA.out;rwa [List.take_of_length_le (by omega)] at this))
     have HO3:=lh (HO.out.below HB3.out)
     have HBL3:=lh (HBL.out.trans (HB3.out.mono HBL.out.size))
     have hsz3:=HBL3.out.size
     go_wp2_with (first
      | (at_builtin;refine wpList_append_texts rfl _ _ rfl w1.heap.size _ _ [y] _ 1 rfl rfl (HO3.out.below (ba _ _)) (RT.one _ _ _) (by have:=HFL.out;simp only [List.length_singleton];omega) (by simp;omega) ?_;intro v1 w4 hown hg _;have HBL4:=lh ((HBL3.out.alloc HBL3.out.size _).grown hg (by simp;omega) HO3.out.own);rw [HFY.out] at hown;obtain ⟨C,cc,rfl,hrt⟩:=hown.read;have HRT:=lh hrt;have hf1:=hrt.1;have hf2:=hrt.2.1;clear hown hg hrt)
      | (go_at_call 98;refine (HJN.out _ _ _ HRT.out).mono ?_;rintro e w5 ⟨rfl,hb5⟩))
     go_ret2
     exact ⟨HGG.out,P1.b ((HI.go HBL4.out).go hb5)⟩
theorem fill_any (A B:Option Addr) (c d:Nat) (xs cs:List ByteArray) (r:Bool) (w:World) (h:RT w A c xs) (k:RT w B d cs) (hm:ML w) (hsx:∀ x∈xs,x.size≤5000) (hsc:∀ x∈cs,x.size≤5000) :
 Calls Tryz.prog 100 #[.agg #[.slice A xs.length c,.bool r],.slice B cs.length d] w fun e w'=>e=.returned (.tuple #[.string (fillT xs r cs),.int .i64 (fillE xs r cs)])∧Below w.heap.size w w':=by
 by_cases hn:checkP xs r=0
 ·by_cases hw:cs.length=wildB stB xs r
  ·cases r with
   | false=>exact fill_plain A B c d xs cs w h k hm hsx hsc hn hw
   | true=>exact fill_rest A B c d xs cs w h k hm hsx hsc hn hw
  ·exact fill_len A B c d xs cs r w h hsx (by have:=k.1;have:=k.2.1;omega) hn hw
 ·exact fill_check A B c d xs cs r w h hsx hn
open Go.RowKit
open Pm
end Go.Proofs.YtelkmeiepliecaaGreatDoor
