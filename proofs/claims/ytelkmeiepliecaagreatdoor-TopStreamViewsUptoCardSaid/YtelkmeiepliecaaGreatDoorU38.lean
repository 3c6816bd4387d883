/-
  Part 38 of the proof.
-/
import Derived.Test.YtelkmeiepliecaaGreatDoorU37
set_option linter.unusedSimpArgs false
set_option linter.unusedVariables false
set_option maxHeartbeats 16000000
namespace Go.Proofs.YtelkmeiepliecaaGreatDoor
open Pm
open Go.RowKit Go.WideShapes
def okF (l:List St):Nat→Nat→Prop
 | 0,_=>False
 | n+1,i=>match parS l i with
  | none=>True
  | some p=>okF l n p
theorem okF_of {l:List St}:∀ {n i:Nat},(abvF l n i).length<n→okF l n i
 | 0,i,h=>absurd h (Nat.not_lt_zero _)
 | n+1,i,h=>by
  unfold okF
  unfold abvF at h
  cases hp:parS l i with
  | none=>trivial
  | some p =>
   rw [hp] at h
   exact okF_of (by simpa using h)
theorem six_le {p:Pn} {c:ByteArray} (hv:p.1.getD 0 ⟨#[]⟩=viewN) (hm:mt p c=true):6≤c.size:=by
 obtain ⟨t,y,u,_,h2,h3,_⟩:=first_view hv hm
 rw [←h3,h2]
 obtain ⟨T,hT⟩:=join_cons2 viewN y u
 rw [Lib.size_eq,hT]
 have:viewN.data.toList.length=4:=by decide +kernel
 simp only [List.length_append,this,List.length_cons,List.length_nil]
 omega
def RetSe (w:World) (v:Int×ByteArray) (e:Ending) (w':World):Prop:=e=.returned (.tuple #[.int .i64 v.1,.string v.2])∧Below w.heap.size w w'
theorem RetSe.of {w w':World} {v:Int×ByteArray} {k:Int} {s:ByteArray} {e:Ending} (h:v=(k,s)) (he:e=.returned (.tuple #[.int .i64 k,.string s])) (hb:Below w.heap.size w w'):RetSe w v e w':=⟨by rw [h];exact he,hb⟩
theorem ownKind2 (k a:Int) (w:World):Calls Tryz.prog 68 #[.int .i64 k,.int .i64 a] w fun e w'=>e=.returned (.int .i64 (ownK k a))∧w=w':=(ownKind_any k a w).mono fun _ _ ⟨h,e⟩=>⟨h,e.symm⟩
set_option maxRecDepth 100000 in
theorem see_any (g m:Nat) (A:Option Addr) (c0:Nat) (l:List St) (c:ByteArray) (hl:l.length≤100) (hz:SzS l) (hln:∀ s∈l,∀ p∈s.2.2,lineOk p=true) (hc:c.size≤1000):∀ (n i:Nat) (w:World),FO w g m A c0 l→i<l.length→okF l n i→ML w →
 Calls Tryz.prog 34 #[.pointer (some ⟨g,0,none⟩),.int .i64 i,.string c] w (RetSe w (seeF l c n i))
 | 0,i,w,h,hi,ho,hm=>ho.elim
 | n+1,i,w,h,hi,ho,hm=>by
  have IH:=see_any g m A c0 l c hl hz hln hc n
  obtain ⟨s,hs⟩:∃ s,l[i]? = some s:=⟨_,gE hi⟩
  obtain ⟨b,o,P,np,rfl,hbw,x0,x1,x2,hsv⟩:=h.2.1.at_ hs
  obtain ⟨y0,y1⟩:=h.1.c2
  have hgw:=h.1.2.2
  have hsz:=hz s (mG hs)
  have q1:=h.2.1.1
  have q2:=h.2.1.2.1
  have q3:=hsv.lenc
  have q4:=hsv.capc
  have hp15:=hsz.2.1
  have hnz:=hsz.1.1
  have hnn:s.1.size≤1000:=by omega
  have HPR:=lh (fun W (hW:Below w.heap.size w W)=>parent_any g m _ c0 l i W (h.below hW) hi hl hz.nm)
  have HDC:=lh (fun W (hW:Below w.heap.size w W)=>deciding_any P np s.2.2 c W (hsv.below hW) (by omega) (fun p hp=>szN_up (hsz.2.2 p hp).1 (by omega)) (by omega) (hm.below hW))
  have HQ:At (fun W=>FO W g m (some ⟨b,o,none⟩) c0 l∧BX W w.heap.size [.string s.1,.string s.2.1,.slice P s.2.2.length np]∧ML W∧Below w.heap.size w W) (w.alloc (.cells #[.string s.1,.string s.2.1,.slice P s.2.2.length np] 54)) :=
   ⟨fun X Y h hb=>⟨h.1.below hb,h.2.1.below hb,h.2.2.1.below hb,go3 h.2.2.2 hb⟩,h.below (ba _ _),box3 _ _ _ _ _,hm.below (ba _ _),ba _ _⟩
  have HSEE:Hid (seeF l c (n+1) i=seeL s.1 c (match parS l i with|some p=>seeF l c n p|none=>(1,⟨#[]⟩)) (decS s.2.2 c)):=lh (by
   show (match l[i]? with|none=>_|some s=>_)=_
   rw [hs]
   rfl)
  have HLN:=lh (hln s (mG hs))
  have HPZ:=lh hsz.2.2
  obtain ⟨a0,a1,a2⟩:=HQ.out.2.1.c3
  obtain ⟨ab,HAB⟩:∃ ab:Int×ByteArray,Hid ((match parS l i with|some p=>seeF l c n p|none=>(1,⟨#[]⟩))=ab):=⟨_,lh rfl⟩
  rw [HAB.out] at HSEE
  cases hp:parS l i with
  | none =>
   rw [hp] at HPR HAB
   have hab:ab=(1,⟨#[]⟩):=HAB.out.symm
   subst hab
   clear hp HAB ho IH hz hsz hsv h hm hs hln
   cases hd:decS s.2.2 c with
   | none =>
    have HD2:=lh (fun W h=>(HDC.out W h).mono fun _ _ k=>k.2 hd)
    have HR:Hid (seeF l c (n+1) i=(0,⟨#[]⟩)):=lh (by rw [HSEE.out,hd];rfl)
    clear hd HDC HSEE
    go_enter Tryz.func34,Tryz.ntmps34
    go_wp2_with (first
     | (go_at_call 51;refine (HPR.out _ (HQ.go bB).out.2.2.2).mono ?_;rintro e w1 ⟨rfl,hb1⟩;replace HQ:=HQ.go2 bB hb1;clear hb1 a0 a1 a2;obtain ⟨a0,a1,a2⟩:=HQ.out.2.1.c3)
     | (go_at_call 34;refine (HIH.out _ (HQ.go bB).out.2.2.2).mono ?_;rintro e w2 ⟨rfl,hb2⟩;replace HQ:=HQ.go2 bB hb2;clear hb2 a0 a1 a2;obtain ⟨a0,a1,a2⟩:=HQ.out.2.1.c3)
     | (go_at_call 66;refine (HD2.out _ (HQ.go bB).out.2.2.2).mono ?_;rintro e w3 ⟨rfl,hb3⟩;replace HQ:=HQ.go2 bB hb3;skip;clear hb3 a0 a1 a2;obtain ⟨a0,a1,a2⟩:=HQ.out.2.1.c3))
    all_goals go_ret2
    all_goals exact RetSe.of HR.out rfl (HQ.go bB).out.2.2.2
   | some p =>
    have HD2:=lh (fun W h=>(HDC.out W h).mono fun _ _ k=>k.1 p hd)
    obtain ⟨kk,hkk,hki⟩:=dec_some hd
    have hlp:=HLN.out p (mG hkk)
    have HPP:=lh (lineOk.parts hlp)
    have hpz:=HPZ.out p (mG hkk)
    have h6c:6≤c.size:=six_le HPP.out.2.1 (by
     unfold inR ownR at hki
     exact (Bool.and_eq_true _ _▸hki).1)
    have HS2:Hid (seeF l c (n+1) i=if (1:Int)=0∨p.1=4 then (0,⟨#[]⟩) else if (1:Int)=3 then (3,⟨#[]⟩) else if p.1=3 then (3,fwdT p.2.1.1 p.2.1.2 p.2.2.1 p.2.2.2 c) else (ownK p.1 (1:Int),rootB++s.1++c.extract 6 c.size)):=lh (by rw [HSEE.out,hd];rfl)
    clear hd HDC HSEE hkk hki hlp
    obtain ⟨kd,PP,FF⟩:=p
    simp only at HS2 HD2 hpz HPP
    by_cases h4:kd=4
    ·have HR:Hid (seeF l c (n+1) i=(0,⟨#[]⟩)):=lh (HS2.out.trans (if_pos (.inr h4)))
     subst h4
     go_enter Tryz.func34,Tryz.ntmps34
     go_wp2_with (first
      | (go_at_call 51;refine (HPR.out _ (HQ.go bB).out.2.2.2).mono ?_;rintro e w1 ⟨rfl,hb1⟩;replace HQ:=HQ.go2 bB hb1;clear hb1 a0 a1 a2;obtain ⟨a0,a1,a2⟩:=HQ.out.2.1.c3)
      | (go_at_call 34;refine (HIH.out _ (HQ.go bB).out.2.2.2).mono ?_;rintro e w2 ⟨rfl,hb2⟩;replace HQ:=HQ.go2 bB hb2;clear hb2 a0 a1 a2;obtain ⟨a0,a1,a2⟩:=HQ.out.2.1.c3)
      | (go_at_call 66;refine (HD2.out _ (HQ.go bB).out.2.2.2).mono ?_;rintro e w3 ⟨B,d,A3,nn,rfl,hk1,hk2,hb3⟩;replace HQ:=HQ.go2 bB hb3;clear hk1 hk2;clear hb3 a0 a1 a2;obtain ⟨a0,a1,a2⟩:=HQ.out.2.1.c3))
     all_goals go_ret2
     all_goals exact RetSe.of HR.out rfl (HQ.go bB).out.2.2.2
    ·have b4:(kd==4)=false:=by simpa using h4
     by_cases h3:kd=3
     ·subst h3
      have HR:Hid (seeF l c (n+1) i=(3,fwdT PP.1 PP.2 FF.1 FF.2 c)):=lh (HS2.out.trans ((if_neg (fun h=>h.elim (fun h=>absurd h (by decide)) (fun h=>absurd h (by decide)))).trans ((if_neg (by decide)).trans (if_pos rfl))))
      have HFW:=lh (fun B d A3 nn W (h1:RT W B d PP.1) (h2:RT W A3 nn FF.1) (hm:ML W)=>forward_any false B A3 d nn PP.1 FF.1 PP.2 FF.2 c W h1 h2 hm (fun x hx=>Nat.le_trans (hpz.1 x hx) (by omega)) (fun x hx=>Nat.le_trans (hpz.2 x hx) (by omega)) (by omega))
      unfold ruV at HFW
      generalize fwdT PP.1 PP.2 FF.1 FF.2 c=T at *
      generalize fwdO PP.1 PP.2 FF.1 FF.2 c=T2 at *
      go_enter Tryz.func34,Tryz.ntmps34
      go_wp2_with (first
       | (go_at_call 51;refine (HPR.out _ (HQ.go bB).out.2.2.2).mono ?_;rintro e w1 ⟨rfl,hb1⟩;replace HQ:=HQ.go2 bB hb1;clear hb1 a0 a1 a2;obtain ⟨a0,a1,a2⟩:=HQ.out.2.1.c3)
       | (go_at_call 34;refine (HIH.out _ (HQ.go bB).out.2.2.2).mono ?_;rintro e w2 ⟨rfl,hb2⟩;replace HQ:=HQ.go2 bB hb2;clear hb2 a0 a1 a2;obtain ⟨a0,a1,a2⟩:=HQ.out.2.1.c3)
       | (go_at_call 66;refine (HD2.out _ (HQ.go bB).out.2.2.2).mono ?_;rintro e w3 ⟨B,d,A3,nn,rfl,hk1,hk2,hb3⟩;replace HQ:=HQ.go2 bB hb3;have HK:At (fun W=>RT W B d PP.1∧RT W A3 nn FF.1) w3:=⟨fun X Y h hb=>⟨h.1.below hb,h.2.below hb⟩,hk1,hk2⟩;have HX:At (fun W=>BX W w3.heap.size [.int .i64 3,.slice B PP.1.length d,.bool PP.2,.slice A3 FF.1.length nn,.bool FF.2]) (w3.alloc (.cells #[.int .i64 3,.slice B PP.1.length d,.bool PP.2,.slice A3 FF.1.length nn,.bool FF.2] 51)):=⟨fun X Y h hb=>h.below hb,BX.new w3 [_,_,_,_,_] _ rfl⟩;clear hk1 hk2 hb3 a0 a1 a2;obtain ⟨a0,a1,a2⟩:=HQ.out.2.1.c3)
       | (go_at_call 67;refine (imported_any _ _ _ _ _ _ _ _ _ _).mono ?_;rintro e w4 ⟨rfl,hb4⟩;replace HQ:=HQ.go2 bB hb4;replace HK:=HK.go2 bB hb4;replace HX:=HX.go2 bB hb4;clear hb4)
       | (go_at_call 37;refine (HFW.out _ _ _ _ _ (HK.go bB).out.1 (HK.go bB).out.2 (HQ.go bB).out.2.2.1).mono ?_;rintro e w5 ⟨rfl,hb5⟩;replace HQ:=HQ.go2 bB hb5;replace HX:=HX.go2 bB hb5;obtain ⟨e0,e1,e2,e3,e4⟩:=HX.out.c5;clear hb5))
      go_ret2
      exact RetSe.of HR.out rfl (HQ.go bB).out.2.2.2
     ·have b3:(kd==3)=false:=by simpa using h3
      have HR:Hid (seeF l c (n+1) i=(ownK kd (1:Int),rootB++s.1++c.extract 6 c.size)):=lh (HS2.out.trans ((if_neg (fun h=>h.elim (fun h=>absurd h (by decide)) h4)).trans ((if_neg (by decide)).trans (if_neg h3))))
      clear h3 h4 HS2
      have z0:(6:Int)≤(c.size:Int):=by omega
      have z1:¬ (9223372036854775807<2+s.1.size):=by omega
      have z2:¬ (9223372036854775807<2+s.1.size+(c.extract 6 c.size).size):=by simp only [ByteArray.size_extract];omega
      have z3:¬ (9223372036854775807<2+s.1.size+(c.size-6)):=by omega
      go_enter Tryz.func34,Tryz.ntmps34
      go_wp2_with (first
       | (go_at_call 51;refine (HPR.out _ (HQ.go bB).out.2.2.2).mono ?_;rintro e w1 ⟨rfl,hb1⟩;replace HQ:=HQ.go2 bB hb1;clear hb1 a0 a1 a2;obtain ⟨a0,a1,a2⟩:=HQ.out.2.1.c3)
       | (go_at_call 34;refine (HIH.out _ (HQ.go bB).out.2.2.2).mono ?_;rintro e w2 ⟨rfl,hb2⟩;replace HQ:=HQ.go2 bB hb2;clear hb2 a0 a1 a2;obtain ⟨a0,a1,a2⟩:=HQ.out.2.1.c3)
       | (go_at_call 66;refine (HD2.out _ (HQ.go bB).out.2.2.2).mono ?_;rintro e w3 ⟨B,d,A3,nn,rfl,hk1,hk2,hb3⟩;replace HQ:=HQ.go2 bB hb3;have HK:At (fun W=>RT W B d PP.1∧RT W A3 nn FF.1) w3:=⟨fun X Y h hb=>⟨h.1.below hb,h.2.below hb⟩,hk1,hk2⟩;have HX:At (fun W=>BX W w3.heap.size [.int .i64 kd,.slice B PP.1.length d,.bool PP.2,.slice A3 FF.1.length nn,.bool FF.2]) (w3.alloc (.cells #[.int .i64 kd,.slice B PP.1.length d,.bool PP.2,.slice A3 FF.1.length nn,.bool FF.2] 51)):=⟨fun X Y h hb=>h.below hb,BX.new w3 [_,_,_,_,_] _ rfl⟩;clear hk1 hk2 hb3 a0 a1 a2;obtain ⟨a0,a1,a2⟩:=HQ.out.2.1.c3)
       | (go_at_call 67;refine (imported_any _ _ _ _ _ _ _ _ _ _).mono ?_;rintro e w4 ⟨rfl,hb4⟩;replace HQ:=HQ.go2 bB hb4;replace HK:=HK.go2 bB hb4;replace HX:=HX.go2 bB hb4;clear hb4)
       | (go_at_call 37;refine (HFW.out _ _ _ _ _ (HK.go bB).out.1 (HK.go bB).out.2 (HQ.go bB).out.2.2.1).mono ?_;rintro e w5 ⟨rfl,hb5⟩;replace HQ:=HQ.go2 bB hb5;replace HX:=HX.go2 bB hb5;obtain ⟨e0,e1,e2,e3,e4⟩:=HX.out.c5;clear hb5))
      go_region_held3 (fun W=>W.cell? ⟨w3.heap.size,0,none⟩=some (.int .i64 kd)∧W.cell? ⟨w.heap.size,0,none⟩=some (.string s.1))
       (exact ⟨(HX.go bB).out.c5.1,(HQ.go bB).out.2.1.c3.1⟩)
       ((go_at_call 68;refine (ownKind2 _ _ _).mono ?_;rintro e w4 ⟨rfl,rfl⟩))
      all_goals go_wp2
      all_goals go_ret2
      all_goals exact RetSe.of HR.out rfl (HQ.go bB).out.2.2.2
  | some pp =>
   rw [hp] at HPR HAB
   obtain ⟨ak,as_⟩:=ab
   have hpl:=parS_lt hp
   have ho':okF l n pp:=by
    unfold okF at ho
    rw [hp] at ho
    exact ho
   have HIH:=lh (fun W (hW:Below w.heap.size w W)=>(IH pp W (h.below hW) hpl ho' (hm.below hW)).mono fun e w' k=>(⟨k.1.trans (by rw [show seeF l c n pp=(ak,as_) from HAB.out]),k.2⟩:e=.returned (.tuple #[.int .i64 ak,.string as_])∧Below W.heap.size W w'))
   clear hp HAB ho ho' IH hz hsz hsv h hm hs hln
   cases hd:decS s.2.2 c with
   | none =>
    have HD2:=lh (fun W h=>(HDC.out W h).mono fun _ _ k=>k.2 hd)
    have HR:Hid (seeF l c (n+1) i=(0,⟨#[]⟩)):=lh (by rw [HSEE.out,hd];rfl)
    clear hd HDC HSEE
    go_enter Tryz.func34,Tryz.ntmps34
    go_wp2_with (first
     | (go_at_call 51;refine (HPR.out _ (HQ.go bB).out.2.2.2).mono ?_;rintro e w1 ⟨rfl,hb1⟩;replace HQ:=HQ.go2 bB hb1;clear hb1 a0 a1 a2;obtain ⟨a0,a1,a2⟩:=HQ.out.2.1.c3)
     | (go_at_call 34;refine (HIH.out _ (HQ.go bB).out.2.2.2).mono ?_;rintro e w2 ⟨rfl,hb2⟩;replace HQ:=HQ.go2 bB hb2;clear hb2 a0 a1 a2;obtain ⟨a0,a1,a2⟩:=HQ.out.2.1.c3)
     | (go_at_call 66;refine (HD2.out _ (HQ.go bB).out.2.2.2).mono ?_;rintro e w3 ⟨rfl,hb3⟩;replace HQ:=HQ.go2 bB hb3;skip;clear hb3 a0 a1 a2;obtain ⟨a0,a1,a2⟩:=HQ.out.2.1.c3))
    all_goals go_ret2
    all_goals exact RetSe.of HR.out rfl (HQ.go bB).out.2.2.2
   | some p =>
    have HD2:=lh (fun W h=>(HDC.out W h).mono fun _ _ k=>k.1 p hd)
    obtain ⟨kk,hkk,hki⟩:=dec_some hd
    have hlp:=HLN.out p (mG hkk)
    have HPP:=lh (lineOk.parts hlp)
    have hpz:=HPZ.out p (mG hkk)
    have h6c:6≤c.size:=six_le HPP.out.2.1 (by
     unfold inR ownR at hki
     exact (Bool.and_eq_true _ _▸hki).1)
    have HS2:Hid (seeF l c (n+1) i=if ak=0∨p.1=4 then (0,⟨#[]⟩) else if ak=3 then (3,as_) else if p.1=3 then (3,fwdT p.2.1.1 p.2.1.2 p.2.2.1 p.2.2.2 c) else (ownK p.1 ak,rootB++s.1++c.extract 6 c.size)):=lh (by rw [HSEE.out,hd];rfl)
    clear hd HDC HSEE hkk hki hlp
    obtain ⟨kd,PP,FF⟩:=p
    simp only at HS2 HD2 hpz HPP
    by_cases hz0:ak=0
    ·have HR:Hid (seeF l c (n+1) i=(0,⟨#[]⟩)):=lh (HS2.out.trans (if_pos (.inl hz0)))
     subst hz0
     clear HS2
     go_enter Tryz.func34,Tryz.ntmps34
     go_wp2_with (first
      | (go_at_call 51;refine (HPR.out _ (HQ.go bB).out.2.2.2).mono ?_;rintro e w1 ⟨rfl,hb1⟩;replace HQ:=HQ.go2 bB hb1;clear hb1 a0 a1 a2;obtain ⟨a0,a1,a2⟩:=HQ.out.2.1.c3)
      | (go_at_call 34;refine (HIH.out _ (HQ.go bB).out.2.2.2).mono ?_;rintro e w2 ⟨rfl,hb2⟩;replace HQ:=HQ.go2 bB hb2;clear hb2 a0 a1 a2;obtain ⟨a0,a1,a2⟩:=HQ.out.2.1.c3)
      | (go_at_call 66;refine (HD2.out _ (HQ.go bB).out.2.2.2).mono ?_;rintro e w3 ⟨B,d,A3,nn,rfl,hk1,hk2,hb3⟩;replace HQ:=HQ.go2 bB hb3;clear hk1 hk2;clear hb3 a0 a1 a2;obtain ⟨a0,a1,a2⟩:=HQ.out.2.1.c3))
     all_goals go_ret2
     all_goals exact RetSe.of HR.out rfl (HQ.go bB).out.2.2.2
    ·have b0:(ak==0)=false:=by simpa using hz0
     by_cases h4:kd=4
     ·have HR:Hid (seeF l c (n+1) i=(0,⟨#[]⟩)):=lh (HS2.out.trans (if_pos (.inr h4)))
      subst h4
      clear HS2
      go_enter Tryz.func34,Tryz.ntmps34
      go_wp2_with (first
       | (go_at_call 51;refine (HPR.out _ (HQ.go bB).out.2.2.2).mono ?_;rintro e w1 ⟨rfl,hb1⟩;replace HQ:=HQ.go2 bB hb1;clear hb1 a0 a1 a2;obtain ⟨a0,a1,a2⟩:=HQ.out.2.1.c3)
       | (go_at_call 34;refine (HIH.out _ (HQ.go bB).out.2.2.2).mono ?_;rintro e w2 ⟨rfl,hb2⟩;replace HQ:=HQ.go2 bB hb2;clear hb2 a0 a1 a2;obtain ⟨a0,a1,a2⟩:=HQ.out.2.1.c3)
       | (go_at_call 66;refine (HD2.out _ (HQ.go bB).out.2.2.2).mono ?_;rintro e w3 ⟨B,d,A3,nn,rfl,hk1,hk2,hb3⟩;replace HQ:=HQ.go2 bB hb3;clear hk1 hk2;clear hb3 a0 a1 a2;obtain ⟨a0,a1,a2⟩:=HQ.out.2.1.c3))
      all_goals go_ret2
      all_goals exact RetSe.of HR.out rfl (HQ.go bB).out.2.2.2
     ·have b4:(kd==4)=false:=by simpa using h4
      by_cases hz3:ak=3
      ·have HR:Hid (seeF l c (n+1) i=(3,as_)):=lh (HS2.out.trans ((if_neg (fun h=>h.elim hz0 h4)).trans (if_pos hz3)))
       subst hz3
       clear HS2
       go_enter Tryz.func34,Tryz.ntmps34
       go_wp2_with (first
        | (go_at_call 51;refine (HPR.out _ (HQ.go bB).out.2.2.2).mono ?_;rintro e w1 ⟨rfl,hb1⟩;replace HQ:=HQ.go2 bB hb1;clear hb1 a0 a1 a2;obtain ⟨a0,a1,a2⟩:=HQ.out.2.1.c3)
        | (go_at_call 34;refine (HIH.out _ (HQ.go bB).out.2.2.2).mono ?_;rintro e w2 ⟨rfl,hb2⟩;replace HQ:=HQ.go2 bB hb2;clear hb2 a0 a1 a2;obtain ⟨a0,a1,a2⟩:=HQ.out.2.1.c3)
        | (go_at_call 66;refine (HD2.out _ (HQ.go bB).out.2.2.2).mono ?_;rintro e w3 ⟨B,d,A3,nn,rfl,hk1,hk2,hb3⟩;replace HQ:=HQ.go2 bB hb3;clear hk1 hk2;clear hb3 a0 a1 a2;obtain ⟨a0,a1,a2⟩:=HQ.out.2.1.c3))
       all_goals go_ret2
       all_goals exact RetSe.of HR.out rfl (HQ.go bB).out.2.2.2
      ·have b33:(ak==3)=false:=by simpa using hz3
       by_cases h3:kd=3
       ·subst h3
        have HR:Hid (seeF l c (n+1) i=(3,fwdT PP.1 PP.2 FF.1 FF.2 c)):=lh (HS2.out.trans ((if_neg (fun h=>h.elim hz0 (fun h=>absurd h (by decide)))).trans ((if_neg hz3).trans (if_pos rfl))))
        have HFW:=lh (fun B d A3 nn W (h1:RT W B d PP.1) (h2:RT W A3 nn FF.1) (hm:ML W)=>forward_any false B A3 d nn PP.1 FF.1 PP.2 FF.2 c W h1 h2 hm (fun x hx=>Nat.le_trans (hpz.1 x hx) (by omega)) (fun x hx=>Nat.le_trans (hpz.2 x hx) (by omega)) (by omega))
        unfold ruV at HFW
        generalize fwdT PP.1 PP.2 FF.1 FF.2 c=T at *
        generalize fwdO PP.1 PP.2 FF.1 FF.2 c=T2 at *
        go_enter Tryz.func34,Tryz.ntmps34
        go_wp2_with (first
         | (go_at_call 51;refine (HPR.out _ (HQ.go bB).out.2.2.2).mono ?_;rintro e w1 ⟨rfl,hb1⟩;replace HQ:=HQ.go2 bB hb1;clear hb1 a0 a1 a2;obtain ⟨a0,a1,a2⟩:=HQ.out.2.1.c3)
         | (go_at_call 34;refine (HIH.out _ (HQ.go bB).out.2.2.2).mono ?_;rintro e w2 ⟨rfl,hb2⟩;replace HQ:=HQ.go2 bB hb2;clear hb2 a0 a1 a2;obtain ⟨a0,a1,a2⟩:=HQ.out.2.1.c3)
         | (go_at_call 66;refine (HD2.out _ (HQ.go bB).out.2.2.2).mono ?_;rintro e w3 ⟨B,d,A3,nn,rfl,hk1,hk2,hb3⟩;replace HQ:=HQ.go2 bB hb3;have HK:At (fun W=>RT W B d PP.1∧RT W A3 nn FF.1) w3:=⟨fun X Y h hb=>⟨h.1.below hb,h.2.below hb⟩,hk1,hk2⟩;have HX:At (fun W=>BX W w3.heap.size [.int .i64 3,.slice B PP.1.length d,.bool PP.2,.slice A3 FF.1.length nn,.bool FF.2]) (w3.alloc (.cells #[.int .i64 3,.slice B PP.1.length d,.bool PP.2,.slice A3 FF.1.length nn,.bool FF.2] 51)):=⟨fun X Y h hb=>h.below hb,BX.new w3 [_,_,_,_,_] _ rfl⟩;clear hk1 hk2 hb3 a0 a1 a2;obtain ⟨a0,a1,a2⟩:=HQ.out.2.1.c3)
         | (go_at_call 67;refine (imported_any _ _ _ _ _ _ _ _ _ _).mono ?_;rintro e w4 ⟨rfl,hb4⟩;replace HQ:=HQ.go2 bB hb4;replace HK:=HK.go2 bB hb4;replace HX:=HX.go2 bB hb4;clear hb4)
         | (go_at_call 37;refine (HFW.out _ _ _ _ _ (HK.go bB).out.1 (HK.go bB).out.2 (HQ.go bB).out.2.2.1).mono ?_;rintro e w5 ⟨rfl,hb5⟩;replace HQ:=HQ.go2 bB hb5;replace HX:=HX.go2 bB hb5;obtain ⟨e0,e1,e2,e3,e4⟩:=HX.out.c5;clear hb5))
        go_ret2
        exact RetSe.of HR.out rfl (HQ.go bB).out.2.2.2
       ·have b3:(kd==3)=false:=by simpa using h3
        have HR:Hid (seeF l c (n+1) i=(ownK kd ak,rootB++s.1++c.extract 6 c.size)):=lh (HS2.out.trans ((if_neg (fun h=>h.elim hz0 h4)).trans ((if_neg hz3).trans (if_neg h3))))
        clear h3 h4 HS2
        have z0:(6:Int)≤(c.size:Int):=by omega
        have z1:¬ (9223372036854775807<2+s.1.size):=by omega
        have z2:¬ (9223372036854775807<2+s.1.size+(c.extract 6 c.size).size):=by simp only [ByteArray.size_extract];omega
        have z3:¬ (9223372036854775807<2+s.1.size+(c.size-6)):=by omega
        go_enter Tryz.func34,Tryz.ntmps34
        go_wp2_with (first
         | (go_at_call 51;refine (HPR.out _ (HQ.go bB).out.2.2.2).mono ?_;rintro e w1 ⟨rfl,hb1⟩;replace HQ:=HQ.go2 bB hb1;clear hb1 a0 a1 a2;obtain ⟨a0,a1,a2⟩:=HQ.out.2.1.c3)
         | (go_at_call 34;refine (HIH.out _ (HQ.go bB).out.2.2.2).mono ?_;rintro e w2 ⟨rfl,hb2⟩;replace HQ:=HQ.go2 bB hb2;clear hb2 a0 a1 a2;obtain ⟨a0,a1,a2⟩:=HQ.out.2.1.c3)
         | (go_at_call 66;refine (HD2.out _ (HQ.go bB).out.2.2.2).mono ?_;rintro e w3 ⟨B,d,A3,nn,rfl,hk1,hk2,hb3⟩;replace HQ:=HQ.go2 bB hb3;have HK:At (fun W=>RT W B d PP.1∧RT W A3 nn FF.1) w3:=⟨fun X Y h hb=>⟨h.1.below hb,h.2.below hb⟩,hk1,hk2⟩;have HX:At (fun W=>BX W w3.heap.size [.int .i64 kd,.slice B PP.1.length d,.bool PP.2,.slice A3 FF.1.length nn,.bool FF.2]) (w3.alloc (.cells #[.int .i64 kd,.slice B PP.1.length d,.bool PP.2,.slice A3 FF.1.length nn,.bool FF.2] 51)):=⟨fun X Y h hb=>h.below hb,BX.new w3 [_,_,_,_,_] _ rfl⟩;clear hk1 hk2 hb3 a0 a1 a2;obtain ⟨a0,a1,a2⟩:=HQ.out.2.1.c3)
         | (go_at_call 67;refine (imported_any _ _ _ _ _ _ _ _ _ _).mono ?_;rintro e w4 ⟨rfl,hb4⟩;replace HQ:=HQ.go2 bB hb4;replace HK:=HK.go2 bB hb4;replace HX:=HX.go2 bB hb4;clear hb4)
         | (go_at_call 37;refine (HFW.out _ _ _ _ _ (HK.go bB).out.1 (HK.go bB).out.2 (HQ.go bB).out.2.2.1).mono ?_;rintro e w5 ⟨rfl,hb5⟩;replace HQ:=HQ.go2 bB hb5;replace HX:=HX.go2 bB hb5;obtain ⟨e0,e1,e2,e3,e4⟩:=HX.out.c5;clear hb5))
        go_region_held3 (fun W=>W.cell? ⟨w3.heap.size,0,none⟩=some (.int .i64 kd)∧W.cell? ⟨w.heap.size,0,none⟩=some (.string s.1))
         (exact ⟨(HX.go bB).out.c5.1,(HQ.go bB).out.2.1.c3.1⟩)
         ((go_at_call 68;refine (ownKind2 _ _ _).mono ?_;rintro e w4 ⟨rfl,rfl⟩))
        all_goals go_wp2
        all_goals go_ret2
        all_goals exact RetSe.of HR.out rfl (HQ.go bB).out.2.2.2
open Pm
open Go.RowKit Go.WideShapes
theorem len_lt:∀ (n:Nat) (L:List Nat),L.Nodup→(∀ x∈L,x<n)→L.length≤n
 | 0,[],_,_=>Nat.le_refl _
 | 0,x::_,_,h=>absurd (h x List.mem_cons_self) (Nat.not_lt_zero _)
 | n+1,L,hd,h=>by
  by_cases hm:n∈L
  ·have h1:=len_lt n (L.erase n) (hd.erase n) (fun x hx=>by
    have h2:=h x (List.mem_of_mem_erase hx)
    have:x≠n:=fun e=>by
     subst e
     exact (hd.mem_erase_iff.1 hx).1 rfl
    omega)
   have:=List.length_erase_of_mem hm
   have:0<L.length:=List.length_pos_of_mem hm
   omega
  ·exact Nat.le_succ_of_le (len_lt n L hd (fun x hx=>by
    have h2:=h x hx
    have:x≠n:=fun e=>hm (e▸hx)
    omega))
theorem abv_mono {l:List St}:∀ {k n i:Nat},k≤n→∀ x∈abvF l k i,x∈abvF l n i
 | 0,n,i,_,x,hx=>by unfold abvF at hx;cases hx
 | k+1,0,i,h,x,hx=>absurd h (Nat.not_succ_le_zero _)
 | k+1,n+1,i,h,x,hx=>by
  unfold abvF at hx ⊢
  cases hp:parS l i with
  | none=>rw [hp] at hx;exact hx
  | some p =>
   rw [hp] at hx
   show x∈p::abvF l n p
   rcases List.mem_cons.1 hx with rfl|hx
   ·exact List.mem_cons_self
   ·exact List.mem_cons_of_mem _ (abv_mono (Nat.le_of_succ_le_succ h) x hx)
theorem abv_nodup {l:List St} (hc:∀ i:Nat,i<l.length→i∉abvS l i):∀ (k i:Nat),k≤l.length→i<l.length→(i::abvF l k i).Nodup∧∀ x∈i::abvF l k i,x<l.length
 | 0,i,_,hi=>by
  unfold abvF
  exact ⟨by simp,fun x hx=>by rw [List.mem_singleton.1 hx];exact hi⟩
 | k+1,i,hk,hi=>by
  have hni:i∉abvF l (k+1) i:=fun h=>hc i hi (abv_mono hk _ h)
  unfold abvF at hni ⊢
  cases hp:parS l i with
  | none=>exact ⟨by simp,fun x hx=>by rw [List.mem_singleton.1 hx];exact hi⟩
  | some p =>
   rw [hp] at hni
   obtain ⟨h1,h2⟩:=abv_nodup hc k p (by omega) (parS_lt hp)
   exact ⟨List.nodup_cons.2 ⟨hni,h1⟩,fun x hx=>by
    rcases List.mem_cons.1 hx with rfl|hx
    ·exact hi
    ·exact h2 x hx⟩
theorem GoodS.okF {l:List St} (h:GoodS l) {i:Nat} (hi:i<l.length):okF l l.length i:=okF_of (by
 obtain ⟨h1,h2⟩:=abv_nodup h.cyc l.length i (Nat.le_refl _) hi
 have:=len_lt l.length _ h1 h2
 simp only [List.length_cons] at this
 omega)
def belowV (c:ByteArray):Bool:=pathOk c.data.toList&&underB (compsB rootV) (compsB c)
def locF (l:List St) (name c:ByteArray):Int×ByteArray×Int :=
 if findE l name=0 then (match idxS l name with
  | some i=>if belowV c=true then ((seeF l c l.length i).1,(seeF l c l.length i).2,0) else (0,⟨#[]⟩,0)
  | none=>(0,⟨#[]⟩,0)) else (0,⟨#[]⟩,findE l name)
def RetLc (w:World) (v:Int×ByteArray×Int) (e:Ending) (w':World):Prop:=e=.returned (.tuple #[.int .i64 v.1,.string v.2.1,.int .i64 v.2.2])∧Below w.heap.size w w'
theorem RetLc.of {w w':World} {v:Int×ByteArray×Int} {k n:Int} {s:ByteArray} {e:Ending} (h:v=(k,s,n)) (he:e=.returned (.tuple #[.int .i64 k,.string s,.int .i64 n])) (hb:Below w.heap.size w w'):RetLc w v e w':=⟨by rw [h];exact he,hb⟩
theorem findE_zero {l:List St} {name:ByteArray} (h:findE l name=0):chkS l=0:=by
 unfold findE at h
 by_cases h0:chkS l=0
 ·exact h0
 ·rw [if_neg h0] at h
  exact h
theorem under_root (c:ByteArray) (w:World) (hc:c.size≤1000) (hm:ML w):Calls Tryz.prog 33 #[.string rootV,.string c] w fun e w'=>∃ b n,e=.returned (.tuple #[.bool b,.int .i64 n])∧Below w.heap.size w w'∧(belowV c=true→b=true∧n=0)∧(belowV c=false→(n=20∨(n=0∧b=false))):=by
 have hd:dirOk rootV.data.toList=true:=by decide +kernel
 have hs:rootV.size≤1000000:=by decide +kernel
 cases hp:pathOk c.data.toList with
 | false =>
  refine (under_no rootV c w hs (by omega) hm (.inr hp)).mono ?_
  rintro e w' ⟨rfl,hb⟩
  exact ⟨false,20,rfl,hb,(fun h=>by unfold belowV at h;rw [hp] at h;cases h),fun _=>.inl rfl⟩
 | true =>
  refine (under_yes rootV c w hs (by omega) hm hd hp).mono ?_
  rintro e w' ⟨rfl,hb⟩
  refine ⟨_,0,rfl,hb,fun h=>⟨?_,rfl⟩,fun h=>.inr ⟨rfl,?_⟩⟩<;>(unfold belowV at h;rw [hp] at h;simpa using h)
set_option maxRecDepth 100000 in
theorem locate_any (A:Option Addr) (c0:Nat) (l:List St) (name c:ByteArray) (w:World) (h:STR w A c0 l) (hl:l.length≤100) (hz:SzS l) (hm:ML w) (hn:name.size≤9223372036854775807) (hc:c.size≤1000) :
 Calls Tryz.prog 14 #[.slice A l.length c0,.string name,.string c] w (RetLc w (locF l name c)):=by
 have HFD:=lh (find_any A c0 l name w h hl hz hm hn)
 have HUN:=lh (fun W (hW:Below w.heap.size w W)=>under_root c W hc (hm.below hW))
 unfold rootV at HUN
 by_cases hf:findE l name=0
 ·have hg:=good_of (findE_zero hf)
  have HFD2:=lh (HFD.out.mono fun _ _ k=>k.1 hf)
  cases hb:belowV c with
  | false =>
   have HUN2:=lh (fun W hW=>(HUN.out W hW).mono fun e w' k=>by obtain ⟨b,n,k1,k2,_,k3⟩:=k;exact (⟨b,n,k1,k2,k3 hb⟩:∃ (b:Bool) (n:Int),e=.returned (.tuple #[.bool b,.int .i64 n])∧Below W.heap.size W w'∧(n=20∨(n=0∧b=false))))
   have HE:Hid (locF l name c=(0,⟨#[]⟩,0)):=lh (by
    unfold locF
    rw [if_pos hf,hb]
    split<;>rfl)
   clear HFD HUN h hz hm hf hb hg
   go_enter Tryz.func14,Tryz.ntmps14
   go_wp2_with (first
    | (go_at_call 19;refine HFD2.out.mono ?_;rintro e w1 ⟨g,m,i,hi,rfl,hfo,hb1⟩;have HB1:=lh hb1;clear hb1 hfo hi)
    | (go_at_call 33;refine (HUN2.out _ HB1.out).mono ?_;rintro e w2 ⟨b,n,rfl,hb2,(rfl|⟨rfl,rfl⟩)⟩<;>(have HB2:=lh (go3 HB1.out hb2);clear hb2)))
   all_goals refine bodyPost_ret (v:=.tuple #[.int .i64 0,.string ⟨#[]⟩,.int .i64 0]) (by simp [results,Tryz.results14,go_sem]) rfl ?_
   all_goals exact RetLc.of HE.out rfl HB2.out
  | true =>
   have HUN2:=lh (fun W hW=>(HUN.out W hW).mono fun e w' k=>by obtain ⟨b,n,k1,k2,k3,_⟩:=k;obtain ⟨rfl,rfl⟩:=k3 hb;exact (⟨k1,k2⟩:e=.returned (.tuple #[.bool true,.int .i64 0])∧Below W.heap.size W w'))
   obtain ⟨i,hi⟩:∃ i,idxS l name=some i:=by
    cases hx:idxS l name with
    | some i=>exact ⟨i,rfl⟩
    | none =>
     unfold findE at hf
     rw [if_pos (findE_zero hf),hx] at hf
     cases hf
   have HE:Hid (locF l name c=((seeF l c l.length i).1,(seeF l c l.length i).2,0)):=lh (by
    unfold locF
    rw [if_pos hf,hi,hb]
    rfl)
   have HSE:=lh (fun g m W (hF:FO W g m A c0 l) (hM:ML W)=>see_any g m A c0 l c hl hz (fun s hs=>by
    obtain ⟨j,hj⟩:=List.mem_iff_getElem?.1 hs
    exact (hg.ln j s hj).2) hc l.length i W hF (idxS_lt hi) (hg.okF (idxS_lt hi)) hM)
   have HM:=lh hm
   have HI:=lh hi
   clear HFD HUN h hz hm hf hb hg hi
   go_enter Tryz.func14,Tryz.ntmps14
   go_wp2_with (first
    | (go_at_call 19;refine HFD2.out.mono ?_;rintro e w1 ⟨g,m,i2,hi2,rfl,hfo,hb1⟩;(obtain rfl:i2=i:=by rw [HI.out] at hi2;cases hi2;rfl);have HB1:=lh hb1;have HF1:=lh hfo;clear hb1 hfo hi2)
    | (go_at_call 33;refine (HUN2.out _ HB1.out).mono ?_;rintro e w2 ⟨rfl,hb2⟩;have HB2:=lh (go3 HB1.out hb2);have HF2:=lh (HF1.out.below hb2);clear hb2)
    | (go_at_call 34;refine (HSE.out _ _ _ HF2.out (HM.out.below HB2.out)).mono ?_;rintro e w3 ⟨rfl,hb3⟩;have HB3:=lh (go3 HB2.out hb3);clear hb3))
   all_goals refine bodyPost_ret (v:=.tuple #[.int .i64 (seeF l c l.length i2).1,.string (seeF l c l.length i2).2,.int .i64 0]) (by simp [results,Tryz.results14,go_sem]) rfl ?_
   all_goals exact RetLc.of HE.out rfl HB3.out
 ·have HFD2:=lh (HFD.out.mono fun _ _ k=>k.2 hf)
  have HE:Hid (locF l name c=(0,⟨#[]⟩,findE l name)):=lh (if_neg hf)
  have hfb:(findE l name != 0)=true:=by simpa using hf
  clear HFD HUN h hz hm hf
  generalize findE l name=E at *
  go_enter Tryz.func14,Tryz.ntmps14
  go_wp2_with (first
   | (go_at_call 19;refine HFD2.out.mono ?_;rintro e w1 ⟨p,rfl,hb1⟩;have HB1:=lh hb1;clear hb1))
  all_goals refine bodyPost_ret (v:=.tuple #[.int .i64 0,.string ⟨#[]⟩,.int .i64 E]) (by simp [results,Tryz.results14,go_sem]) rfl ?_
  all_goals exact RetLc.of HE.out rfl HB1.out
end Go.Proofs.YtelkmeiepliecaaGreatDoor
