/-
  Part 52 of the proof.
-/
import Derived.Test.YtelkmeiepliecaaGreatDoorV51
import Derived.Test.YtelkmeiepliecaaGreatDoorRows
import Derived.ShutString
import Derived.ChangeOld
import Derived.Lay
import Derived.LaidMore
import Derived.SevenTiedAt
import Derived.Deep.DeepHandedRow
import Derived.Deep.Slices
import Derived.Deep.Strs
import Derived.Lib.SmallJoins
set_option linter.unusedSimpArgs false
set_option linter.unusedVariables false
set_option maxHeartbeats 16000000
namespace Go.Proofs.YtelkmeiepliecaaGreatDoor
open Pm
open Go.RowKit Go.WideShapes
theorem SV.rg {w:World} {K:Nat→Prop} {A0:Option Addr} {c0:Nat} {gs:List Rg} (h:SV elR w K A0 c0 gs) {j:Nat} {g:Rg} (hx:gs[j]? = some g) :
 ∃ b o B d A c,A0=some ⟨b,o,none⟩∧b<w.heap.size∧w.cell? ⟨b,o+j * 3,none⟩=some (.slice B g.1.1.length d)∧w.cell? ⟨b,o+j * 3+1,none⟩=some (.bool g.1.2)∧w.cell? ⟨b,o+j * 3+2,none⟩=some (.slice A g.2.length c)∧RG w g B d A c:=by
 obtain ⟨b,o,r,ea,hlt,hc,B,d,A,c,rfl,k,_⟩:=h.at_ hx
 exact ⟨b,o,B,d,A,c,ea,hlt,hc 0 _ rfl,hc 1 _ rfl,hc 2 _ rfl,k⟩
theorem flt_snoc {gs:List Rg} {k:Nat} {g:Rg} (P:Rg→Bool) (h:gs[k]? = some g):((gs.take (k+1)).filter P).length=((gs.take k).filter P).length+(if P g=true then 1 else 0):=by
 rw [List.take_add_one,h,List.filter_append,List.length_append]
 congr 1
 cases hp:P g with
 | true=>simp [hp]
 | false=>simp [hp]
theorem takeQ {α:Type} {gs:List α} {k:Nat} {g:α} {Q:α→Prop} (h:gs[k]? = some g) (h1:∀ x∈gs.take k,Q x) (h2:Q g):∀ x∈gs.take (k+1),Q x:=fun x hx=>by
 rw [List.take_add_one,h] at hx
 rcases List.mem_append.1 hx with hx|hx
 ·exact h1 x hx
 ·have:x=g:=by simpa using hx
  rw [this];exact h2
set_option maxRecDepth 100000 in
theorem agT_good (A:Option Addr) (c0:Nat) (l:List St) (name c:ByteArray) (w:World) (h:STR w A c0 l) (hr:StRd l) (hm:ML w) (hc:c.size≤200) (hn:name.size≤9223372036854775807) (hs:SmOk l) {i p:Nat} {pn:ByteArray} (hf:findE l name=0) (hi:idxS l name=some i) (hpn:(namesS l (abvS l i))[0]? = some pn) (hnp:pn.size≤9223372036854775807) (hf2:findE l pn=0) (hi2:idxS l pn=some p) {ps qs:List Pc} (hv:vwF l l.length i=some ps) (hv2:vwF l l.length p=some qs) (ok1:okM (ps.map entF)) (ok2:okM (qs.map entF)) {a b2:List En} (i1:invE (ps.map entF)=0) (i2:invE (qs.map entF)=0) (ea:(invC (ps.map entF)).1=a) (eb:(invC (qs.map entF)).1=b2) (va:∀ x∈a,InvE x) (vb:∀ x∈b2,InvE x) (la:a.length≤32) (lb:b2.length≤32) (hz:agrE a b2=0) {gs:List Rg} (egs:(agrL a b2).1=gs) (hgr:∀ g∈gs,okRg g∧szR 2280 g) (hg32:gs.length≤32) {k1 k2:Int} {s1 s2:ByteArray} (e1:locP l i c=(k1,s1)) (e2:locP l p c=(k2,s2))
 (hlaw:(∀ g∈gs,rstE g a=0∧chkM (rstC g a).1=0)→(gs.filter fun g=>(forM (rstC g a).1 c).2).length≤1∧((gs.filter fun g=>(forM (rstC g a).1 c).2).length=1↔(k1=3∧k2=3∧s1=s2))) :
 Calls Tryz.prog 4 #[.slice A l.length c0,.string name,.string c] w fun e w'=>e=.returned (.bool true)∧Below w.heap.size w w':=by
 have HST:=lh h
 have HRD:=lh hr
 have HM:=lh hm
 have HBB:=lh (Below.refl w.heap.size w)
 have hi1:decide ((200:Int)<(c.size:Int))=false:=by simp;omega
 have hl20:l.length≤100:=by have:=hs.1;omega
 have HZ:=lh hs.sz
 have HAN:=lh (fun W (hW:Below w.heap.size w W)=>ancT_some (h.below hW) hl20 hs.sz (hm.below hW) hn hf hi hpn)
 have HV1:=lh (fun W (hW:Below w.heap.size w W)=>viewT_ok (h.below hW) hl20 hs.sz (hm.below hW) hn hf hi hv)
 have HV2:=lh (fun W (hW:Below w.heap.size w W)=>viewT_ok (h.below hW) hl20 hs.sz (hm.below hW) hnp hf2 hi2 hv2)
 have HF0:Hid (fineB [0,0]=true):=lh rfl
 have HI1:=lh (fun W B d (k:SV elE W kN B d (ps.map entF)) (hW:Below w.heap.size w W)=>(show Calls Tryz.prog 11 #[.slice B ps.length d] W (fun e w'=>∃ B d,e=.returned (.tuple #[.slice B a.length d,.int .i64 0])∧SV elE w' kN B d a∧Below W.heap.size W w') from (by have h9:=invT_ok k ok1 (hm.below hW) i1;rw [List.length_map,ea] at h9;exact h9)))
 have HI2:=lh (fun W B d (k:SV elE W kN B d (qs.map entF)) (hW:Below w.heap.size w W)=>(show Calls Tryz.prog 11 #[.slice B qs.length d] W (fun e w'=>∃ B d,e=.returned (.tuple #[.slice B b2.length d,.int .i64 0])∧SV elE w' kN B d b2∧Below W.heap.size W w') from (by have h9:=invT_ok k ok2 (hm.below hW) i2;rw [List.length_map,eb] at h9;exact h9)))
 have HFF:=lh (fineB_l (x:=1) (y:=0) (by decide))
 have HAG:=lh (fun W B d B' d' (k:SV elE W kN B d a) (k':SV elE W kN B' d' b2) (hW:Below w.heap.size w W)=>(agrT k k' va vb la lb (hm.below hW)).mono fun e w' h9=>(show ∃ A c,e=.returned (.tuple #[.slice A gs.length c,.int .i64 0])∧SV elR w' kN A c gs∧Below W.heap.size W w' from by have:=h9.2 hz;rw [egs] at this;exact this))
 have HRS:=lh (fun g (hg:g∈gs) W B d B0 d0 H0 h0 (k:SV elE W kN B d a) (k2:RG W g B0 d0 H0 h0) (hW:Below w.heap.size w W)=>restrict_any a g kN B B0 H0 d d0 h0 W k k2 (okM_inv va la) (hgr g hg).1 ⟨szN_up (hgr g hg).2.1 (by omega),fun x hx=>szN_up ((hgr g hg).2.2 x hx) (by omega)⟩ (hm.below hW))
 have HOK:=lh (fun g (hg:g∈gs) (hr:rstE g a=0)=>okM_rst va (hgr g hg).2 hr)
 have HSD:=lh (fun W M K B d (k:SV elE W K B d M) (ok:okM M) (hW:Below w.heap.size w W)=>sound_any M K B d W k ok (hm.below hW))
 have HFW:=lh (fun W M K B d (k:SV elE W K B d M) (ok:okM M) (hW:Below w.heap.size w W)=>mforward_any M c K B d W k ok (by omega) (hm.below hW))
 have HL1:=lh (fun W (hW:Below w.heap.size w W)=>(show Calls Tryz.prog 14 #[.slice A l.length c0,.string name,.string c] W (fun e w'=>e=.returned (.tuple #[.int .i64 k1,.string s1,.int .i64 0])∧Below W.heap.size W w') from by have h9:=locT (c:=c) (h.below hW) hl20 hs.sz (hm.below hW) hn (by omega) hf hi;rw [e1] at h9;exact h9))
 have HL2:=lh (fun W (hW:Below w.heap.size w W)=>(show Calls Tryz.prog 14 #[.slice A l.length c0,.string pn,.string c] W (fun e w'=>e=.returned (.tuple #[.int .i64 k2,.string s2,.int .i64 0])∧Below W.heap.size W w') from by have h9:=locT (c:=c) (h.below hW) hl20 hs.sz (hm.below hW) hnp (by omega) hf2 hi2;rw [e2] at h9;exact h9))
 have HLW:=lh hlaw
 clear h hr hm hs hf hi hpn hf2 hi2 hv hv2 ok1 ok2 i1 i2 ea eb va vb hz egs hgr hlaw e1 e2
 go_enter Tryz.func4,Tryz.ntmps4
 go_wp2_with (first
  | (go_at_call 5;refine (awake08_any _ (HM.out.below HBB.out)).mono ?_;rintro e w1 ⟨rfl,hb1⟩;replace HBB:=lh (go3 HBB.out hb1);clear hb1)
  | (go_at_call 6;refine (smallS_any A c0 l _ (HST.out.below HBB.out) HRD.out).mono ?_;rintro e w2 ⟨b,rfl,-,hb2⟩;replace HBB:=lh (go3 HBB.out hb2);clear hb2;cases b)
  | (go_at_call 7;refine (HAN.out _ HBB.out).mono ?_;rintro e w3 ⟨b,o,n,d,h0,hnd,hd9,rfl,hu,hb3⟩;replace HBB:=lh (go3 HBB.out hb3);have HU:At (fun W=>W.cell? ⟨b,o,none⟩=some (.string pn)∧b<W.heap.size) w3:=⟨fun X Y h hb=>⟨(hb.cell (p:=⟨b,o,none⟩) h.2).trans h.1,Nat.lt_of_lt_of_le h.2 hb.size⟩,hu⟩;have hn0:((n:Int)==0)=false:=(by simp;omega);clear hb3 hu)
  | (go_at_call_of 8 (Value.string name);refine (HV1.out _ HBB.out).mono ?_;rintro e w4 ⟨B4,d4,rfl,hs4,hb4⟩;replace HBB:=lh (go3 HBB.out hb4);replace HU:=HU.go2 bB hb4;obtain ⟨x0,xl⟩:=HU.out;have HS4:At (fun W=>SV elE W kN B4 d4 (ps.map entF)) w4:=⟨fun X Y h hb=>h.below hb,hs4⟩;clear hb4 hs4)
  | (go_at_call_of 8 (Value.string pn);refine (HV2.out _ HBB.out).mono ?_;rintro e w5 ⟨B5,d5,rfl,hs5,hb5⟩;replace HBB:=lh (go3 HBB.out hb5);replace HU:=HU.go2 bB hb5;replace HS4:=HS4.go2 bB hb5;have HS5:At (fun W=>SV elE W kN B5 d5 (qs.map entF)) w5:=⟨fun X Y h hb=>h.below hb,hs5⟩;clear hb5 hs5 x0 xl)
  | (go_at_call 10;refine (fineT _ _ _ _ (BX.new _ [_,_] _ rfl)).mono ?_;rintro e w6 ⟨rfl,hb6⟩;(first|rw [HF0.out]|rw [HFF.out]);replace HBB:=lh (go3 (go3 HBB.out (ba _ _)) hb6);replace HU:=HU.go2 bB hb6;(try replace HS4:=HS4.go2 bB hb6);(try replace HS5:=HS5.go2 bB hb6);(try replace HS7:=HS7.go2 bB hb6);(try replace HS8:=HS8.go2 bB hb6);clear hb6)
  | (go_at_call_of 11 (Value.slice B4 ps.length d4);refine (HI1.out _ _ _ (HS4.go bB).out HBB.out).mono ?_;rintro e w7 ⟨B7,d7,rfl,hs7,hb7⟩;replace HBB:=lh (go3 HBB.out hb7);replace HU:=HU.go2 bB hb7;replace HS5:=HS5.go2 bB hb7;have HS7:At (fun W=>SV elE W kN B7 d7 a) w7:=⟨fun X Y h hb=>h.below hb,hs7⟩;clear hb7 hs7 HS4)
  | (go_at_call_of 11 (Value.slice B5 qs.length d5);refine (HI2.out _ _ _ (HS5.go bB).out HBB.out).mono ?_;rintro e w8 ⟨B8,d8,rfl,hs8,hb8⟩;replace HBB:=lh (go3 HBB.out hb8);replace HU:=HU.go2 bB hb8;replace HS7:=HS7.go2 bB hb8;have HS8:At (fun W=>SV elE W kN B8 d8 b2) w8:=⟨fun X Y h hb=>h.below hb,hs8⟩;clear hb8 hs8 HS5)
  | (go_at_call 16;refine (HAG.out _ _ _ _ _ (HS7.go bB).out (HS8.go bB).out HBB.out).mono ?_;rintro e w9 ⟨A9,c9,rfl,hs9,hb9⟩;replace HBB:=lh (go3 HBB.out hb9);replace HU:=HU.go2 bB hb9;replace HS7:=HS7.go2 bB hb9;have HS9:=lh hs9;clear hb9 hs9 HS8))
 all_goals try (go_ret;exact ⟨rfl,HBB.out⟩)
 have q1:=HS9.out.lenc
 have q2:=HS9.out.capc
 go_loopw [15,94] (fun s15 s94 wr=>∃ k m:Nat,k≤gs.length∧m≤k∧s15=.int .i64 (m:Int)∧s94=.int .i64 k∧Hid (m=((gs.take k).filter fun g=>(forM (rstC g a).1 c).2).length)∧Hid (∀ g∈gs.take k,rstE g a=0∧chkM (rstC g a).1=0)∧Hid (Below w9.heap.size w9 wr)) (fun _ s94 _=>gs.length-(intOf s94).toNat)
 case atStart=>exact ⟨0,0,Nat.zero_le _,Nat.le_refl _,rfl,rfl,lh rfl,lh (fun g hg=>by cases hg),lh (Below.refl _ _)⟩
 case round =>
  obtain ⟨k,m,hk,hmk,rfl,rfl,HN,HAL,HB⟩:=hrel
  by_cases hlt:k<gs.length
  ·obtain ⟨g,hg⟩:∃ g,gs[k]? = some g:=⟨_,gE hlt⟩
   obtain ⟨b9,o9,B,d3,H,h3,rfl,hb9,y0,y1,y2,hrg⟩:=(HS9.out.below HB.out).rg hg
   have hgm:=mG hg
   have HR1:=lh (fun W (hW:Below wr.heap.size wr W)=>HRS.out g hgm W B7 d7 B d3 H h3 ((HS7.go HB.out).go hW).out (hrg.below hW) (go3 HBB.out (go3 HB.out hW)))
   have HFS:=lh (flt_snoc (fun g=>(forM (rstC g a).1 c).2) hg)
   have HTA:=lh (fun h1 h2=>takeQ (Q:=fun g=>rstE g a=0∧chkM (rstC g a).1=0) hg h1 h2)
   have HOG:=lh (HOK.out g hgm)
   obtain ⟨M,HMM⟩:∃ M,Hid ((rstC g a).1=M):=⟨_,lh rfl⟩
   rw [HMM.out] at HOG HFS HR1
   clear hg hgm hrg
   by_cases hre:rstE g a=0
   ·have HR2:=lh (fun W hW=>(HR1.out W hW).mono fun _ _ h=>h.1 hre)
    have HOM:=lh (HOG.out hre)
    by_cases hck:chkM M=0
    ·have HSD2:=lh (fun W K B d k hW=>(HSD.out W M K B d k HOM.out hW).mono fun e w' h9=>(show e=.returned (.bool true)∧Below W.heap.size W w' from by rw [hck] at h9;exact h9))
     have HQ2:Hid (∀ x∈gs.take (k+1),rstE x a=0∧chkM (rstC x a).1=0):=lh (HTA.out HAL.out ⟨hre,by rw [HMM.out];exact hck⟩)
     cases hfw:(forM M c).2 with
     | true =>
      have HFW2:=lh (fun W K B d k hW=>(HFW.out W M K B d k HOM.out hW).mono fun e w' h9=>(show ∃ t,e=.returned (.tuple #[.string t,.bool true])∧Below W.heap.size W w' from by rw [hfw] at h9;exact ⟨_,h9⟩))
      have HN2:Hid (m+1=((gs.take (k+1)).filter fun g=>(forM (rstC g a).1 c).2).length):=lh (by rw [HFS.out,← HN.out,hfw];rfl)
      clear hre hck hfw HR1 HSD HFW HRS HOK
      go_wp2_with (first
       | (go_at_call 17;refine (HR2.out _ bB).mono ?_;rintro e w10 ⟨A10,c10,rfl,hs10,-,hb10⟩;have HB10:=lh (go3 (show Below wr.heap.size wr _ from bB) hb10);have HS10:=lh hs10;clear hb10 hs10)
       | (go_at_call 13;refine (HSD2.out _ _ _ _ HS10.out (go3 HBB.out (go3 HB.out HB10.out))).mono ?_;rintro e w11 ⟨rfl,hb11⟩;have HB11:=lh (go3 HB10.out hb11);have HS11:=lh (HS10.out.below hb11);clear hb11)
       | (go_at_call 15;refine (HFW2.out _ _ _ _ HS11.out (go3 HBB.out (go3 HB.out HB11.out))).mono ?_;rintro e w12 ⟨t,rfl,hb12⟩;have HB12:=lh (go3 HB11.out hb12);clear hb12))
      go_roundw
      case rel=>exact ⟨k+1,m+1,by omega,by omega,by go_num,by go_num,HN2,HQ2,lh (go3 HB.out HB12.out)⟩
      case measure=>simp [intOf];omega
     | false =>
      have HFW2:=lh (fun W K B d k hW=>(HFW.out W M K B d k HOM.out hW).mono fun e w' h9=>(show ∃ t,e=.returned (.tuple #[.string t,.bool false])∧Below W.heap.size W w' from by rw [hfw] at h9;exact ⟨_,h9⟩))
      have HN2:Hid (m=((gs.take (k+1)).filter fun g=>(forM (rstC g a).1 c).2).length):=lh (by rw [HFS.out,← HN.out,hfw];rfl)
      clear hre hck hfw HR1 HSD HFW HRS HOK
      go_wp2_with (first
       | (go_at_call 17;refine (HR2.out _ bB).mono ?_;rintro e w10 ⟨A10,c10,rfl,hs10,-,hb10⟩;have HB10:=lh (go3 (show Below wr.heap.size wr _ from bB) hb10);have HS10:=lh hs10;clear hb10 hs10)
       | (go_at_call 13;refine (HSD2.out _ _ _ _ HS10.out (go3 HBB.out (go3 HB.out HB10.out))).mono ?_;rintro e w11 ⟨rfl,hb11⟩;have HB11:=lh (go3 HB10.out hb11);have HS11:=lh (HS10.out.below hb11);clear hb11)
       | (go_at_call 15;refine (HFW2.out _ _ _ _ HS11.out (go3 HBB.out (go3 HB.out HB11.out))).mono ?_;rintro e w12 ⟨t,rfl,hb12⟩;have HB12:=lh (go3 HB11.out hb12);clear hb12))
      go_roundw
      case rel=>exact ⟨k+1,m,by omega,by omega,rfl,by go_num,HN2,HQ2,lh (go3 HB.out HB12.out)⟩
      case measure=>simp [intOf];omega
    ·have HSD2:=lh (fun W K B d k hW=>(HSD.out W M K B d k HOM.out hW).mono fun e w' h9=>(show e=.returned (.bool false)∧Below W.heap.size W w' from by rw [show (chkM M==0)=false by simpa using hck] at h9;exact h9))
     clear hre hck HR1 HSD HFW HRS HOK
     go_wp2_with (first
      | (go_at_call 17;refine (HR2.out _ bB).mono ?_;rintro e w10 ⟨A10,c10,rfl,hs10,-,hb10⟩;have HB10:=lh (go3 (show Below wr.heap.size wr _ from bB) hb10);have HS10:=lh hs10;clear hb10 hs10)
      | (go_at_call 13;refine (HSD2.out _ _ _ _ HS10.out (go3 HBB.out (go3 HB.out HB10.out))).mono ?_;rintro e w11 ⟨rfl,hb11⟩;have HB11:=lh (go3 HB10.out hb11);clear hb11))
     go_ret
     exact ⟨rfl,go3 HBB.out (go3 HB.out HB11.out)⟩
   ·have HR2:=lh (fun W hW=>(HR1.out W hW).mono fun _ _ h=>h.2 hre)
    have hrb:(rstE g a != 0)=true:=by simpa using hre
    generalize rstE g a=er at *
    clear hre HR1
    go_wp2_with (go_at_call 17;refine (HR2.out _ bB).mono ?_;rintro e w10 ⟨rfl,hb10⟩;have HB10:=lh (go3 (show Below wr.heap.size wr _ from bB) hb10);clear hb10)
    go_ret
    exact ⟨rfl,go3 HBB.out (go3 HB.out HB10.out)⟩
  ·obtain rfl:k=gs.length:=by omega
   rw [List.take_length] at HN HAL
   obtain ⟨m1,m2⟩:=HLW.out HAL.out
   rw [←HN.out] at m1 m2
   have HBB2:=lh (go3 HBB.out HB.out)
   replace HU:=HU.go HB.out
   clear HRS HOK HSD HFW HLW HAG HI1 HI2 HV1 HV2 HAN
   rcases (show m=0∨m=1 by omega) with rfl|rfl
   ·have hno:¬ (k1=3∧k2=3∧s1=s2):=fun h=>absurd (m2.2 h) (by decide)
    clear m1 m2 HN
    by_cases h1:k1=3
    ·subst h1
     by_cases h2:k2=3
     ·subst h2
      have hsb:(s1.toList==s2.toList)=false:=by rw [text_eqB];simpa using fun e=>hno ⟨rfl,rfl,e⟩
      clear hno
      go_wp2_with (first
       | (go_at_call_of 14 (Value.string name);refine (HL1.out _ HBB2.out).mono ?_;rintro e wA ⟨rfl,hbA⟩;replace HBB2:=lh (go3 HBB2.out hbA);replace HU:=HU.go2 bB hbA;obtain ⟨x0,xl⟩:=HU.out;clear hbA)
       | (go_at_call_of 14 (Value.string pn);refine (HL2.out _ HBB2.out).mono ?_;rintro e wB ⟨rfl,hbB⟩;replace HBB2:=lh (go3 HBB2.out hbB);clear hbB)
       | (go_at_call 10;refine (fineT _ _ _ _ (BX.new _ [_,_] _ rfl)).mono ?_;rintro e wC ⟨rfl,hbC⟩;rw [HF0.out];replace HBB2:=lh (go3 (go3 HBB2.out (ba _ _)) hbC);clear hbC))
      go_ret
      exact ⟨rfl,HBB2.out⟩
     ·have hb2:(k2==3)=false:=by simpa using h2
      clear hno h2
      go_wp2_with (first
       | (go_at_call_of 14 (Value.string name);refine (HL1.out _ HBB2.out).mono ?_;rintro e wA ⟨rfl,hbA⟩;replace HBB2:=lh (go3 HBB2.out hbA);replace HU:=HU.go2 bB hbA;obtain ⟨x0,xl⟩:=HU.out;clear hbA)
       | (go_at_call_of 14 (Value.string pn);refine (HL2.out _ HBB2.out).mono ?_;rintro e wB ⟨rfl,hbB⟩;replace HBB2:=lh (go3 HBB2.out hbB);clear hbB)
       | (go_at_call 10;refine (fineT _ _ _ _ (BX.new _ [_,_] _ rfl)).mono ?_;rintro e wC ⟨rfl,hbC⟩;rw [HF0.out];replace HBB2:=lh (go3 (go3 HBB2.out (ba _ _)) hbC);clear hbC))
      go_ret
      exact ⟨rfl,HBB2.out⟩
    ·have hb1:(k1==3)=false:=by simpa using h1
     clear hno h1
     go_wp2_with (first
      | (go_at_call_of 14 (Value.string name);refine (HL1.out _ HBB2.out).mono ?_;rintro e wA ⟨rfl,hbA⟩;replace HBB2:=lh (go3 HBB2.out hbA);replace HU:=HU.go2 bB hbA;obtain ⟨x0,xl⟩:=HU.out;clear hbA)
      | (go_at_call_of 14 (Value.string pn);refine (HL2.out _ HBB2.out).mono ?_;rintro e wB ⟨rfl,hbB⟩;replace HBB2:=lh (go3 HBB2.out hbB);clear hbB)
      | (go_at_call 10;refine (fineT _ _ _ _ (BX.new _ [_,_] _ rfl)).mono ?_;rintro e wC ⟨rfl,hbC⟩;rw [HF0.out];replace HBB2:=lh (go3 (go3 HBB2.out (ba _ _)) hbC);clear hbC))
     go_ret
     exact ⟨rfl,HBB2.out⟩
   ·obtain ⟨rfl,rfl,rfl⟩:=m2.1 rfl
    clear m1 m2 HN
    go_wp2_with (first
     | (go_at_call_of 14 (Value.string name);refine (HL1.out _ HBB2.out).mono ?_;rintro e wA ⟨rfl,hbA⟩;replace HBB2:=lh (go3 HBB2.out hbA);replace HU:=HU.go2 bB hbA;obtain ⟨x0,xl⟩:=HU.out;clear hbA)
     | (go_at_call_of 14 (Value.string pn);refine (HL2.out _ HBB2.out).mono ?_;rintro e wB ⟨rfl,hbB⟩;replace HBB2:=lh (go3 HBB2.out hbB);clear hbB)
     | (go_at_call 10;refine (fineT _ _ _ _ (BX.new _ [_,_] _ rfl)).mono ?_;rintro e wC ⟨rfl,hbC⟩;rw [HF0.out];replace HBB2:=lh (go3 (go3 HBB2.out (ba _ _)) hbC);clear hbC))
    go_ret
    exact ⟨rfl,HBB2.out⟩
open Pm
open Go.RowKit Go.WideShapes
theorem topStreamAgrees_any (A:Option Addr) (c0:Nat) (l:List St) (name c:ByteArray) (w:World) (h:STR w A c0 l) (hr:StRd l) (hn:name.size≤maxLen) (hc:c.size≤maxLen) (hsh:w.ShapedOpen Tryz.prog) :
 Calls Tryz.prog 4 #[.slice A l.length c0,.string name,.string c] w fun e w'=>e=.returned (.bool true)∧Below w.heap.size w w':=by
 have hm:=ML.of hsh
 have hn':name.size≤9223372036854775807:=Nat.le_trans hn (by decide)
 have hc':c.size≤9223372036854775807:=Nat.le_trans hc (by decide)
 by_cases hs:SmOk l
 ·by_cases h2:200<c.size
  ·exact agT_long A c0 l name c w h hr hm hc' h2
  ·have h200:c.size≤200:=by omega
   by_cases hf:findE l name=0
   ·have hck:=findE_zero hf
    have hg:=good_of hck
    obtain ⟨i,hi⟩:∃ i,idxS l name=some i:=by
     cases hx:idxS l name with
     | some i=>exact ⟨i,rfl⟩
     | none =>
      unfold findE at hf
      rw [if_pos hck,hx] at hf
      cases hf
    have hil:=idxS_lt hi
    have hz40:Sz40 l:=fun s hs' p hp=>(hs.sz s hs').2.2 p hp
    cases ha:abvS l i with
    | nil=>exact agT_main A c0 l name c w h hr hm h200 hn' hs hf hi ha
    | cons p L =>
     obtain ⟨hp,sp,hsp,hpn⟩:=anc_first hg ha hil
     obtain ⟨hf2,hi2⟩:=find_of hg hck hsp
     have hnp:sp.1.size≤9223372036854775807:=by
      have:=(hs.sz sp (mG hsp)).1.1
      omega
     cases hv:vwF l l.length i with
     | none=>exact agT_own A c0 l name c w h hr hm h200 hn' hs hf hi hpn hnp hf2 hi2 hv
     | some ps =>
      cases hv2:vwF l l.length p with
      | none=>exact agT_par A c0 l name c w h hr hm h200 hn' hs hf hi hpn hnp hf2 hi2 hv hv2
      | some qs =>
       have l1:=pcsF_len (view_len hv)
       have l2:=pcsF_len (view_len hv2)
       have pe:=pcs_e hg hz40 (view_len hv)
       have qe:=pcs_e hg hz40 (view_len hv2)
       have ok1:=okM_view pe l1
       have ok2:=okM_view qe l2
       by_cases i1:invE (ps.map entF)=0
       ·by_cases i2:invE (qs.map entF)=0
        ·have va:=inv_all pe i1
         have vb:=inv_all qe i2
         by_cases hA:agrE (invC (ps.map entF)).1 (invC (qs.map entF)).1=0
         ·exact agT_good A c0 l name c w h hr hm h200 hn' hs hf hi hpn hnp hf2 hi2 hv hv2 ok1 ok2 i1 i2 rfl rfl va vb (invC_len _) (invC_len _) hA rfl (agr_reg va vb hA) (agC_len _ _ _) rfl rfl (fun hr=>agrees_law hg hz40 hp hil hv hv2 l1 l2 i1 i2 rfl rfl hA c hr)
         ·exact agT_agr A c0 l name c w h hr hm h200 hn' hs hf hi hpn hnp hf2 hi2 hv hv2 ok1 ok2 i1 i2 rfl rfl va vb (invC_len _) (invC_len _) hA
        ·exact agT_inv A c0 l name c w h hr hm h200 hn' hs hf hi hpn hnp hf2 hi2 hv hv2 ok1 ok2 (.inr i2)
       ·exact agT_inv A c0 l name c w h hr hm h200 hn' hs hf hi hpn hnp hf2 hi2 hv hv2 ok1 ok2 (.inl i1)
   ·exact agT_find A c0 l name c w h hr hm h200 hn' hs hf
 ·exact agT_large A c0 l name c w h hr hm hc' hs
open Go.ChangeShapes Go.WideShapes Go.ChangeAt Go.RowKit
theorem own:ownKnob Tryz.prog.godebug=none:=by kernel_rfl
theorem laidOut:laidOutB Tryz.prog=true:=by kernel_rfl
theorem witness_row_shaped {H:Type} {enc:TypeId×Value→H} {C:Checked} {os:Os} {f:FuncId} {fn:Func} {s:OpenSpec} {conds:List PathCond} {apart:Bool} {laid:List (String×DataW Unit)} (modest:Bool) (w0:World) (args:Array Value) (hos:w0.os=os)
 (hsh:(w0.forCall (fun _ _=>0) ⟨#[],args,[]⟩).Shaped C.prog)
 (hok:Input.okWideB C.prog (w0.forCall (fun _ _=>0) ⟨#[],args,[]⟩) f ⟨#[],args,[]⟩=true)
 (hrow:s.preRow enc C.prog fn conds apart laid (w0.forCall (fun _ _=>0) ⟨#[],args,[]⟩).memory args) :
 ∃ (w:World) (tape:Tape) (i:Input),w.os=os∧(w.forCall tape i).Shaped C.prog∧i.vars=[]∧Input.okWide C.prog (w.forCall tape i) .any w.heap.size f i ∧
  s.preRow enc C.prog fn conds apart laid (w.forCall tape i).memory i.args∧({ modest:=modest }:Assume).holds C.prog (lone (Frame.enter C.prog f i.args .normal) [] (w.forCall tape i)) :=
 ⟨w0,fun _ _=>0,⟨#[],args,[]⟩,hos,hsh,(Input.okWide_of_okWideB (base:=0) hok).1,(Input.okWide_of_okWideB hok).2,hrow,by
  simp only [Assume.holds]
  exact ⟨by simp,by simp,fun _=>Modest.zero,by simp,by simp⟩⟩
open Go.ChangeShapes Go.WideShapes Go.ChangeAt Go.RowKit
namespace bulks
theorem one_le {H:Type} (d:DataW H):1≤Rows.uptoBulk d:=by
 cases d with
 | lit l=>cases l<;>simp [Rows.uptoBulk]
 | nil=>simp [Rows.uptoBulk]
 | ptr d=>simp [Rows.uptoBulk]
 | slice elems spare=>simp [Rows.uptoBulk]
 | agg parts=>simp [Rows.uptoBulk]
 | iface t d=>simp [Rows.uptoBulk]
 | map entries=>simp [Rows.uptoBulk]
 | held h=>simp [Rows.uptoBulk]
theorem part_le {H:Type} {d:DataW H} {l:List (DataW H)} (h:d∈l):Rows.uptoBulk d≤Rows.uptoBulkAll l:=by
 induction l with
 | nil=>cases h
 | cons x r ih =>
  simp only [Rows.uptoBulkAll]
  cases List.mem_cons.1 h with
  | inl e=>subst e;omega
  | inr e=>have:=ih e;omega
theorem length_le {H:Type} (l:List (DataW H)):l.length≤Rows.uptoBulkAll l:=by
 induction l with
 | nil=>simp [Rows.uptoBulkAll]
 | cons x r ih=>have:=one_le x;simp only [Rows.uptoBulkAll,List.length_cons];omega
theorem slice_elems {H:Type} (elems spare:List (DataW H)):Rows.uptoBulkAll elems+1≤Rows.uptoBulk (.slice elems spare):=by
 simp only [Rows.uptoBulk]
 omega
theorem agg_part {H:Type} {d:DataW H} {l:List (DataW H)} (h:d∈l) {B:Nat} (hb:Rows.uptoBulk (.agg l)≤B):Rows.uptoBulk d≤B:=by
 have:=part_le h
 simp only [Rows.uptoBulk] at hb
 omega
theorem string_eq {H:Type} (bytes:List UInt8):Rows.uptoBulk (DataW.lit (H:=H) (.string bytes))=bytes.length+1:=by
 simp [Rows.uptoBulk]
end bulks
theorem listN_of {α:Type} (n:Nat) (Q:Nat→α→Prop) (h:∀ i,i<n→∃ x,Q i x):∃ xs:List α,xs.length=n∧∀ i x,xs[i]? = some x→Q i x:=list_ofR n Q h
theorem open_slice_bulk {α H:Type} {enc:TypeId×Value→H} {P:Program} {W:World} {base:Nat} {t e:TypeId} {u:Value} {fuel:Nat} {x:DataW H×List MemPlace} {size Bd:Nat} (rel:List Value→α→Prop) (Qw:α→Prop)
 (ht:P.underlying t=some (.slice e)) (ce:P.cellsOf e=size) (hsz:0<size)
 (hf:DataW.trod enc P W base (fun _=>true) true fuel t [u]=some x) (hlt:∀ y∈x.2,y.block<W.heap.size)
 (one:∀ (n:Nat) (cs:List Value) (y:DataW H×List MemPlace),DataW.trod enc P W base (fun _=>true) true n e cs=some y→cs.length=size→(∀ z∈y.2,z.block<W.heap.size) →
  ∃ a:α,rel cs a∧(Rows.uptoBulk y.1≤Bd→Qw a)) :
 ∃ (ms:List α) (A:Option Addr) (c:Nat),u=.slice A ms.length c∧ms.length≤c∧c≤9223372036854775807 ∧
  (0<ms.length→∃ b o,A=some ⟨b,o,none⟩∧b<W.heap.size∧∀ (j:Nat) (a:α),ms[j]? = some a→∃ cs,rel cs a∧∀ (i:Nat) (v:Value),cs[i]? = some v→W.cell? ⟨b,o+j * size+i,none⟩=some v) ∧
  (Rows.uptoBulk x.1≤Bd→ms.length≤Bd∧∀ a∈ms,Qw a):=by
 rcases Go.Deep.open_slice ht hf with ⟨hcs,_⟩|⟨a,l,c,m,n,D,Pl,hcs,hba,hl,hm,hmm,hx,hi⟩
 ·obtain rfl:u=.slice none 0 0:=by simpa using hcs
  exact ⟨[],none,0,rfl,Nat.le_refl _,by omega,fun h=>absurd h (Nat.lt_irrefl 0),fun _=>⟨by simp,fun a ha=>by cases ha⟩⟩
 ·obtain rfl:u=.slice (some a) l c:=by simpa using hcs
  have hlm:l≤m:=by rw [hmm];simp;omega
  obtain ⟨b,off,spot⟩:=a
  rw [ce] at hi
  have one':∀ i,i<l→∃ q:α,spot=none∧MemPlace.cell b (off+i * size)∈x.2∧(∃ cs,rel cs q∧∀ (j:Nat) (v:Value),cs[j]? = some v→W.cell? ⟨b,off+i * size+j,none⟩=some v)∧(Rows.uptoBulk (D i)≤Bd→Qw q):=by
   intro i hil
   have hspot:spot=none:=by
    obtain ⟨cs',hc,_⟩:=hi 0 (by omega)
    obtain ⟨_,hcl,hat⟩:=World.cells?_some hc
    simpa [Addr.add] using World.cell?_spot ((hat 0 (by omega)).trans (gE (by omega)))
   subst hspot
   obtain ⟨cs',hc,ht'⟩:=hi i (by omega)
   obtain ⟨_,hcl,hat⟩:=World.cells?_some hc
   have hin:∀ y∈Pl i,y∈x.2:=fun y hy=>by
    rw [hx]
    exact List.mem_append_right _ (List.mem_flatMap.2 ⟨i,List.mem_range.2 (by omega),hy⟩)
   obtain ⟨q,hq,hQ⟩:=one _ cs' (D i,Pl i) ht' (by rw [hcl]) (fun z hz=>hlt z (hin z hz))
   refine ⟨q,rfl,?_,⟨cs',hq,fun j v hj=>?_⟩,hQ⟩
   ·rw [hx,ce]
    refine List.mem_append_left _ (MemPlace.mem_row.2 ⟨i * size,?_,by simp [Addr.add]⟩)
    exact Nat.mul_lt_mul_of_pos_right (by omega) hsz
   ·have hjl:j<cs'.length:=(sI.1 hj).1
    have k0:=hat j (by omega)
    rw [add_plain,add_plain] at k0
    exact k0.trans hj
  obtain ⟨ms,hal,has⟩:=listN_of l _ one'
  refine ⟨ms,some ⟨b,off,spot⟩,c,by rw [hal],by omega,by simpa [maxLen] using hm,fun hn=>?_,fun hb=>?_⟩
  ·obtain ⟨q,hq⟩:∃ q,ms[0]? = some q:=⟨_,gE hn⟩
   obtain ⟨rfl,hin,_⟩:=has 0 q hq
   exact ⟨b,off,rfl,hlt _ hin,fun j a hj=>(has j a hj).2.2.1⟩
  ·rw [hx] at hb
   have h1:=Nat.le_trans (bulks.slice_elems ((List.range l).map D) _) hb
   refine ⟨?_,fun q hq=>?_⟩
   ·have:=bulks.length_le ((List.range l).map D)
    rw [List.length_map,List.length_range] at this
    omega
   ·obtain ⟨i,hq⟩:=List.getElem?_of_mem hq
    have hil:=(sI.1 hq).1
    refine (has i q hq).2.2.2 ?_
    have:=bulks.part_le (List.mem_map.2 ⟨i,List.mem_range.2 (by omega),rfl⟩:D i∈(List.range l).map D)
    omega
theorem fcInt:Tryz.prog.cellsOf 3=1:=by kernel_rfl
theorem fcStr:Tryz.prog.cellsOf 9=1:=by kernel_rfl
theorem fcBool:Tryz.prog.cellsOf 4=1:=by kernel_rfl
theorem fcSs:Tryz.prog.cellsOf 25=1:=by kernel_rfl
theorem fcPat:Tryz.prog.cellsOf 45=2:=by kernel_rfl
theorem fcSps:Tryz.prog.cellsOf 52=1:=by kernel_rfl
section
variable {H:Type} {enc:TypeId×Value→H} {W:World} {base:Nat}
def relP (W:World) (cs:List Value) (p:Pn):Prop:=∃ A c,cs=[.slice A p.1.length c,.bool p.2]∧RT W A c p.1
def bdP (p:Pn):Prop:=p.1.length≤1048576∧∀ x∈p.1,x.size≤1048576
set_option maxRecDepth 100000 in
theorem open_pat {m:Nat} {cs:List Value} {y:DataW H×List MemPlace} (h:DataW.trod enc Tryz.prog W base (fun _=>true) true m 45 cs=some y) (hl:cs.length=2) (hlt:∀ z∈y.2,z.block<W.heap.size) :
 ∃ p:Pn,relP W cs p∧(Rows.uptoBulk y.1≤1048576→bdP p):=by
 obtain ⟨xs,n,_,hx,_,hlen,hf⟩:=DataW.trod_struct Tryz.underlying45 h
 have hlen:xs.length=2:=hlen
 match xs,hlen,cs,hl with
 | [y0,y1],_,[u0,u1],_ =>
  have g0:=hf 0 _ rfl
  change DataW.trod enc Tryz.prog W base (fun _=>true) true n 25 (List.take (Tryz.prog.cellsOf 25) _)=_ at g0
  rw [fcSs] at g0
  have g0:DataW.trod enc Tryz.prog W base (fun _=>true) true n 25 [u0]=some y0:=g0
  have g1:=hf 1 _ rfl
  change DataW.trod enc Tryz.prog W base (fun _=>true) true n 4 (List.take (Tryz.prog.cellsOf 4) _)=_ at g1
  rw [fcBool] at g1
  have g1:DataW.trod enc Tryz.prog W base (fun _=>true) true n 4 [u1]=some y1:=g1
  obtain ⟨r,hs1,hy1⟩:=DataW.trod_bool Tryz.underlying4 g1
  obtain rfl:u1=.bool r:=by simpa using hs1
  obtain ⟨ms,A,c,rfl,e1,e2,e3,e4⟩:=open_slice_bulk (size:=1) (Bd:=1048576) (fun cs (x:ByteArray)=>cs=[.string x]) (fun x:ByteArray=>x.size≤1048576) Tryz.underlying25 (by kernel_rfl) (by decide) g0
   (fun z hz=>hlt z (by rw [hx];exact List.mem_flatMap.2 ⟨y0,by simp,hz⟩)) (fun k cs y hy hl _=>by
    match cs,hl with
    | [u],_ =>
     obtain ⟨s,hs,hy0,_⟩:=DataW.trod_string Tryz.underlying9 hy
     obtain rfl:u=.string s:=by simpa using hs
     refine ⟨s,rfl,fun hb=>?_⟩
     rw [hy0,bulks.string_eq,Array.length_toList] at hb
     have:s.data.size=s.size:=rfl
     omega)
  refine ⟨(ms,r),⟨A,c,rfl,e1,e2,fun h0=>?_⟩,fun hb=>?_⟩
  ·obtain ⟨b,o,e,hlt',hc⟩:=e3 h0
   refine ⟨b,o,e,hlt',fun j x hj=>?_⟩
   obtain ⟨cs,rfl,hcc⟩:=hc j x hj
   have:=hcc 0 _ rfl
   simpa using this
  ·rw [hx] at hb
   exact e4 (bulks.agg_part (by simp) hb)
def relL (W:World) (cs:List Value) (p:Ln):Prop:=elL.R W kN p cs
def bdL (p:Ln):Prop:=p.2.1.1.length≤1048576∧p.2.2.1.length≤1048576∧(∀ x∈p.2.1.1,x.size≤1048576)∧∀ x∈p.2.2.1,x.size≤1048576
set_option maxRecDepth 100000 in
theorem open_line {m:Nat} {cs:List Value} {y:DataW H×List MemPlace} (h:DataW.trod enc Tryz.prog W base (fun _=>true) true m 51 cs=some y) (hl:cs.length=5) (hlt:∀ z∈y.2,z.block<W.heap.size) :
 ∃ p:Ln,relL W cs p∧(Rows.uptoBulk y.1≤1048576→bdL p):=by
 obtain ⟨xs,n,_,hx,_,hlen,hf⟩:=DataW.trod_struct Tryz.underlying51 h
 have hlen:xs.length=3:=hlen
 match xs,hlen,cs,hl with
 | [y0,y1,y2],_,[u0,u1,u2,u3,u4],_ =>
  have g0:=hf 0 _ rfl
  change DataW.trod enc Tryz.prog W base (fun _=>true) true n 3 (List.take (Tryz.prog.cellsOf 3) _)=_ at g0
  rw [fcInt] at g0
  have g0:DataW.trod enc Tryz.prog W base (fun _=>true) true n 3 [u0]=some y0:=g0
  obtain ⟨a,hs0,hy0,_⟩:=DataW.trod_int Tryz.underlying3 g0
  obtain rfl:u0=.int .i64 a:=by simpa using hs0
  have g1:=hf 1 _ rfl
  change DataW.trod enc Tryz.prog W base (fun _=>true) true n 45 (List.take (Tryz.prog.cellsOf 45) _)=_ at g1
  rw [fcPat] at g1
  have g1:DataW.trod enc Tryz.prog W base (fun _=>true) true n 45 [u1,u2]=some y1:=g1
  have g2:=hf 2 _ rfl
  change DataW.trod enc Tryz.prog W base (fun _=>true) true n 45 (List.take (Tryz.prog.cellsOf 45) _)=_ at g2
  rw [fcPat] at g2
  have g2:DataW.trod enc Tryz.prog W base (fun _=>true) true n 45 [u3,u4]=some y2:=g2
  obtain ⟨p,⟨A,c,hp,rp⟩,bp⟩:=open_pat g1 rfl (fun z hz=>hlt z (by rw [hx];exact List.mem_flatMap.2 ⟨y1,by simp,hz⟩))
  obtain ⟨q,⟨B,d,hq,rq⟩,bq⟩:=open_pat g2 rfl (fun z hz=>hlt z (by rw [hx];exact List.mem_flatMap.2 ⟨y2,by simp,hz⟩))
  obtain ⟨rfl,rfl⟩:u1=.slice A p.1.length c∧u2=.bool p.2:=by simpa using hp
  obtain ⟨rfl,rfl⟩:u3=.slice B q.1.length d∧u4=.bool q.2:=by simpa using hq
  refine ⟨(a,p,q),⟨A,c,B,d,rfl,rp,rq⟩,fun hb=>?_⟩
  rw [hx] at hb
  have b1:=bp (bulks.agg_part (by simp) hb)
  have b2:=bq (bulks.agg_part (by simp) hb)
  exact ⟨b1.1,b2.1,b1.2,b2.2⟩
def relS (W:World) (cs:List Value) (s:St):Prop:=∃ P n,cs=[.string s.1,.string s.2.1,.slice P s.2.2.length n]∧SV elL W kN P n s.2.2
def bdS (s:St):Prop:=s.1.size≤1048576∧s.2.1.size≤1048576∧s.2.2.length≤1048576∧∀ p∈s.2.2,p.2.1.1.length≤1048576∧p.2.2.1.length≤1048576∧(∀ x∈p.2.1.1,x.size≤1048576)∧∀ x∈p.2.2.1,x.size≤1048576
set_option maxRecDepth 100000 in
theorem open_stream {m:Nat} {cs:List Value} {y:DataW H×List MemPlace} (h:DataW.trod enc Tryz.prog W base (fun _=>true) true m 54 cs=some y) (hl:cs.length=3) (hlt:∀ z∈y.2,z.block<W.heap.size) :
 ∃ s:St,relS W cs s∧(Rows.uptoBulk y.1≤1048576→bdS s):=by
 obtain ⟨xs,n,_,hx,_,hlen,hf⟩:=DataW.trod_struct Tryz.underlying54 h
 have hlen:xs.length=3:=hlen
 match xs,hlen,cs,hl with
 | [y0,y1,y2],_,[u0,u1,u2],_ =>
  have g0:=hf 0 _ rfl
  change DataW.trod enc Tryz.prog W base (fun _=>true) true n 9 (List.take (Tryz.prog.cellsOf 9) _)=_ at g0
  rw [fcStr] at g0
  have g0:DataW.trod enc Tryz.prog W base (fun _=>true) true n 9 [u0]=some y0:=g0
  obtain ⟨a,hs0,hy0,_⟩:=DataW.trod_string Tryz.underlying9 g0
  obtain rfl:u0=.string a:=by simpa using hs0
  have g1:=hf 1 _ rfl
  change DataW.trod enc Tryz.prog W base (fun _=>true) true n 9 (List.take (Tryz.prog.cellsOf 9) _)=_ at g1
  rw [fcStr] at g1
  have g1:DataW.trod enc Tryz.prog W base (fun _=>true) true n 9 [u1]=some y1:=g1
  obtain ⟨b,hs1,hy1,_⟩:=DataW.trod_string Tryz.underlying9 g1
  obtain rfl:u1=.string b:=by simpa using hs1
  have g2:=hf 2 _ rfl
  change DataW.trod enc Tryz.prog W base (fun _=>true) true n 52 (List.take (Tryz.prog.cellsOf 52) _)=_ at g2
  rw [fcSps] at g2
  have g2:DataW.trod enc Tryz.prog W base (fun _=>true) true n 52 [u2]=some y2:=g2
  obtain ⟨ps,P,c,rfl,e1,e2,e3,e4⟩:=open_slice_bulk (size:=5) (Bd:=1048576) (relL W) bdL Tryz.underlying52 (by kernel_rfl) (by decide) g2
   (fun z hz=>hlt z (by rw [hx];exact List.mem_flatMap.2 ⟨y2,by simp,hz⟩)) (fun k cs y hy hl hz=>open_line hy hl hz)
  refine ⟨(a,b,ps),⟨P,c,rfl,SV.of e1 e2 (fun h0=>?_) (fun _ _ _ h=>h)⟩,fun hb=>?_⟩
  ·obtain ⟨b',o,e,hlt',hc⟩:=e3 h0
   exact ⟨b',o,e,hlt',fun j x hj=>hc j x hj⟩
  ·rw [hx] at hb
   have b1:=bulks.agg_part (d:=y0.1) (by simp) hb
   have b2:=bulks.agg_part (d:=y1.1) (by simp) hb
   obtain ⟨b3,b4⟩:=e4 (bulks.agg_part (by simp) hb)
   rw [hy0,bulks.string_eq,Array.length_toList] at b1
   rw [hy1,bulks.string_eq,Array.length_toList] at b2
   have c1:a.data.size=a.size:=rfl
   have c2:b.data.size=b.size:=rfl
   exact ⟨by show a.size≤_;omega,by show b.size≤_;omega,b3,b4⟩
set_option maxRecDepth 100000 in
theorem open_streams {v:Value} {d:DataW H} {p:List MemPlace} {r:Reach} {b0:Nat} (hv:Value.okWide Tryz.prog W r b0 22 v)
 (h:DataW.Trod enc Tryz.prog W base (fun _=>true) true 22 v d p) (hlt:∀ x∈p,x.block<W.heap.size) :
 ∃ l:List St,∃ A c,v=.slice A l.length c∧STR W A c l∧(Rows.uptoBulk d≤1048576→StRd l):=by
 obtain ⟨a0,len,cap,rfl⟩:=okWide_slice Tryz.underlying22 hv
 obtain ⟨fuel,hf⟩:=h
 obtain ⟨l,A,c,hu,e1,e2,e3,e4⟩:=open_slice_bulk (u:=.slice a0 len cap) (size:=3) (Bd:=1048576) (relS W) bdS Tryz.underlying22 (by kernel_rfl) (by decide) hf hlt (fun k cs y hy hl hz=>open_stream hy hl hz)
 refine ⟨l,A,c,hu,⟨e1,e2,fun h0=>?_⟩,fun hb=>e4 hb⟩
 obtain ⟨b,o,e,hb,hc⟩:=e3 h0
 refine ⟨b,o,e,hb,fun j s hj=>?_⟩
 obtain ⟨cs,⟨P,n,rfl,hsv⟩,hcc⟩:=hc j s hj
 exact ⟨P,n,hcc 0 _ rfl,hcc 1 _ rfl,hcc 2 _ rfl,hsv⟩
end
end Go.Proofs.YtelkmeiepliecaaGreatDoor
