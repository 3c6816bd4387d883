/-
  Part 25 of the proof.
-/
import Derived.Test.YtelkmeiepliecaaGreatDoorU24
import Derived.Deep.DeepCutAuto
set_option linter.unusedSimpArgs false
set_option linter.unusedVariables false
set_option maxHeartbeats 16000000
namespace Go.Proofs.YtelkmeiepliecaaGreatDoor
open Go.RowKit
abbrev Rg:=Pn×List Pn
def okRg (g:Rg):Prop:=okPn g.1∧(∀ h∈g.2,okPn h)∧g.2.length≤64
theorem regE_ok {b:Pn} {hs:List Pn} (h:okRg (b,hs)):regE b hs=0:=by
 unfold regE
 rw [if_pos (show checkP b.1 b.2=0 from h.1),if_pos (List.all_eq_true.2 fun q hq=>by
  have:checkP q.1 q.2=0:=h.2.1 q hq
  simpa using this),if_neg (by have:=h.2.2;simp only at this;omega)]
def szN (m:Nat) (p:Pn):Prop:=∀ x∈p.1,x.size≤m
theorem szP_of {p:Pn} {m:Nat} (h:okPn p) (hs:szN m p) (hm:m≤5000):szP p:=⟨fun x hx=>Nat.le_trans (hs x hx) hm,by have:=(okPn_len h).2;omega⟩
def szR (m:Nat) (g:Rg):Prop:=szN m g.1∧∀ h∈g.2,szN m h
def RG (w:World) (g:Rg) (B:Option Addr) (d:Nat) (A:Option Addr) (c:Nat):Prop:=RT w B d g.1.1∧BT w A c g.2
theorem RG.below {w w':World} {g:Rg} {B A:Option Addr} {d c:Nat} (h:RG w g B d A c) (hb:Below w.heap.size w w'):RG w' g B d A c:=⟨h.1.below hb,h.2.below hb⟩
def rgV (g:Rg) (B:Option Addr) (d:Nat) (A:Option Addr) (c:Nat):List Value:=[.slice B g.1.1.length d,.bool g.1.2,.slice A g.2.length c]
theorem rgV_ns (g:Rg) (B:Option Addr) (d:Nat) (A:Option Addr) (c:Nat):∀ u∈rgV g B d A c,nsV u:=ns3 ns_slice ns_bool ns_slice
set_option maxRecDepth 100000 in
theorem regBoth_any (g1 g2:Rg) (B1 A1 B2 A2:Option Addr) (d1 c1 d2 c2:Nat) (w:World) (h1:RG w g1 B1 d1 A1 c1) (h2:RG w g2 B2 d2 A2 c2) (o1:okRg g1) (o2:okRg g2) (z1:szR 5000 g1) (z2:szR 5000 g2) :
 Calls Tryz.prog 120 #[.agg #[.slice B1 g1.1.1.length d1,.bool g1.1.2,.slice A1 g1.2.length c1],.agg #[.slice B2 g2.1.1.length d2,.bool g2.1.2,.slice A2 g2.2.length c2]] w fun e w'=>e=.returned (.int .i64 0)∧Below w.heap.size w w':=by
 have HS:At (BN w [(w.heap.size,rgV g1 B1 d1 A1 c1),(w.heap.size+1,rgV g2 B2 d2 A2 c2)]) ((w.alloc (.cells #[.slice B1 g1.1.1.length d1,.bool g1.1.2,.slice A1 g1.2.length c1] 48)).alloc (.cells #[.slice B2 g2.1.1.length d2,.bool g2.1.2,.slice A2 g2.2.length c2] 48)) :=
  (((BN.nil w).push (rgV g1 B1 d1 A1 c1) 48 rfl (rgV_ns _ _ _ _ _)).push (rgV g2 B2 d2 A2 c2) 48 (g:=w.heap.size+1) (by simp) (rgV_ns _ _ _ _ _)).at_
 have HC1:=lh (fun W (h:Below w.heap.size w W)=>regCheck_any B1 A1 d1 c1 g1.1 g1.2 W (h1.1.below h) (h1.2.below h) (szP_of o1.1 z1.1 (Nat.le_refl _)) (fun q hq=>szP_of (o1.2.1 q hq) (z1.2 q hq) (Nat.le_refl _)))
 have HC2:=lh (fun W (h:Below w.heap.size w W)=>regCheck_any B2 A2 d2 c2 g2.1 g2.2 W (h2.1.below h) (h2.2.below h) (szP_of o2.1 z2.1 (Nat.le_refl _)) (fun q hq=>szP_of (o2.2.1 q hq) (z2.2 q hq) (Nat.le_refl _)))
 rw [regE_ok o1] at HC1
 rw [regE_ok o2] at HC2
 clear h1 h2 o1 o2 z1 z2
 obtain ⟨a0,a1,a2⟩:=(HS.out.get 0 rfl).c3
 obtain ⟨b0,b1,b2⟩:=(HS.out.get 1 rfl).c3
 go_enter Tryz.func120,Tryz.ntmps120
 go_upto_region 4 with (go_at_call 43;refine (HC1.out _ (HS.go bB).out.low).mono ?_;rintro e w1 ⟨rfl,hb1⟩;replace HS:=HS.go2 bB hb1;clear hb1 a0 a1 a2 b0 b1 b2;obtain ⟨b0,b1,b2⟩:=(HS.out.get 1 rfl).c3)
 go_wp2_with (go_at_call 43;refine (HC2.out _ (HS.go bB).out.low).mono ?_;rintro e w1 ⟨rfl,hb1⟩;replace HS:=HS.go2 bB hb1;clear hb1)
 go_ret
 exact ⟨rfl,HS.out.low⟩
def rmB (g1 g2:Rg):Rg:=(met g1.1 g2.1,redH (met g1.1 g2.1) (g1.2++g2.2))
def rmE (g1 g2:Rg):Bool:=metO g1.1 g2.1&&decide (64<(rmB g1 g2).2.length)
def rmO (g1 g2:Rg):Bool:=metO g1.1 g2.1&&(decide ((rmB g1 g2).2.length≤64)&&!voidF (rmB g1 g2).1 (rmB g1 g2).2)
def RetRM (w:World) (g1 g2:Rg) (e:Ending) (w':World):Prop :=
 (rmO g1 g2=true→∃ B d A c,e=.returned (.tuple #[.agg #[.slice B (rmB g1 g2).1.1.length d,.bool (rmB g1 g2).1.2,.slice A (rmB g1 g2).2.length c],.bool true,.int .i64 0])∧(RG w' (rmB g1 g2) B d A c∧∀ a,A=some a→w.heap.size≤a.block)∧Below w.heap.size w w') ∧
 (rmO g1 g2=false→e=.returned (.tuple #[.agg #[.slice none 0 0,.bool false,.slice none 0 0],.bool false,.int .i64 (if rmE g1 g2=true then 52 else 0)])∧Below w.heap.size w w')
set_option maxRecDepth 100000 in
theorem regMeet_any (g1 g2:Rg) (B1 A1 B2 A2:Option Addr) (d1 c1 d2 c2:Nat) (w:World) (h1:RG w g1 B1 d1 A1 c1) (h2:RG w g2 B2 d2 A2 c2) (o1:okRg g1) (o2:okRg g2) (z1:szR 5000 g1) (z2:szR 5000 g2) :
 Calls Tryz.prog 82 #[.agg #[.slice B1 g1.1.1.length d1,.bool g1.1.2,.slice A1 g1.2.length c1],.agg #[.slice B2 g2.1.1.length d2,.bool g2.1.2,.slice A2 g2.2.length c2]] w (RetRM w g1 g2):=by
 have HS:At (BN w [(w.heap.size,rgV g1 B1 d1 A1 c1),(w.heap.size+1,rgV g2 B2 d2 A2 c2),(w.heap.size+1+1,[.slice none 0 0,.bool false,.slice none 0 0])]) (((w.alloc (.cells #[.slice B1 g1.1.1.length d1,.bool g1.1.2,.slice A1 g1.2.length c1] 48)).alloc (.cells #[.slice B2 g2.1.1.length d2,.bool g2.1.2,.slice A2 g2.2.length c2] 48)).alloc (.cells #[.slice none 0 0,.bool false,.slice none 0 0] 48)) :=
  ((((BN.nil w).push (rgV g1 B1 d1 A1 c1) 48 rfl (rgV_ns _ _ _ _ _)).push (rgV g2 B2 d2 A2 c2) 48 (g:=w.heap.size+1) (by simp) (rgV_ns _ _ _ _ _)).push [.slice none 0 0,.bool false,.slice none 0 0] 48 (g:=w.heap.size+1+1) (by simp) (ns3 ns_slice ns_bool ns_slice)).at_
 have HCB:=lh (fun W (h:Below w.heap.size w W)=>regBoth_any g1 g2 B1 A1 B2 A2 d1 c1 d2 c2 W (h1.below h) (h2.below h) o1 o2 z1 z2)
 have HME:=lh (fun W (h:Below w.heap.size w W)=>meet_any B1 B2 d1 d2 g1.1.1 g2.1.1 g1.1.2 g2.1.2 W (h1.1.below h) (h2.1.below h) (five9 z1.1) (five9 z2.1))
 have HH1:=lh h1.2
 have HH2:=lh h2.2
 have HO1:=lh o1
 have HO2:=lh o2
 have HZ1:=lh z1
 have HZ2:=lh z2
 clear h1 h2 o1 o2 z1 z2
 obtain ⟨a0,a1,a2⟩:=(HS.out.get 0 rfl).c3
 obtain ⟨b0,b1,b2⟩:=(HS.out.get 1 rfl).c3
 cases hm:metO g1.1 g2.1 with
 | false =>
  have HM2:=lh (fun W h=>(HME.out W h).mono fun _ _ h=>h.2 (show meetOk g1.1.1 g2.1.1 g1.1.2 g2.1.2=false from hm))
  have HR:Hid (rmO g1 g2=false∧rmE g1 g2=false):=lh (by unfold rmO rmE;rw [hm];exact ⟨rfl,rfl⟩)
  clear hm HME
  go_enter Tryz.func82,Tryz.ntmps82
  go_wp2_with (first
   | (go_at_call 120;refine (HCB.out _ (HS.go bB).out.low).mono ?_;rintro e w1 ⟨rfl,hb1⟩;replace HS:=HS.go2 bB hb1;clear hb1 a0 a1 a2 b0 b1 b2;obtain ⟨a0,a1,a2⟩:=(HS.out.get 0 rfl).c3;obtain ⟨b0,b1,b2⟩:=(HS.out.get 1 rfl).c3)
   | (go_at_call 58;refine (HM2.out _ (HS.go bB).out.low).mono ?_;rintro e w2 ⟨C,n,rfl,-,hb2⟩;replace HS:=HS.go2 bB hb2;clear hb2 a0 a1 a2 b0 b1 b2;obtain ⟨r0,r1,r2⟩:=(HS.out.get 2 rfl).c3;have f0:=(HS.out.get 2 rfl).2.1 0;have f1:=(HS.out.get 2 rfl).2.1 1;have f2:=(HS.out.get 2 rfl).2.1 2;have hl2:=(HS.out.get 2 rfl).2.2))
  refine bodyPost_ret (v:=.tuple #[.agg #[.slice none 0 0,.bool false,.slice none 0 0],.bool false,.int .i64 0]) (by simp [results,Tryz.results82,go_sem,r0,r1,r2,f0,f1,f2,hl2]) rfl ⟨fun h=>absurd (HR.out.1.symm.trans h) (by decide),fun _=>⟨by rw [HR.out.2];rfl,?_⟩⟩
  exact below_al (below_set3 HS.out.low (by omega) _ _ _) _
 | true =>
  have HM2:=lh (fun W h=>(HME.out W h).mono fun _ _ h=>h.1 (show meetOk g1.1.1 g2.1.1 g1.1.2 g2.1.2=true from hm))
  have HMT:Hid (meetL g1.1.1 g2.1.1=(met g1.1 g2.1).1∧(g1.1.2&&g2.1.2)=(met g1.1 g2.1).2):=lh ⟨rfl,rfl⟩
  rw [HMT.out.1,HMT.out.2] at HM2
  have HMS:Hid (szP (met g1.1 g2.1)):=lh ⟨met_sz hm HZ1.out.1 HZ2.out.1,by have:=(okPn_len (met_ok hm)).2;omega⟩
  have hhl:g1.2.length+g2.2.length≤128:=by have:=HO1.out.2.2;have:=HO2.out.2.2;omega
  have HPS:Hid (∀ q∈g1.2++g2.2,szP q):=lh (fun q hq=>by
   rcases List.mem_append.1 hq with hq|hq
   ·exact szP_of (HO1.out.2.1 q hq) (HZ1.out.2 q hq) (Nat.le_refl _)
   ·exact szP_of (HO2.out.2.1 q hq) (HZ2.out.2 q hq) (Nat.le_refl _))
  have HRD:=lh (fun (B A:Option Addr) (d c:Nat) W h k=>reduce_any B A d c (met g1.1 g2.1) (g1.2++g2.2) W h k HMS.out HPS.out (by rw [List.length_append];omega))
  have HRE:Hid (rmB g1 g2=(met g1.1 g2.1,redH (met g1.1 g2.1) (g1.2++g2.2))∧rmE g1 g2=decide (64<(rmB g1 g2).2.length)∧rmO g1 g2=(decide ((rmB g1 g2).2.length≤64)&&!voidF (rmB g1 g2).1 (rmB g1 g2).2)):=lh (by unfold rmO rmE rmB;rw [hm];exact ⟨rfl,rfl,rfl⟩)
  have HRL:Hid ((rmB g1 g2).2.length≤128):=lh (by
   have:=redH_len (met g1.1 g2.1) (g1.2++g2.2)
   rw [List.length_append] at this
   exact Nat.le_trans this hhl)
  have HRZ:Hid (∀ q∈(rmB g1 g2).2,szP q):=lh (fun q hq=>by
   obtain ⟨x,hx,rfl⟩:=List.mem_map.1 (redH_mem hq)
   obtain ⟨hx,hm2⟩:=List.mem_filter.1 hx
   exact ⟨met_sz hm2 HMS.out.1 (HPS.out x hx).1,by have:=(okPn_len (met_ok hm2)).2;omega⟩)
  have HB1:Hid ((rmB g1 g2).1=met g1.1 g2.1∧redH (met g1.1 g2.1) (g1.2++g2.2)=(rmB g1 g2).2):=lh ⟨rfl,rfl⟩
  rw [HB1.out.2] at HRD
  clear hm HME HMT HPS
  go_enter Tryz.func82,Tryz.ntmps82
  go_upto_region 7 with (first
   | (go_at_call 120;refine (HCB.out _ (HS.go bB).out.low).mono ?_;rintro e w1 ⟨rfl,hb1⟩;replace HS:=HS.go2 bB hb1;clear hb1 a0 a1 a2 b0 b1 b2;obtain ⟨a0,a1,a2⟩:=(HS.out.get 0 rfl).c3;obtain ⟨b0,b1,b2⟩:=(HS.out.get 1 rfl).c3)
   | (go_at_call 58;refine (HM2.out _ (HS.go bB).out.low).mono ?_;rintro e w2 ⟨C,n,rfl,hrt,hb2⟩;replace HS:=HS.go2 bB hb2;have HRT:=lh hrt;clear hb2 hrt a0 a1 a2 b0 b1 b2))
  have HQ:At (fun w'=>BX w' w2.heap.size [.slice C (met g1.1 g2.1).1.length n,.bool (met g1.1 g2.1).2]∧RT w' C n (met g1.1 g2.1).1∧BN w [(w.heap.size,rgV g1 B1 d1 A1 c1),(w.heap.size+1,rgV g2 B2 d2 A2 c2),(w.heap.size+1+1,[.slice none 0 0,.bool false,.slice none 0 0])] w') (w2.alloc (.cells #[.slice C (met g1.1 g2.1).1.length n,.bool (met g1.1 g2.1).2] 45)) :=
   ⟨fun X Y h hb=>⟨h.1.below hb,h.2.1.below hb,BN.kept _ _ _ _ h.2.2 hb⟩,BX.new w2 _ _ rfl,HRT.out.below (ba _ _),(HS.go (ba _ _)).out⟩
  have hs2:w.heap.size+1+1<w2.heap.size:=(HS.out.get 2 rfl).2.2
  clear HS HRT
  go_cut [10] (fun s10 wx=>∃ (g10 d6 c6:Nat) (B6 A6:Option Addr),s10=.pointer (some ⟨g10,0,none⟩)∧Hid (BX wx g10 [.slice B6 (met g1.1 g2.1).1.length d6,.bool (met g1.1 g2.1).2,.slice A6 (rmB g1 g2).2.length c6])∧Hid (RG wx (rmB g1 g2) B6 d6 A6 c6)∧Hid (∀ a,A6=some a→w.heap.size+1+1<a.block)∧Hid (BN w [(w.heap.size,rgV g1 B1 d1 A1 c1),(w.heap.size+1,rgV g2 B2 d2 A2 c2),(w.heap.size+1+1,[.slice none 0 0,.bool false,.slice none 0 0])] wx))
  case first =>
   have HCC:=lh (fun g W (hbx:BX W g [.slice A1 g1.2.length c1,.slice A2 g2.2.length c2]) (hlow:Below w.heap.size w W)=>concat2_any g 2 A1 A2 c1 c2 g1.2 g2.2 W hbx (HH1.out.below hlow) (HH2.out.below hlow) (by omega) (by omega) (by omega))
   have HKS:Hid (∀ W,(BX W w2.heap.size [.slice C (met g1.1 g2.1).1.length n,.bool (met g1.1 g2.1).2]∧RT W C n (met g1.1 g2.1).1∧BN w [(w.heap.size,rgV g1 B1 d1 A1 c1),(w.heap.size+1,rgV g2 B2 d2 A2 c2),(w.heap.size+1+1,[.slice none 0 0,.bool false,.slice none 0 0])] W) →
    W.cell? ⟨w2.heap.size,0,none⟩=some (.slice C (met g1.1 g2.1).1.length n)∧W.cell? ⟨w2.heap.size,1,none⟩=some (.bool (met g1.1 g2.1).2)∧W.cell? ⟨w.heap.size,2,none⟩=some (.slice A1 g1.2.length c1)∧W.cell? ⟨w.heap.size+1,2,none⟩=some (.slice A2 g2.2.length c2)):=lh (fun W h=>⟨h.1.c2.1,h.1.c2.2,(h.2.2.get 0 rfl).1 2 _ rfl,(h.2.2.get 1 rfl).1 2 _ rfl⟩)
   have HK3:Hid (∀ W g a b c,(BX W w2.heap.size [.slice C (met g1.1 g2.1).1.length n,.bool (met g1.1 g2.1).2]∧RT W C n (met g1.1 g2.1).1∧BN w [(w.heap.size,rgV g1 B1 d1 A1 c1),(w.heap.size+1,rgV g2 B2 d2 A2 c2),(w.heap.size+1+1,[.slice none 0 0,.bool false,.slice none 0 0])] W)→g≠w2.heap.size→g≠w.heap.size→g≠w.heap.size+1 →
    (((W.setCell ⟨g,0,none⟩ a).setCell ⟨g,1,none⟩ b).setCell ⟨g,2,none⟩ c).cell? ⟨w2.heap.size,0,none⟩=some (.slice C (met g1.1 g2.1).1.length n)∧(((W.setCell ⟨g,0,none⟩ a).setCell ⟨g,1,none⟩ b).setCell ⟨g,2,none⟩ c).cell? ⟨w2.heap.size,1,none⟩=some (.bool (met g1.1 g2.1).2)∧(((W.setCell ⟨g,0,none⟩ a).setCell ⟨g,1,none⟩ b).setCell ⟨g,2,none⟩ c).cell? ⟨w.heap.size,2,none⟩=some (.slice A1 g1.2.length c1)∧(((W.setCell ⟨g,0,none⟩ a).setCell ⟨g,1,none⟩ b).setCell ⟨g,2,none⟩ c).cell? ⟨w.heap.size+1,2,none⟩=some (.slice A2 g2.2.length c2)):=lh (fun W g a b c h n1 n2 n3=>by
    obtain ⟨e1,e2,e3,e4⟩:=HKS.out W h
    rw [set3_other _ _ _ (Ne.symm n1),set3_other _ _ _ (Ne.symm n1),set3_other _ _ _ (Ne.symm n2),set3_other _ _ _ (Ne.symm n3)]
    exact ⟨e1,e2,e3,e4⟩)
   generalize g1.2++g2.2=L at *
   go_region_held3 (fun W=>W.cell? ⟨w2.heap.size,0,none⟩=some (.slice C (met g1.1 g2.1).1.length n)∧W.cell? ⟨w2.heap.size,1,none⟩=some (.bool (met g1.1 g2.1).2)∧W.cell? ⟨w.heap.size,2,none⟩=some (.slice A1 g1.2.length c1)∧W.cell? ⟨w.heap.size+1,2,none⟩=some (.slice A2 g2.2.length c2))
    (first|(with_reducible refine HK3.out _ _ _ _ _ HQ.out ?_ ?_ ?_<;>omega)|(with_reducible refine HKS.out _ (HQ.go ?_).out<;>(repeat (first|with_reducible exact Below.refl _ _|with_reducible apply Below.drew|with_reducible apply below_drewN|with_reducible apply below_al))<;>done)|go_keep)
    (first
     | (go_at_call 40;refine (HCC.out _ _ (by first|exact (BX.new _ [_,_] _ (by simp)).drew|exact ((BX.new _ [_,_] _ (by simp)).below (ba _ _)).drew) (HQ.go bB).out.2.2.low).mono ?_;rintro e w5 ⟨v5,rfl,hso,hb5⟩;replace HQ:=HQ.go2 bB hb5;obtain ⟨A5,c5,rfl,hsv,-,-⟩:=hso.read (fun _ _ h=>h);have HSV:=lh hsv;have hs5:w2.heap.size<w5.heap.size:=(HQ.out.1).2.2;have hs55:=hb5.size;simp at hs55;(first|(have hz5:=(BNX.new _ [.slice none 0 0,.bool false,.slice none 0 0] 48 (g:=w2.heap.size+1+1) (by simp) (ns3 ns_slice ns_bool ns_slice)).drew.below hb5)|(have hz5:=((BNX.new _ [.slice none 0 0,.bool false,.slice none 0 0] 48 (g:=w2.heap.size+1) (by simp) (ns3 ns_slice ns_bool ns_slice)).below (ba _ _)).drew.below hb5)|skip);clear hso hsv hb5)
     | (go_at_call 74;refine (HRD.out C A5 n c5 _ (HQ.go bB).out.2.1 ((HSV.out.below bB).bt)).mono ?_;rintro e w6 ⟨B6,d6,A6,c6,rfl,⟨h1,h2,-,h4⟩,hb6⟩;replace HQ:=HQ.go2 bB hb6;have H6:Hid (RG w6 (rmB g1 g2) B6 d6 A6 c6):=lh ⟨h1,h2⟩;have HF6:Hid (∀ a,A6=some a→w.heap.size+1+1<a.block):=lh (fun a e=>by have:=h4 a e;(try simp only [World.size_alloc] at this);omega);have HF7:=h4;(try simp only [World.size_alloc] at HF7);replace HF7:=lh HF7;(first|(have hz6:=hz5.below hb6;clear hz5)|(have hz6:=(BNX.new w5 [.slice none 0 0,.bool false,.slice none 0 0] 48 (g:=w5.heap.size) (by simp) (ns3 ns_slice ns_bool ns_slice)).below hb6)|skip);(try (obtain ⟨z0,z1,z2⟩:=hz6.1.c3;have zf0:=hz6.1.2.1 0;have zf1:=hz6.1.2.1 1;have zf2:=hz6.1.2.1 2;have zl:=hz6.1.2.2));clear h1 h2 h4 hb6))
   all_goals
    go_wp2_with fail
    go_meet
    first
    | exact ⟨_,d6,c6,B6,A6,rfl,lh (hz6.1.set3 _ _ _),lh ⟨H6.out.1.set3 hz6.2 ns_slice ns_bool _,H6.out.2.set3 (fun a ea=>by have:=HF7.out a ea;omega) hz6.2 ns_slice ns_bool _⟩,HF6,lh (HQ.out.2.2.grown (gb_set3 _ _ _) (fun j e=>by cases e;exact bb3 (by omega)))⟩
    | exact ⟨_,d6,c6,B6,A6,rfl,lh (BX.new w6 [_,_,_] _ rfl),lh (H6.out.below (ba _ _)),HF6,lh (HQ.go (ba _ _)).out.2.2⟩
  case rest =>
   obtain ⟨g10,d6,c6,B6,A6,rfl,HX,HRG,HFR,HBN⟩:=hcut
   obtain ⟨x0,x1,x2⟩:=HX.out.c3
   obtain ⟨r0,r1,r2⟩:=(HBN.out.get 2 rfl).c3
   have f0:=(HBN.out.get 2 rfl).2.1 0
   have f1:=(HBN.out.get 2 rfl).2.1 1
   have f2:=(HBN.out.get 2 rfl).2.1 2
   by_cases h64:64<(rmB g1 g2).2.length
   ·have i1:decide ((64:Int)<((rmB g1 g2).2.length:Int))=true:=by simp;omega
    have HR:Hid (rmO g1 g2=false∧rmE g1 g2=true):=lh (by rw [HRE.out.2.1,HRE.out.2.2];exact ⟨by rw [decide_eq_false (by omega)];rfl,decide_eq_true h64⟩)
    clear hs2 h64 hhl
    go_wp2_with fail
    refine bodyPost_ret (v:=.tuple #[.agg #[.slice none 0 0,.bool false,.slice none 0 0],.bool false,.int .i64 52]) (by simp [results,Tryz.results82,go_sem,r0,r1,r2,f0,f1,f2]) rfl ⟨fun h=>absurd (HR.out.1.symm.trans h) (by decide),fun _=>⟨by rw [HR.out.2];rfl,?_⟩⟩
    exact below_set3 HBN.out.low (by omega) _ _ _
   ·have i1:decide ((64:Int)<((rmB g1 g2).2.length:Int))=false:=by simp;omega
    have HV:=lh (fun W h k=>void_any B6 A6 d6 c6 (met g1.1 g2.1) (rmB g1 g2).2 W h k HMS.out HRZ.out)
    have HQ:At (fun w'=>BX w' g10 [.slice B6 (met g1.1 g2.1).1.length d6,.bool (met g1.1 g2.1).2,.slice A6 (rmB g1 g2).2.length c6]∧RG w' (rmB g1 g2) B6 d6 A6 c6∧BN w [(w.heap.size,rgV g1 B1 d1 A1 c1),(w.heap.size+1,rgV g2 B2 d2 A2 c2),(w.heap.size+1+1,[.slice none 0 0,.bool false,.slice none 0 0])] w') wc :=
     ⟨fun X Y h hb=>⟨h.1.below hb,h.2.1.below hb,BN.kept _ _ _ _ h.2.2 hb⟩,HX.out,HRG.out,HBN.out⟩
    have HRO:Hid (rmO g1 g2=!voidF (met g1.1 g2.1) (rmB g1 g2).2∧rmE g1 g2=false):=lh (by rw [HRE.out.2.1,HRE.out.2.2,HB1.out.1];exact ⟨by rw [decide_eq_true (by omega)];rfl,decide_eq_false h64⟩)
    clear HX HRG HBN r0 r1 r2 f0 f1 f2 h64 hhl
    cases hv:voidF (met g1.1 g2.1) (rmB g1 g2).2 with
    | true =>
     rw [hv] at HV HRO
     clear hv
     go_wp2_with (go_at_call 75;refine (HV.out _ (HQ.go bB).out.2.1.1 (HQ.go bB).out.2.1.2).mono ?_;rintro e w7 ⟨rfl,hb7⟩;replace HQ:=HQ.go2 bB hb7;clear hb7;obtain ⟨r0,r1,r2⟩:=(HQ.out.2.2.get 2 rfl).c3;have f0:=(HQ.out.2.2.get 2 rfl).2.1 0;have f1:=(HQ.out.2.2.get 2 rfl).2.1 1;have f2:=(HQ.out.2.2.get 2 rfl).2.1 2)
     refine bodyPost_ret (v:=.tuple #[.agg #[.slice none 0 0,.bool false,.slice none 0 0],.bool false,.int .i64 0]) (by simp [results,Tryz.results82,go_sem,r0,r1,r2,f0,f1,f2]) rfl ⟨fun h=>absurd (HRO.out.1.symm.trans h) (by decide),fun _=>⟨by rw [HRO.out.2];rfl,?_⟩⟩
     exact below_set3 HQ.out.2.2.low (by omega) _ _ _
    | false =>
     rw [hv] at HV HRO
     clear hv
     go_wp2_with (go_at_call 75;refine (HV.out _ (HQ.go bB).out.2.1.1 (HQ.go bB).out.2.1.2).mono ?_;rintro e w7 ⟨rfl,hb7⟩;replace HQ:=HQ.go2 bB hb7;clear hb7 x0 x1 x2;obtain ⟨x0,x1,x2⟩:=HQ.out.1.c3;obtain ⟨r0,r1,r2⟩:=(HQ.out.2.2.get 2 rfl).c3;have f0:=(HQ.out.2.2.get 2 rfl).2.1 0;have f1:=(HQ.out.2.2.get 2 rfl).2.1 1;have f2:=(HQ.out.2.2.get 2 rfl).2.1 2)
     refine bodyPost_ret (v:=.tuple #[.agg #[.slice B6 (met g1.1 g2.1).1.length d6,.bool (met g1.1 g2.1).2,.slice A6 (rmB g1 g2).2.length c6],.bool true,.int .i64 0]) (by simp [results,Tryz.results82,go_sem,r0,r1,r2,f0,f1,f2]) rfl ⟨fun _=>⟨B6,d6,A6,c6,rfl,⟨⟨HQ.out.2.1.1.set3 (HQ.out.2.2.ns 2 rfl) ns_slice ns_bool _,HQ.out.2.1.2.set3 (fun a ea=>by have:=HFR.out a ea;omega) (HQ.out.2.2.ns 2 rfl) ns_slice ns_bool _⟩,fun a ea=>by have:=HFR.out a ea;omega⟩,?_⟩,fun h=>absurd (HRO.out.1.symm.trans h) (by decide)⟩
     exact below_set3 HQ.out.2.2.low (by omega) _ _ _
open Go.RowKit
abbrev En:=Pn×Pn×List Pn
def enV (e:En) (A:Option Addr) (c:Nat) (B:Option Addr) (d:Nat) (H:Option Addr) (h:Nat):List Value :=
 [.slice A e.1.1.length c,.bool e.1.2,.slice B e.2.1.1.length d,.bool e.2.1.2,.slice H e.2.2.length h]
theorem enV_ns (e:En) (A:Option Addr) (c:Nat) (B:Option Addr) (d:Nat) (H:Option Addr) (h:Nat):∀ u∈enV e A c B d H h,nsV u:=ns5 ns_slice ns_bool ns_slice ns_bool ns_slice
def EG (w:World) (e:En) (A:Option Addr) (c:Nat) (B:Option Addr) (d:Nat) (H:Option Addr) (h:Nat):Prop:=RT w A c e.1.1∧RT w B d e.2.1.1∧BT w H h e.2.2
theorem EG.below {w w':World} {e:En} {A:Option Addr} {c:Nat} {B:Option Addr} {d:Nat} {H:Option Addr} {h:Nat} (k:EG w e A c B d H h) (hb:Below w.heap.size w w'):EG w' e A c B d H h:=⟨k.1.below hb,k.2.1.below hb,k.2.2.below hb⟩
def elE:El En where
 size:=5
 pos:=by decide
 R w K e r:=∃ A c B d H h,r=enV e A c B d H h∧EG w e A c B d H h∧(0<e.2.2.length→∀ a,H=some a→¬ K a.block)
 len k:=by obtain ⟨A,c,B,d,H,h,rfl,_⟩:=k;rfl
 one k u hu:=by
  obtain ⟨A,c,B,d,H,h,rfl,_⟩:=k
  simp only [enV,List.mem_cons,List.not_mem_nil,or_false] at hu
  rcases hu with rfl|rfl|rfl|rfl|rfl<;>rfl
 ns k:=by obtain ⟨A,c,B,d,H,h,rfl,_⟩:=k;exact enV_ns _ _ _ _ _ _ _
 below k hb:=by obtain ⟨A,c,B,d,H,h,e,k1,k2⟩:=k;exact ⟨A,c,B,d,H,h,e,k1.below hb,k2⟩
 ch k hc:=by obtain ⟨A,c,B,d,H,h,e,k1,k2⟩:=k;exact ⟨A,c,B,d,H,h,e,⟨k1.1.ch hc,k1.2.1.ch hc,k1.2.2.ch k2 hc⟩,k2⟩
 fresh k:=by
  obtain ⟨A,c,B,d,H,h,e,k1,k2⟩:=k
  refine ⟨A,c,B,d,H,h,e,k1,fun h0 a ea hb=>?_⟩
  rcases hb with hb|hb
  ·exact k2 h0 a ea hb
  ·have:=k1.2.2.lt h0 a ea
   omega
 mono k hk:=by obtain ⟨A,c,B,d,H,h,e,k1,k2⟩:=k;exact ⟨A,c,B,d,H,h,e,k1,fun h0 a ea hb=>k2 h0 a ea (hk _ hb)⟩
theorem elET:ElT Tryz.prog 29 73 5:=⟨Tryz.underlying29,by
 have h:(Tryz.prog.info? 73).map (fun i=>(i.zero,i.size,i.bytes))=some (some (.agg #[.slice none 0 0,.bool false,.slice none 0 0,.bool false,.slice none 0 0]),5,88):=by kernel_rfl
 obtain ⟨i0,hi,hz,hs,hb⟩:=info_parts h
 refine ⟨i0,_,hi,hz,hs,by omega,rfl,fun u hu=>?_⟩
 simp only [Value.cells,List.mem_cons,List.not_mem_nil,or_false] at hu
 rcases hu with rfl|rfl|rfl|rfl|rfl<;>(intro x e;cases e)⟩
theorem line_any (A B H:Option Addr) (n c m d k h:Nat) (r t:Bool) (w:World) :
 Calls Tryz.prog 29 #[.agg #[.slice A n c,.bool r,.slice B m d,.bool t,.slice H k h]] w fun e w'=>e=.returned (.agg #[.bool false,.slice A n c,.bool r,.slice B m d,.bool t])∧Below w.heap.size w w':=by
 go_enter Tryz.func29,Tryz.ntmps29
 go_wp2_with fail
 refine bodyPost_ret (v:=.agg #[.bool false,.slice A n c,.bool r,.slice B m d,.bool t]) (by simp [results,Tryz.results29,go_sem,World.cell?_alloc_new]) rfl ⟨rfl,bB⟩
theorem left_any (A B H:Option Addr) (n c m d k h:Nat) (r t:Bool) (w:World) :
 Calls Tryz.prog 36 #[.agg #[.slice A n c,.bool r,.slice B m d,.bool t,.slice H k h]] w fun e w'=>e=.returned (.agg #[.slice A n c,.bool r,.slice H k h])∧Below w.heap.size w w':=by
 go_enter Tryz.func36,Tryz.ntmps36
 go_wp2_with fail
 refine bodyPost_ret (v:=.agg #[.slice A n c,.bool r,.slice H k h]) (by simp [results,Tryz.results36,go_sem,World.cell?_alloc_new]) rfl ⟨rfl,bB⟩
def rlOk (l r:Pn):Prop:=ruleE l.1 l.2 r.1 r.2=0
def okEn (e:En):Prop:=rlOk e.1 e.2.1∧okRg (e.1,e.2.2)
def szE (m:Nat) (e:En):Prop:=szN m e.1∧szN m e.2.1∧∀ h∈e.2.2,szN m h
set_option maxRecDepth 100000 in
theorem isEntry_any (e:En) (A B H:Option Addr) (c d h:Nat) (w:World) (k:EG w e A c B d H h) (ok:okEn e) (hz:szE 5000 e) (hm:ML w) :
 Calls Tryz.prog 61 #[.agg #[.slice A e.1.1.length c,.bool e.1.2,.slice B e.2.1.1.length d,.bool e.2.1.2,.slice H e.2.2.length h]] w fun x w'=>x=.returned (.bool true)∧Below w.heap.size w w':=by
 have HCK:=lh (fun W (hb:Below w.heap.size w W)=>ruleCheck_any false A B c d e.1.1 e.2.1.1 e.1.2 e.2.1.2 W (k.1.below hb) (k.2.1.below hb) (hm.below hb) hz.1 hz.2.1)
 rw [show ruleE e.1.1 e.1.2 e.2.1.1 e.2.1.2=0 from ok.1] at HCK
 have HRC:=lh (fun W (hb:Below w.heap.size w W)=>regCheck_any A H c h e.1 e.2.2 W (k.1.below hb) (k.2.2.below hb) (szP_of ok.2.1 hz.1 (Nat.le_refl _)) (fun q hq=>szP_of (ok.2.2.1 q hq) (hz.2.2 q hq) (Nat.le_refl _)))
 rw [regE_ok ok.2] at HRC
 have HLI:=lh (fun W=>line_any A B H e.1.1.length c e.2.1.1.length d e.2.2.length h e.1.2 e.2.1.2 W)
 have HLE:=lh (fun W=>left_any A B H e.1.1.length c e.2.1.1.length d e.2.2.length h e.1.2 e.2.1.2 W)
 unfold ruV at HCK
 have HS:At (BN w [(w.heap.size,enV e A c B d H h)]) (w.alloc (.cells #[.slice A e.1.1.length c,.bool e.1.2,.slice B e.2.1.1.length d,.bool e.2.1.2,.slice H e.2.2.length h] 73)) :=
  ((BN.nil w).push (enV e A c B d H h) 73 rfl (enV_ns _ _ _ _ _ _ _)).at_
 clear k ok hz hm
 obtain ⟨a0,a1,a2,a3,a4⟩:=(HS.out.get 0 rfl).c5
 go_enter Tryz.func61,Tryz.ntmps61
 go_wp2_with (first
  | (go_at_call 29;refine (HLI.out _).mono ?_;rintro x w1 ⟨rfl,hb⟩;replace HS:=HS.go2 bB hb;clear hb)
  | (go_at_call 36;refine (HLE.out _).mono ?_;rintro x w1 ⟨rfl,hb⟩;replace HS:=HS.go2 bB hb;clear hb)
  | (go_at_call 60;refine (HCK.out _ (HS.go bB).out.low).mono ?_;rintro x w1 ⟨rfl,hb⟩;replace HS:=HS.go2 bB hb;clear hb a0 a1 a2 a3 a4;obtain ⟨a0,a1,a2,a3,a4⟩:=(HS.out.get 0 rfl).c5)
  | (go_at_call 43;refine (HRC.out _ (HS.go bB).out.low).mono ?_;rintro x w1 ⟨rfl,hb⟩;replace HS:=HS.go2 bB hb;clear hb))
 go_ret
 exact ⟨rfl,HS.out.low⟩
end Go.Proofs.YtelkmeiepliecaaGreatDoor
