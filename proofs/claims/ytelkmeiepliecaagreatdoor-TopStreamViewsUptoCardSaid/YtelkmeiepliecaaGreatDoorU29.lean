/-
  Part 29 of the proof.
-/
import Derived.Test.YtelkmeiepliecaaGreatDoorU28
set_option linter.unusedSimpArgs false
set_option linter.unusedVariables false
set_option maxHeartbeats 16000000
namespace Go.Proofs.YtelkmeiepliecaaGreatDoor
open Go.RowKit
def elM:El (List En) where
 size:=1
 pos:=by decide
 R w K m r:=∃ A c,r=[.slice A m.length c]∧SV elE w K A c m
 len k:=by obtain ⟨A,c,rfl,_⟩:=k;rfl
 one k u hu:=by
  obtain ⟨A,c,rfl,_⟩:=k
  rw [List.mem_singleton.1 hu]
  rfl
 ns k:=by obtain ⟨A,c,rfl,_⟩:=k;exact ns1 ns_slice
 below k hb:=by obtain ⟨A,c,e,k1⟩:=k;exact ⟨A,c,e,k1.below hb⟩
 ch k hc:=by obtain ⟨A,c,e,k1⟩:=k;exact ⟨A,c,e,k1.ch hc⟩
 fresh k:=by obtain ⟨A,c,e,k1⟩:=k;exact ⟨A,c,e,k1.fresh⟩
 mono k hk:=by obtain ⟨A,c,e,k1⟩:=k;exact ⟨A,c,e,k1.mono hk⟩
theorem SV.mp {w:World} {K:Nat→Prop} {A0:Option Addr} {c0:Nat} {ms:List (List En)} (h:SV elM w K A0 c0 ms) {j:Nat} {m:List En} (hx:ms[j]? = some m) :
 ∃ b o A c,A0=some ⟨b,o,none⟩∧w.cell? ⟨b,o+j,none⟩=some (.slice A m.length c)∧SV elE w K A c m:=by
 obtain ⟨b,o,r,ea,_,hc,A,c,rfl,k⟩:=h.at_ hx
 have h0:=hc 0 _ rfl
 rw [show elM.size=1 from rfl,Nat.mul_one,Nat.add_zero] at h0
 exact ⟨b,o,A,c,ea,h0,k⟩
def chkMs:List (List En)→Int
 | []=>0
 | m::ms=>if chkM m=0 then chkMs ms else chkM m
theorem chkMs_yes:∀ {ms:List (List En)} {k:Nat} {m:List En},ms[k]? = some m→(∀ j q,j<k→ms[j]? = some q→chkM q=0)→chkM m≠0→chkMs ms=chkM m
 | [],k,m,h,_,_=>by simp at h
 | x::ms,0,m,h,_,hn=>by
  have:x=m:=by simpa using h
  subst this
  exact if_neg hn
 | x::ms,k+1,m,h,h0,hn=>(if_pos (h0 0 x (by omega) rfl)).trans (chkMs_yes (k:=k) (by simpa using h) (fun j q hj hq=>h0 (j+1) q (by omega) (by simpa using hq)) hn)
theorem chkMs_no:∀ {ms:List (List En)},(∀ j q,j<ms.length→ms[j]? = some q→chkM q=0)→chkMs ms=0
 | [],_=>rfl
 | x::ms,h0=>(if_pos (h0 0 x (by simp) rfl)).trans (chkMs_no (fun j q hj hq=>h0 (j+1) q (by simp;omega) (by simpa using hq)))
set_option maxRecDepth 100000 in
theorem mcheck_any (ms:List (List En)) (K:Nat→Prop) (A0:Option Addr) (c0:Nat) (w:World) (hsv:SV elM w K A0 c0 ms) (ok:∀ m∈ms,okM m) (hm:ML w) :
 Calls Tryz.prog 23 #[.slice A0 ms.length c0] w fun x w'=>x=.returned (.int .i64 (chkMs ms))∧Below w.heap.size w w':=by
 have HSV:=lh hsv
 have HOK:=lh ok
 have HM:=lh hm
 have q1:=hsv.lenc
 have q2:=hsv.capc
 clear hsv ok hm
 go_enter Tryz.func23,Tryz.ntmps23
 go_wp2_with fail
 go_loopw [9] (fun s wr=>∃ k:Nat,k≤ms.length∧s=.int .i64 k∧Hid (Below w.heap.size w wr)∧Hid (∀ j q,j<k→ms[j]? = some q→chkM q=0)) (fun s _=>ms.length-(intOf s).toNat)
 case atStart=>exact ⟨0,Nat.zero_le _,rfl,lh (Below.refl _ _),lh (fun j q hj=>by omega)⟩
 case round =>
  obtain ⟨k,hk,rfl,HB,HZ⟩:=hrel
  by_cases hlt:k<ms.length
  ·obtain ⟨m,he⟩:∃ m,ms[k]? = some m:=⟨_,gE hlt⟩
   obtain ⟨b,o,A,c,rfl,x0,hmv⟩:=(HSV.out.below HB.out).mp he
   have HCK:=lh (fun W (h:Below wr.heap.size wr W)=>chk_any m K A c W (hmv.below h) (HOK.out m (mG he)) (HM.out.below (go3 HB.out h)))
   have HE:=lh he
   clear he hmv
   by_cases hz:chkM m=0
   ·have HZ2:Hid (∀ j q,j<k+1→ms[j]? = some q→chkM q=0):=lh (fun j q hj hq=>by
     rcases Nat.lt_or_ge j k with h1|h1
     ·exact HZ.out j q h1 hq
     ·obtain rfl:j=k:=by omega
      rw [HE.out] at hq
      cases hq
      exact hz)
    have HZM:=lh hz
    clear hz HZ
    go_wp2_with (go_at_call 32;refine (HCK.out _ bB).mono ?_;rintro x w1 ⟨i1,rfl,hb1⟩;rw [HZM.out];have HB1:=lh (go3 HB.out hb1);clear hb1)
    go_roundw
    case rel=>exact ⟨k+1,by omega,by go_num,HB1,HZ2⟩
    case measure=>simp [intOf];omega
   ·have HY:=lh (chkMs_yes HE.out HZ.out hz)
    have hneb:(chkM m != 0)=true:=by simpa using hz
    clear HZ
    go_wp2_with (go_at_call 32;refine (HCK.out _ bB).mono ?_;rintro x w1 ⟨i1,rfl,hb1⟩;have HB1:=lh (go3 HB.out hb1);clear hb1)
    go_ret
    exact ⟨by rw [HY.out];rfl,HB1.out⟩
  ·obtain rfl:k=ms.length:=by omega
   have HN:=lh (chkMs_no HZ.out)
   clear HZ
   go_wp2_with fail
   go_ret
   exact ⟨by rw [HN.out];rfl,HB.out⟩
open Go.RowKit
def CO {α:Type} (e:El α) (T:TypeId) (w:World) (g base:Nat) (A:Option Addr) (c:Nat) (xs:List α) (full:Bool):Prop:=BNX w g [.slice A xs.length c,.bool full]∧SO e w base T (.slice A xs.length c) (fun j=>j≤g) xs
def addC {α:Type} (s:List α×Bool) (x:α):List α×Bool:=if s.1.length=32 then (s.1,true) else (s.1++[x],s.2)
theorem CO.below {α:Type} {e:El α} {T:TypeId} {w w':World} {g base:Nat} {A:Option Addr} {c:Nat} {xs:List α} {full:Bool} (h:CO e T w g base A c xs full) (hb:Below w.heap.size w w'):CO e T w' g base A c xs full:=⟨h.1.below hb,h.2.below hb⟩
theorem CO.new {α:Type} (e:El α) (T T2:TypeId) (w:World):CO e T (w.alloc (.cells #[.slice none 0 0,.bool false] T2)) w.heap.size (w.heap.size+1) none 0 [] false:=⟨BNX.new w [_,_] _ rfl (ns2 ns_slice ns_bool),SO.nil _ _ _ _ _⟩
theorem CO.set {α:Type} {e:El α} {T:TypeId} {w:World} {g base:Nat} {A:Option Addr} {c:Nat} {xs:List α} {full:Bool} {x:Value} (h:BNX w g [x,.bool full]) (h2:SO e w base T (.slice A xs.length c) (fun j=>j≤g) xs) (hg:g<base):CO e T (w.setCell ⟨g,0,none⟩ (.slice A xs.length c)) g base A c xs full :=
 ⟨⟨h.1.set (j:=0) (by simp) _,h.2.set 0 ns_slice⟩,h2.ch (Ch.set (K:=fun j=>j≤g) (p:=⟨g,0,none⟩) (Nat.le_refl g) h.2 _) (fun j hj e=>by have:=(h2.own j hj).1;omega)⟩
theorem CO.full {α:Type} {e:El α} {T:TypeId} {w:World} {g base:Nat} {A:Option Addr} {c:Nat} {xs:List α} {full:Bool} (h:CO e T w g base A c xs full) (hg:g<base):CO e T (w.setCell ⟨g,1,none⟩ (.bool true)) g base A c xs true :=
 ⟨⟨h.1.1.set (j:=1) (by simp) _,h.1.2.set 1 ns_bool⟩,h.2.ch (Ch.set (K:=fun j=>j≤g) (p:=⟨g,1,none⟩) (Nat.le_refl g) h.1.2 _) (fun j hj e=>by have:=(h.2.own j hj).1;omega)⟩
def OwnN (A0:Option Addr) (n0 c0:Nat) (A:Option Addr) (n c s:Nat):Prop:=∀ j,(Value.slice A n c).ownBlock=some j→(Value.slice A0 n0 c0).ownBlock=some j∨s≤j
theorem OwnN.same (A:Option Addr) (n c s:Nat):OwnN A n c A n c s:=fun _ h=>.inl h
theorem OwnN.of {A0:Option Addr} {n0 c0:Nat} {A:Option Addr} {n c s S:Nat} (h:(Value.slice A n c).ownBlock=(Value.slice A0 n0 c0).ownBlock∨(Value.slice A n c).ownBlock=some S) (hs:s≤S):OwnN A0 n0 c0 A n c s:=fun j hj=>by
 rcases h with h|h
 ·exact .inl (h▸hj)
 ·rw [h] at hj
  cases hj
  exact .inr hs
theorem OwnN.mono {A0:Option Addr} {n0 c0:Nat} {A:Option Addr} {n c s s':Nat} (h:OwnN A0 n0 c0 A n c s) (hs:s'≤s):OwnN A0 n0 c0 A n c s':=fun j hj=>(h j hj).imp id (Nat.le_trans hs)
set_option maxRecDepth 100000 in
theorem addE2_any (xs:List En) (full:Bool) (x:En) (A B H:Option Addr) (c d n9:Nat) (g base:Nat) (A0:Option Addr) (c0:Nat) (w:World) (h:CO elE 73 w g base A0 c0 xs full) (hx:elE.R w (avO (.slice A0 xs.length c0) (fun j=>j≤g)) x [.slice A x.1.1.length c,.bool x.1.2,.slice B x.2.1.1.length d,.bool x.2.1.2,.slice H x.2.2.length n9]) (hg:g<base) (hw:base≤w.heap.size) (hl:xs.length≤32) :
 Calls Tryz.prog 55 #[.pointer (some ⟨g,0,none⟩),.agg #[.slice A x.1.1.length c,.bool x.1.2,.slice B x.2.1.1.length d,.bool x.2.1.2,.slice H x.2.2.length n9]] w fun r w'=>r=.returned (.tuple #[])∧∃ A c,CO elE 73 w' g base A c (addC (xs,full) x).1 (addC (xs,full) x).2∧Below g w w'∧Ch (fun j=>j=g∨(Value.slice A0 xs.length c0).ownBlock=some j) w w'∧OwnN A0 xs.length c0 A (addC (xs,full) x).1.length c w.heap.size:=by
 obtain ⟨a0,a1⟩:=h.1.1.c2
 have f0:=h.1.1.2.1 0
 have f1:=h.1.1.2.1 1
 have hgw:=h.1.1.2.2
 have HCO:=lh h
 have HX:=lh hx
 have hown:Hid (∀ j,(Value.slice A0 xs.length c0).ownBlock=some j→base≤j∧j<w.heap.size):=lh (fun j hj=>h.2.own j hj)
 have HLO:Hid (Below g w (w.alloc (.cells #[.slice A x.1.1.length c,.bool x.1.2,.slice B x.2.1.1.length d,.bool x.2.1.2,.slice H x.2.2.length n9] 73))):=lh ((ba w _).mono (by omega))
 clear h hx
 by_cases h32:xs.length=32
 ·have he:(xs.length:Int)=32:=by omega
  go_enter Tryz.func55,Tryz.ntmps55
  go_wp2_with fail
  refine bodyPost_ret (results_none rfl _ _ _) rfl ⟨rfl,A0,c0,?_,?_,?_,?_⟩
  ·unfold addC
   rw [if_pos h32]
   exact (HCO.out.full hg).below (ba _ _)
  ·exact ((Below.refl g w).setCell (p:=⟨g,1,none⟩) (Nat.le_refl _) _).trans ((ba _ _).mono (by simp [World.setCell];omega))
  ·exact (Ch.set (K:=fun j=>j=g∨(Value.slice A0 xs.length c0).ownBlock=some j) (p:=⟨g,1,none⟩) (.inl rfl) HCO.out.1.2 _).trans (Ch.of_below (ba _ _))
  ·unfold addC
   rw [if_pos h32]
   exact OwnN.same _ _ _ _
 ·have he:((xs.length:Int)==32)=false:=by simp;omega
  have hne:¬ (xs.length:Int)=32:=by omega
  have HQ:At (fun W=>BNX W g [.slice A0 xs.length c0,.bool full]∧SO elE W base 73 (.slice A0 xs.length c0) (fun j=>j≤g) xs∧elE.R W (avO (.slice A0 xs.length c0) (fun j=>j≤g)) x [.slice A x.1.1.length c,.bool x.1.2,.slice B x.2.1.1.length d,.bool x.2.1.2,.slice H x.2.2.length n9]∧Below g w W∧Below w.heap.size w W) w:=⟨fun X Y h hb=>⟨h.1.below hb,h.2.1.below hb,elE.below h.2.2.1 hb,h.2.2.2.1.trans (hb.mono (by have:=h.2.2.2.2.size;omega)),go3 h.2.2.2.2 hb⟩,HCO.out.1,HCO.out.2,HX.out,Below.refl _ _,Below.refl _ _⟩
  go_enter Tryz.func55,Tryz.ntmps55
  go_upto_region 3 with (fail)
  have hn8:(Value.slice A0 xs.length c0).ownBlock≠some g:=fun e=>by have:=(hown.out _ e).1;omega
  go_region_law (first|(refine step_append_so1 elE elET rfl _ _ rfl base _ (fun j=>j≤g) xs x [.slice A x.1.1.length c,.bool x.1.2,.slice B x.2.1.1.length d,.bool x.2.1.2,.slice H x.2.2.length n9] (w.heap.size+1) 1 rfl rfl (HQ.go bB).out.2.1 (HQ.go bB).out.2.2.1 (cells_new _ [.slice A x.1.1.length c,.bool x.1.2,.slice B x.2.1.1.length d,.bool x.2.1.2,.slice H x.2.2.length n9] _ (by simp)) (by simp) (by omega) (by omega) (by omega) (by simp;omega) ?_;intro v8 w8 hso8 hg8 hor8;obtain ⟨A8,n8,c8,rfl,hn8l⟩:=so_shape hso8;have HSO8:=lh hso8;have HB8:=lh ((HQ.go bB).out.1.grown hg8 hn8);have HLO8:=lh ((HQ.go bB).out.2.2.2.1.grown hg8 (Nat.le_trans (show g≤w.heap.size by omega) (HQ.go bB).out.2.2.2.2.size) (fun j hj=>by have:=hown.out j hj;omega));have HCH8:=lh ((Ch.of_below (K:=fun j=>j=g∨(Value.slice A0 xs.length c0).ownBlock=some j) (HQ.go bB).out.2.2.2.2).trans (Ch.of_grown hg8 (fun j hj=>⟨.inr hj,(HQ.go bB).out.2.1.nso j hj⟩)));have HN8:Hid (OwnN A0 xs.length c0 A8 n8 c8 w.heap.size):=lh (OwnN.of hor8 (HQ.go bB).out.2.2.2.2.size);have gf8:=HB8.out.1.2.1 0;have hs8:=HB8.out.1.2.2;obtain ⟨g08,g18⟩:=HB8.out.1.c2;clear hso8 hg8 hor8))
  all_goals
   go_wp2_with fail
   refine bodyPost_end (results_none rfl _ _ _) rfl ⟨rfl,A8,c8,?_,HLO8.out.setCell (p:=⟨g,0,none⟩) (Nat.le_refl _) _,HCH8.out.trans (Ch.set (p:=⟨g,0,none⟩) (.inl rfl) HB8.out.2 _),?_⟩
   have e8:=hn8l.out
   subst e8
   ·unfold addC
    rw [if_neg h32]
    exact CO.set HB8.out HSO8.out hg
   ·have e8:=hn8l.out
    subst e8
    unfold addC
    rw [if_neg h32]
    exact HN8.out
theorem resE_any (xs:List En) (full:Bool) (g base:Nat) (A0:Option Addr) (c0:Nat) (w:World) (h:CO elE 73 w g base A0 c0 xs full) :
 Calls Tryz.prog 26 #[.pointer (some ⟨g,0,none⟩)] w fun r w'=>r=.returned (.tuple #[if full=true then .slice none 0 0 else .slice A0 xs.length c0,.int .i64 (if full=true then 72 else 0)])∧Below w.heap.size w w':=by
 obtain ⟨a0,a1⟩:=h.1.1.c2
 clear h
 go_enter Tryz.func26,Tryz.ntmps26
 cases full with
 | true =>
  go_wp2_with fail
  go_ret2
  exact ⟨rfl,bB⟩
 | false =>
  go_wp2_with fail
  go_ret2
  exact ⟨rfl,bB⟩
open Go.RowKit
def rdE (b:Pn) (ps:List Pn):Bool:=decide (64<(redH b ps).length)
def RetRd (w:World) (b:Pn) (ps:List Pn) (x:Ending) (w':World):Prop :=
 (rdE b ps=true→x=.returned (.tuple #[.agg #[.slice none 0 0,.bool false,.slice none 0 0],.bool false,.int .i64 72])∧Below w.heap.size w w') ∧
 (rdE b ps=false→∃ B d A c,x=.returned (.tuple #[.agg #[.slice B b.1.length d,.bool b.2,.slice A (redH b ps).length c],.bool (!voidF b (redH b ps)),.int .i64 0])∧(RG w' (b,redH b ps) B d A c∧∀ a,A=some a→w.heap.size≤a.block)∧Below w.heap.size w w')
set_option maxRecDepth 100000 in
theorem rdc_any (B A:Option Addr) (d c:Nat) (b:Pn) (ps:List Pn) (w:World) (h:RT w B d b.1) (k:BT w A c ps) (hb:szP b) (hps:∀ q∈ps,szP q) (hl:ps.length≤5000) :
 Calls Tryz.prog 39 #[.agg #[.slice B b.1.length d,.bool b.2],.slice A ps.length c] w (RetRd w b ps):=by
 have HRD:=lh (fun W (hw:Below w.heap.size w W)=>reduce_any B A d c b ps W (h.below hw) (k.below hw) hb hps hl)
 have HMS:=lh hb
 have HRZ:Hid (∀ q∈redH b ps,szP q):=lh (fun q hq=>by
  obtain ⟨x,hx,rfl⟩:=List.mem_map.1 (redH_mem hq)
  obtain ⟨hx,hm2⟩:=List.mem_filter.1 hx
  exact ⟨met_sz hm2 hb.1 (hps x hx).1,by have:=(okPn_len (met_ok hm2)).2;omega⟩)
 have HS:At (BN w [(w.heap.size,[.slice B b.1.length d,.bool b.2]),(w.heap.size+1,[.slice none 0 0,.bool false,.slice none 0 0])]) ((w.alloc (.cells #[.slice B b.1.length d,.bool b.2] 45)).alloc (.cells #[.slice none 0 0,.bool false,.slice none 0 0] 48)) :=
  (((BN.nil w).push [.slice B b.1.length d,.bool b.2] 45 rfl (ns2 ns_slice ns_bool)).push [.slice none 0 0,.bool false,.slice none 0 0] 48 (g:=w.heap.size+1) (by simp) (ns3 ns_slice ns_bool ns_slice)).at_
 obtain ⟨H,HH⟩:∃ H,Hid (redH b ps=H):=⟨_,lh rfl⟩
 have HE:Hid (rdE b ps=decide (64<H.length)):=lh (by unfold rdE;rw [HH.out])
 rw [HH.out] at HRD HRZ
 have hbig:Hid (RetRd w b ps=fun (x:Ending) (w':World)=>(rdE b ps=true→x=.returned (.tuple #[.agg #[.slice none 0 0,.bool false,.slice none 0 0],.bool false,.int .i64 72])∧Below w.heap.size w w') ∧
  (rdE b ps=false→∃ B d A c,x=.returned (.tuple #[.agg #[.slice B b.1.length d,.bool b.2,.slice A H.length c],.bool (!voidF b H),.int .i64 0])∧(RG w' (b,H) B d A c∧∀ a,A=some a→w.heap.size≤a.block)∧Below w.heap.size w w')):=lh (by
  unfold RetRd
  rw [HH.out])
 rw [hbig.out,HE.out]
 clear h k hb hps hl HH HE hbig
 obtain ⟨a0,a1⟩:=(HS.out.get 0 rfl).c2
 by_cases h64:64<H.length
 ·have i1:decide ((64:Int)<(H.length:Int))=true:=by simp;omega
  rw [decide_eq_true h64]
  clear h64
  go_enter Tryz.func39,Tryz.ntmps39
  go_upto_region 2 with (go_at_call 74;refine (HRD.out _ (HS.go bB).out.low).mono ?_;rintro e w6 ⟨B6,d6,A6,c6,rfl,⟨h1,h2,-,h4⟩,hb6⟩;replace HS:=HS.go2 bB hb6;have H6:Hid (RG w6 (b,H) B6 d6 A6 c6):=lh ⟨h1,h2⟩;have HF6:Hid (∀ a,A6=some a→w.heap.size+1<a.block):=lh (fun a e=>by have:=h4 a e;(try simp only [World.size_alloc] at this);omega);clear h1 h2 h4 hb6)
  have hs6:w.heap.size+1<w6.heap.size:=(HS.out.get 1 rfl).2.2
  have HQ:At (fun W=>BX W w6.heap.size [.slice B6 b.1.length d6,.bool b.2,.slice A6 H.length c6]∧RG W (b,H) B6 d6 A6 c6∧BN w [(w.heap.size,[.slice B b.1.length d,.bool b.2]),(w.heap.size+1,[.slice none 0 0,.bool false,.slice none 0 0])] W) (w6.alloc (.cells #[.slice B6 b.1.length d6,.bool b.2,.slice A6 H.length c6] 48)) :=
   ⟨fun X Y h hb=>⟨h.1.below hb,h.2.1.below hb,BN.kept _ _ _ _ h.2.2 hb⟩,BX.new w6 _ _ rfl,H6.out.below (ba _ _),(HS.go (ba _ _)).out⟩
  clear HS H6 a0 a1
  obtain ⟨w7,hw7⟩:∃ w7,w7=w6.alloc (.cells #[.slice B6 b.1.length d6,.bool b.2,.slice A6 H.length c6] 48):=⟨_,rfl⟩
  rw [←hw7] at HQ ⊢
  clear hw7
  obtain ⟨x0,x1,x2⟩:=HQ.out.1.c3
  obtain ⟨r0,r1,r2⟩:=(HQ.out.2.2.get 1 rfl).c3
  have f0:=(HQ.out.2.2.get 1 rfl).2.1 0
  have f1:=(HQ.out.2.2.get 1 rfl).2.1 1
  have f2:=(HQ.out.2.2.get 1 rfl).2.1 2
  go_wp2_with fail
  refine bodyPost_ret (v:=.tuple #[.agg #[.slice none 0 0,.bool false,.slice none 0 0],.bool false,.int .i64 72]) (by simp [results,Tryz.results39,go_sem,r0,r1,r2,f0,f1,f2]) rfl ⟨fun _=>⟨rfl,below_set3 HQ.out.2.2.low (by omega) _ _ _⟩,fun h=>absurd h (by decide)⟩
 ·have i1:decide ((64:Int)<(H.length:Int))=false:=by simp;omega
  rw [decide_eq_false h64]
  clear h64
  go_enter Tryz.func39,Tryz.ntmps39
  go_upto_region 2 with (go_at_call 74;refine (HRD.out _ (HS.go bB).out.low).mono ?_;rintro e w6 ⟨B6,d6,A6,c6,rfl,⟨h1,h2,-,h4⟩,hb6⟩;replace HS:=HS.go2 bB hb6;have H6:Hid (RG w6 (b,H) B6 d6 A6 c6):=lh ⟨h1,h2⟩;have HF6:Hid (∀ a,A6=some a→w.heap.size+1<a.block):=lh (fun a e=>by have:=h4 a e;(try simp only [World.size_alloc] at this);omega);clear h1 h2 h4 hb6)
  have hs6:w.heap.size+1<w6.heap.size:=(HS.out.get 1 rfl).2.2
  have HQ:At (fun W=>BX W w6.heap.size [.slice B6 b.1.length d6,.bool b.2,.slice A6 H.length c6]∧RG W (b,H) B6 d6 A6 c6∧BN w [(w.heap.size,[.slice B b.1.length d,.bool b.2]),(w.heap.size+1,[.slice none 0 0,.bool false,.slice none 0 0])] W) (w6.alloc (.cells #[.slice B6 b.1.length d6,.bool b.2,.slice A6 H.length c6] 48)) :=
   ⟨fun X Y h hb=>⟨h.1.below hb,h.2.1.below hb,BN.kept _ _ _ _ h.2.2 hb⟩,BX.new w6 _ _ rfl,H6.out.below (ba _ _),(HS.go (ba _ _)).out⟩
  clear HS H6 a0 a1
  obtain ⟨w7,hw7⟩:∃ w7,w7=w6.alloc (.cells #[.slice B6 b.1.length d6,.bool b.2,.slice A6 H.length c6] 48):=⟨_,rfl⟩
  rw [←hw7] at HQ ⊢
  clear hw7
  obtain ⟨x0,x1,x2⟩:=HQ.out.1.c3
  obtain ⟨r0,r1,r2⟩:=(HQ.out.2.2.get 1 rfl).c3
  have f0:=(HQ.out.2.2.get 1 rfl).2.1 0
  have f1:=(HQ.out.2.2.get 1 rfl).2.1 1
  have f2:=(HQ.out.2.2.get 1 rfl).2.1 2
  have HV:=lh (fun W h k=>void_any B6 A6 d6 c6 b H W h k HMS.out HRZ.out)
  go_upto_region 4 with (fail)
  have hs7:w.heap.size+1<w7.heap.size:=(HQ.out.2.2.get 1 rfl).2.2
  obtain ⟨v,HVV⟩:∃ v,Hid (voidF b H=v):=⟨_,lh rfl⟩
  rw [HVV.out] at HV
  have HKS:Hid (∀ W,(BX W w6.heap.size [.slice B6 b.1.length d6,.bool b.2,.slice A6 H.length c6]∧RG W (b,H) B6 d6 A6 c6∧BN w [(w.heap.size,[.slice B b.1.length d,.bool b.2]),(w.heap.size+1,[.slice none 0 0,.bool false,.slice none 0 0])] W)→(W.cell? ⟨w6.heap.size,0,none⟩=some (.slice B6 b.1.length d6)∧W.cell? ⟨w6.heap.size,1,none⟩=some (.bool b.2)∧W.cell? ⟨w6.heap.size,2,none⟩=some (.slice A6 H.length c6))∧(W.cell? ⟨w.heap.size+1,0,none⟩=some (.slice none 0 0)∧W.cell? ⟨w.heap.size+1,1,none⟩=some (.bool false)∧W.cell? ⟨w.heap.size+1,2,none⟩=some (.slice none 0 0))∧W.frozen? ⟨w.heap.size+1,0,none⟩=false∧W.frozen? ⟨w.heap.size+1,1,none⟩=false∧W.frozen? ⟨w.heap.size+1,2,none⟩=false):=lh (fun W h=>⟨h.1.c3,(h.2.2.get 1 rfl).c3,(h.2.2.get 1 rfl).2.1 0,(h.2.2.get 1 rfl).2.1 1,(h.2.2.get 1 rfl).2.1 2⟩)
  have HK3:Hid (∀ W g a1 a2 a3,(BX W w6.heap.size [.slice B6 b.1.length d6,.bool b.2,.slice A6 H.length c6]∧RG W (b,H) B6 d6 A6 c6∧BN w [(w.heap.size,[.slice B b.1.length d,.bool b.2]),(w.heap.size+1,[.slice none 0 0,.bool false,.slice none 0 0])] W)→g≠w6.heap.size→(((W.setCell ⟨g,0,none⟩ a1).setCell ⟨g,1,none⟩ a2).setCell ⟨g,2,none⟩ a3).cell? ⟨w6.heap.size,0,none⟩=some (.slice B6 b.1.length d6)∧(((W.setCell ⟨g,0,none⟩ a1).setCell ⟨g,1,none⟩ a2).setCell ⟨g,2,none⟩ a3).cell? ⟨w6.heap.size,1,none⟩=some (.bool b.2)∧(((W.setCell ⟨g,0,none⟩ a1).setCell ⟨g,1,none⟩ a2).setCell ⟨g,2,none⟩ a3).cell? ⟨w6.heap.size,2,none⟩=some (.slice A6 H.length c6)):=lh (fun W g a1 a2 a3 h n1=>by
   obtain ⟨e1,e2,e3⟩:=(HKS.out W h).1
   rw [set3_other _ _ _ (Ne.symm n1),set3_other _ _ _ (Ne.symm n1),set3_other _ _ _ (Ne.symm n1)]
   exact ⟨e1,e2,e3⟩)
  go_region_held3 (fun W=>W.cell? ⟨w6.heap.size,0,none⟩=some (.slice B6 b.1.length d6)∧W.cell? ⟨w6.heap.size,1,none⟩=some (.bool b.2)∧W.cell? ⟨w6.heap.size,2,none⟩=some (.slice A6 H.length c6))
   (first|(with_reducible refine HK3.out _ _ _ _ _ (HQ.go ?_).out ?_<;>first|omega|(repeat (first|with_reducible exact Below.refl _ _|with_reducible apply Below.drew|with_reducible apply below_drewN|with_reducible apply below_al))<;>done)|(with_reducible refine (HKS.out _ (HQ.go ?_).out).1<;>(repeat (first|with_reducible exact Below.refl _ _|with_reducible apply Below.drew|with_reducible apply below_drewN|with_reducible apply below_al))<;>done)|go_keep)
   (first
    | (go_at_call 75;refine (HV.out _ (HQ.go bB).out.2.1.1 (HQ.go bB).out.2.1.2).mono ?_;rintro e w8 ⟨rfl,hb8⟩;replace HQ:=HQ.go2 bB hb8;clear hb8 x0 x1 x2 r0 r1 r2 f0 f1 f2;obtain ⟨⟨x0,x1,x2⟩,⟨r0,r1,r2⟩,f0,f1,f2⟩:=HKS.out _ HQ.out))
  all_goals
   go_wp2_with fail
   have hns:=HQ.out.2.2.ns 1 rfl
   have hl8:w.heap.size+1<w8.heap.size:=(HQ.out.2.2.get 1 rfl).2.2
   refine bodyPost_ret (v:=.tuple #[.agg #[.slice B6 b.1.length d6,.bool b.2,.slice A6 H.length c6],.bool (!v),.int .i64 0]) (by simp [results,Tryz.results39,go_sem,r0,r1,r2,f0,f1,f2,hl8]) rfl ⟨fun h=>absurd h (by decide),fun _=>⟨B6,d6,A6,c6,by rw [HVV.out],⟨⟨HQ.out.2.1.1.set3 hns ns_slice ns_bool _,HQ.out.2.1.2.set3 (fun a ea=>by have:=HF6.out a ea;omega) hns ns_slice ns_bool _⟩,fun a ea=>by have:=HF6.out a ea;omega⟩,below_set3 HQ.out.2.2.low (by omega) _ _ _⟩⟩
open Go.RowKit
def putC (s:List En×Bool) (l r:Pn) (ps:List Pn):List En×Bool:=if (!rdE l ps&&!voidF l (redH l ps))=true then addC s (l,r,redH l ps) else s
def putE (l:Pn) (ps:List Pn):Int:=if rdE l ps=true then 72 else 0
def RetPut (w:World) (v:Value) (g base:Nat) (s:List En×Bool) (l r:Pn) (ps:List Pn) (x:Ending) (w':World):Prop :=
 x=.returned (.int .i64 (putE l ps))∧∃ A c,CO elE 73 w' g base A c (putC s l r ps).1 (putC s l r ps).2∧Below g w w'∧Ch (fun j=>j=g∨v.ownBlock=some j) w w'
def RetPut2 (w:World) (A0:Option Addr) (c0 g base:Nat) (s:List En×Bool) (l r:Pn) (ps:List Pn) (x:Ending) (w':World):Prop :=
 x=.returned (.int .i64 (putE l ps))∧∃ A c,CO elE 73 w' g base A c (putC s l r ps).1 (putC s l r ps).2∧Below g w w'∧Ch (fun j=>j=g∨(Value.slice A0 s.1.length c0).ownBlock=some j) w w'∧OwnN A0 s.1.length c0 A (putC s l r ps).1.length c w.heap.size
set_option maxRecDepth 100000 in
theorem put2_any (xs:List En) (full ex:Bool) (l r:Pn) (ps:List Pn) (A B P:Option Addr) (c d p:Nat) (g base:Nat) (A0:Option Addr) (c0:Nat) (w:World) (h:CO elE 73 w g base A0 c0 xs full) (hg:g<base) (hw:base≤w.heap.size) (hl:xs.length≤32)
 (k1:RT w A c l.1) (k2:RT w B d r.1) (k3:BT w P p ps) (z1:szP l) (z2:r.1.length≤100000) (z3:∀ q∈ps,szP q) (hpl:ps.length≤5000) :
 Calls Tryz.prog 25 #[.pointer (some ⟨g,0,none⟩),.agg #[.bool ex,.slice A l.1.length c,.bool l.2,.slice B r.1.length d,.bool r.2],.slice P ps.length p] w (RetPut2 w A0 c0 g base (xs,full) l r ps):=by
 have HRD:=lh (fun W (hW:Below w.heap.size w W)=>rdc_any A P c p l ps W (k1.below hW) (k3.below hW) z1 z3 hpl)
 have HCP:=lh (fun W (hW:Below w.heap.size w W)=>pcopy_any B d r.1 r.2 W (k2.below hW) z2)
 have HCO:=lh h
 have hown:Hid (∀ j,(Value.slice A0 xs.length c0).ownBlock=some j→base≤j∧j<w.heap.size):=lh (fun j hj=>h.2.own j hj)
 have hgw:=h.1.1.2.2
 have HS:At (BN w [(w.heap.size,[.bool ex,.slice A l.1.length c,.bool l.2,.slice B r.1.length d,.bool r.2])]) (w.alloc (.cells #[.bool ex,.slice A l.1.length c,.bool l.2,.slice B r.1.length d,.bool r.2] 57)) :=
  ((BN.nil w).push [.bool ex,.slice A l.1.length c,.bool l.2,.slice B r.1.length d,.bool r.2] 57 rfl (ns5 ns_bool ns_slice ns_bool ns_slice ns_bool)).at_
 clear h k1 k2 k3 z1 z2 z3 hpl
 obtain ⟨a0,a1,a2,a3,a4⟩:=(HS.out.get 0 rfl).c5
 cases he:rdE l ps with
 | true =>
  have HR2:=lh (fun W hW=>(HRD.out W hW).mono fun _ _ h=>h.1 he)
  have HPE:Hid (putE l ps=72∧putC (xs,full) l r ps=(xs,full)):=lh (by unfold putE putC;rw [he];exact ⟨rfl,rfl⟩)
  clear he HRD
  go_enter Tryz.func25,Tryz.ntmps25
  go_wp2_with (go_at_call 39;refine (HR2.out _ (HS.go bB).out.low).mono ?_;rintro x w1 ⟨rfl,hb1⟩;replace HS:=HS.go2 bB hb1;clear hb1)
  go_ret
  exact ⟨by rw [HPE.out.1];rfl,A0,c0,by rw [HPE.out.2];exact HCO.out.below (HS.go bB).out.low,(HS.go bB).out.low.mono (by omega),Ch.of_below (HS.go bB).out.low,by rw [HPE.out.2];exact OwnN.same _ _ _ _⟩
 | false =>
  have HR2:=lh (fun W hW=>(HRD.out W hW).mono fun _ _ h=>h.2 he)
  cases hv:voidF l (redH l ps) with
  | true =>
   have HPE:Hid (putE l ps=0∧putC (xs,full) l r ps=(xs,full)):=lh (by unfold putE putC;rw [he,hv];exact ⟨rfl,rfl⟩)
   rw [hv] at HR2
   clear he hv HRD
   go_enter Tryz.func25,Tryz.ntmps25
   go_wp2_with (go_at_call 39;refine (HR2.out _ (HS.go bB).out.low).mono ?_;rintro x w1 ⟨B6,d6,A6,c6,rfl,-,hb1⟩;replace HS:=HS.go2 bB hb1;clear hb1)
   go_ret
   exact ⟨by rw [HPE.out.1];rfl,A0,c0,by rw [HPE.out.2];exact HCO.out.below (HS.go bB).out.low,(HS.go bB).out.low.mono (by omega),Ch.of_below (HS.go bB).out.low,by rw [HPE.out.2];exact OwnN.same _ _ _ _⟩
  | false =>
   have HPE:Hid (putE l ps=0∧putC (xs,full) l r ps=addC (xs,full) (l,r,redH l ps)):=lh (by unfold putE putC;rw [he,hv];exact ⟨rfl,rfl⟩)
   rw [hv] at HR2
   clear he hv HRD
   go_enter Tryz.func25,Tryz.ntmps25
   go_upto_region 3 with (go_at_call 39;refine (HR2.out _ (HS.go bB).out.low).mono ?_;rintro x w1 ⟨B6,d6,A6,c6,rfl,⟨hrg,hfr⟩,hb1⟩;replace HS:=HS.go2 bB hb1;have HRG:=lh hrg;have HFR:Hid (∀ a,A6=some a→w.heap.size≤a.block):=lh (fun a e=>by have:=hfr a e;(try simp only [World.size_alloc] at this);omega);clear hb1 hrg hfr a0 a1 a2 a3 a4)
   have hs1:w.heap.size<w1.heap.size:=(HS.out.get 0 rfl).2.2
   have HQ:At (fun W=>BX W w1.heap.size [.slice B6 l.1.length d6,.bool l.2,.slice A6 (redH l ps).length c6]∧BX W w.heap.size [.bool ex,.slice A l.1.length c,.bool l.2,.slice B r.1.length d,.bool r.2]∧RG W (l,redH l ps) B6 d6 A6 c6∧Below w.heap.size w W) (w1.alloc (.cells #[.slice B6 l.1.length d6,.bool l.2,.slice A6 (redH l ps).length c6] 48)) :=
    ⟨fun X Y h hb=>⟨h.1.below hb,h.2.1.below hb,h.2.2.1.below hb,go3 h.2.2.2 hb⟩,BX.new w1 _ _ rfl,(HS.go (ba _ _)).out.get 0 rfl,HRG.out.below (ba _ _),(HS.go (ba _ _)).out.low⟩
   have HKS:Hid (∀ W,BX W w1.heap.size [.slice B6 l.1.length d6,.bool l.2,.slice A6 (redH l ps).length c6]→BX W w.heap.size [.bool ex,.slice A l.1.length c,.bool l.2,.slice B r.1.length d,.bool r.2]→(W.cell? ⟨w1.heap.size,0,none⟩=some (.slice B6 l.1.length d6)∧W.cell? ⟨w1.heap.size,1,none⟩=some (.bool l.2)∧W.cell? ⟨w1.heap.size,2,none⟩=some (.slice A6 (redH l ps).length c6))∧W.cell? ⟨w.heap.size,3,none⟩=some (.slice B r.1.length d)∧W.cell? ⟨w.heap.size,4,none⟩=some (.bool r.2)):=lh (fun W h k=>⟨h.c3,k.c5.2.2.2.1,k.c5.2.2.2.2⟩)
   have HN:Hid (∀ j,w.heap.size≤j→¬ (j=g∨(Value.slice A0 xs.length c0).ownBlock=some j)):=lh (fun j hj e=>by
    rcases e with e|e
    ·omega
    ·have:=(hown.out _ e).2;omega)
   have HAD:=lh (fun (E:Option Addr) (f:Nat) W (hW:Below w.heap.size w W) (k1:RG W (l,redH l ps) B6 d6 A6 c6) (k2:RT W E f r.1)=>addE2_any xs full (l,r,redH l ps) B6 E A6 d6 f c6 g base A0 c0 W (HCO.out.below hW) ⟨_,_,_,_,_,_,rfl,⟨k1.1,k2,k1.2⟩,fun _ a ea hk=>by
    have:=HFR.out a ea
    rcases hk with hk|hk
    ·have:=hown.out _ hk;omega
    ·omega⟩ hg (Nat.le_trans hw hW.size) hl)
   clear HS HRG
   obtain ⟨H,HH⟩:∃ H,Hid (redH l ps=H):=⟨_,lh rfl⟩
   rw [HH.out] at HQ HKS HAD HPE ⊢
   go_region_held3 (fun W=>(W.cell? ⟨w1.heap.size,0,none⟩=some (.slice B6 l.1.length d6)∧W.cell? ⟨w1.heap.size,1,none⟩=some (.bool l.2)∧W.cell? ⟨w1.heap.size,2,none⟩=some (.slice A6 H.length c6))∧W.cell? ⟨w.heap.size,3,none⟩=some (.slice B r.1.length d)∧W.cell? ⟨w.heap.size,4,none⟩=some (.bool r.2))
    (first|exact HKS.out _ HX1.out HX2.out|(with_reducible refine HKS.out _ (HQ.go ?_).out.1 (HQ.go ?_).out.2.1<;>(repeat (first|with_reducible exact Below.refl _ _|with_reducible apply Below.drew|with_reducible apply below_drewN|with_reducible apply below_al))<;>done)|go_keep)
    (first
     | (go_at_call 54;refine (HCP.out _ (HQ.go bB).out.2.2.2).mono ?_;rintro x w5 ⟨E,f,rfl,hrt,hb5⟩;replace HQ:=HQ.go2 bB hb5;have HRT:=lh hrt;clear hrt hb5)
     | (go_at_call 55;refine (HAD.out _ _ _ (HQ.go bB).out.2.2.2 (HQ.go bB).out.2.2.1 (HRT.out.below bB)).mono ?_;rintro x w8 ⟨rfl,A8,c8,hco8,hlo8,hch8,hno8⟩;have HX1:=lh ((HQ.go bB).out.1.ch (HN.out _ (Nat.le_of_lt hs1)) hch8);have HX2:=lh ((HQ.go bB).out.2.1.ch (HN.out _ (Nat.le_refl _)) hch8);have HC8:=lh hco8;have HH8:=lh ((Ch.of_below (HQ.go bB).out.2.2.2).trans hch8);have HL8:=lh (((HQ.go bB).out.2.2.2.mono (Nat.le_of_lt hgw)).trans hlo8);have HN8:=lh (hno8.mono (show w.heap.size≤_ from (HQ.go bB).out.2.2.2.size));clear hco8 hlo8 hch8 hno8))
   all_goals
    go_wp2_with fail
    go_ret
    exact ⟨by rw [HPE.out.1];rfl,A8,c8,by rw [HPE.out.2];exact HC8.out,HL8.out,HH8.out,by rw [HPE.out.2];exact HN8.out⟩
theorem put_any (xs:List En) (full ex:Bool) (l r:Pn) (ps:List Pn) (A B P:Option Addr) (c d p:Nat) (g base:Nat) (A0:Option Addr) (c0:Nat) (w:World) (h:CO elE 73 w g base A0 c0 xs full) (hg:g<base) (hw:base≤w.heap.size) (hl:xs.length≤32)
 (k1:RT w A c l.1) (k2:RT w B d r.1) (k3:BT w P p ps) (z1:szP l) (z2:r.1.length≤100000) (z3:∀ q∈ps,szP q) (hpl:ps.length≤5000) :
 Calls Tryz.prog 25 #[.pointer (some ⟨g,0,none⟩),.agg #[.bool ex,.slice A l.1.length c,.bool l.2,.slice B r.1.length d,.bool r.2],.slice P ps.length p] w (RetPut w (.slice A0 xs.length c0) g base (xs,full) l r ps) :=
 (put2_any xs full ex l r ps A B P c d p g base A0 c0 w h hg hw hl k1 k2 k3 z1 z2 z3 hpl).mono fun _ _ ⟨h1,A,c,h2,h3,h4,_⟩=>⟨h1,A,c,h2,h3,h4⟩
end Go.Proofs.YtelkmeiepliecaaGreatDoor
