/-
  Part 29 of the proof.
-/
import Derived.Test.YtelkmeiepliecaaGreatDoorV28
set_option linter.unusedSimpArgs false
set_option linter.unusedVariables false
set_option maxHeartbeats 16000000
namespace Go.Proofs.YtelkmeiepliecaaGreatDoor
open Go.RowKit
def putC (s:List En×Bool) (l r:Pn) (ps:List Pn):List En×Bool:=if (!rdE l ps&&!voidF l (redH l ps))=true then addC s (l,r,redH l ps) else s
def putE (l:Pn) (ps:List Pn):Int:=if rdE l ps=true then 72 else 0
def RetPut (w:World) (v:Value) (g base:Nat) (s:List En×Bool) (l r:Pn) (ps:List Pn) (x:Ending) (w':World):Prop :=
 x=.returned (.int .i64 (putE l ps))∧∃ A c,CO elE 73 w' g base A c (putC s l r ps).1 (putC s l r ps).2∧Below g w w'∧Ch (fun j=>j=g∨v.ownBlock=some j) w w'
def RetPut2 (w:World) (A0:Option Addr) (c0 g base:Nat) (s:List En×Bool) (l r:Pn) (ps:List Pn) (x:Ending) (w':World):Prop :=
 x=.returned (.int .i64 (putE l ps))∧∃ A c,CO elE 73 w' g base A c (putC s l r ps).1 (putC s l r ps).2∧Below g w w'∧Ch (fun j=>j=g∨(Value.slice A0 s.1.length c0).ownBlock=some j) w w'∧OwnN A0 s.1.length c0 A (putC s l r ps).1.length c w.heap.size
set_option maxRecDepth 100000 in
theorem put2_any (xs:List En) (full ex:Bool) (l r:Pn) (ps:List Pn) (A B P:Option Addr) (c d p:Nat) (g base:Nat) (A0:Option Addr) (c0:Nat) (w:World) (h:CO elE 73 w g base A0 c0 xs full) (hg:g<base) (hw:base≤w.heap.size) (hl:xs.length≤32)
 (k1:RT w A c l.1) (k2:RT w B d r.1) (k3:BT w P p ps) (z1:szP l) (z2:r.1.length≤100000) (z3:∀ q∈ps,szP q) (hpl:ps.length≤5000) :
 Calls Tryz.prog 25 #[.pointer (some ⟨g,0,none⟩),.agg #[.bool ex,.slice A l.1.length c,.bool l.2,.slice B r.1.length d,.bool r.2],.slice P ps.length p] w (RetPut2 w A0 c0 g base (xs,full) l r ps):=by
 have HRD:=lh (fun W (hW:Below w.heap.size w W)=>rdc_any A P c p l ps W (k1.below hW) (k3.below hW) z1 z3 hpl)
 have HCP:=lh (fun W (hW:Below w.heap.size w W)=>pcopy_any B d r.1 r.2 W (k2.below hW) z2)
 have HCO:=lh h
 have hown:Hid (∀ j,(Value.slice A0 xs.length c0).ownBlock=some j→base≤j∧j<w.heap.size):=lh (fun j hj=>h.2.own j hj)
 have hgw:=h.1.1.2.2
 have HS:At (BN w [(w.heap.size,[.bool ex,.slice A l.1.length c,.bool l.2,.slice B r.1.length d,.bool r.2])]) (w.alloc (.cells #[.bool ex,.slice A l.1.length c,.bool l.2,.slice B r.1.length d,.bool r.2] 57)) :=
  ((BN.nil w).push [.bool ex,.slice A l.1.length c,.bool l.2,.slice B r.1.length d,.bool r.2] 57 rfl (ns5 ns_bool ns_slice ns_bool ns_slice ns_bool)).at_
 clear h k1 k2 k3 z1 z2 z3 hpl
 obtain ⟨a0,a1,a2,a3,a4⟩:=(HS.out.get 0 rfl).c5
 cases he:rdE l ps with
 | true =>
  have HR2:=lh (fun W hW=>(HRD.out W hW).mono fun _ _ h=>h.1 he)
  have HPE:Hid (putE l ps=72∧putC (xs,full) l r ps=(xs,full)):=lh (by unfold putE putC;rw [he];exact ⟨rfl,rfl⟩)
  clear he HRD
  go_enter Tryz.func25,Tryz.ntmps25
  go_wp2_with (go_at_call 39;refine (HR2.out _ (HS.go bB).out.low).mono ?_;rintro x w1 ⟨rfl,hb1⟩;replace HS:=HS.go2 bB hb1;clear hb1)
  go_ret
  exact ⟨by rw [HPE.out.1];rfl,A0,c0,by rw [HPE.out.2];exact HCO.out.below (HS.go bB).out.low,(HS.go bB).out.low.mono (by omega),Ch.of_below (HS.go bB).out.low,by rw [HPE.out.2];exact OwnN.same _ _ _ _⟩
 | false =>
  have HR2:=lh (fun W hW=>(HRD.out W hW).mono fun _ _ h=>h.2 he)
  cases hv:voidF l (redH l ps) with
  | true =>
   have HPE:Hid (putE l ps=0∧putC (xs,full) l r ps=(xs,full)):=lh (by unfold putE putC;rw [he,hv];exact ⟨rfl,rfl⟩)
   rw [hv] at HR2
   clear he hv HRD
   go_enter Tryz.func25,Tryz.ntmps25
   go_wp2_with (go_at_call 39;refine (HR2.out _ (HS.go bB).out.low).mono ?_;rintro x w1 ⟨B6,d6,A6,c6,rfl,-,hb1⟩;replace HS:=HS.go2 bB hb1;clear hb1)
   go_ret
   exact ⟨by rw [HPE.out.1];rfl,A0,c0,by rw [HPE.out.2];exact HCO.out.below (HS.go bB).out.low,(HS.go bB).out.low.mono (by omega),Ch.of_below (HS.go bB).out.low,by rw [HPE.out.2];exact OwnN.same _ _ _ _⟩
  | false =>
   have HPE:Hid (putE l ps=0∧putC (xs,full) l r ps=addC (xs,full) (l,r,redH l ps)):=lh (by unfold putE putC;rw [he,hv];exact ⟨rfl,rfl⟩)
   rw [hv] at HR2
   clear he hv HRD
   go_enter Tryz.func25,Tryz.ntmps25
   go_upto_region 3 with (go_at_call 39;refine (HR2.out _ (HS.go bB).out.low).mono ?_;rintro x w1 ⟨B6,d6,A6,c6,rfl,⟨hrg,hfr⟩,hb1⟩;replace HS:=HS.go2 bB hb1;have HRG:=lh hrg;have HFR:Hid (∀ a,A6=some a→w.heap.size≤a.block):=lh (fun a e=>by have:=hfr a e;(try simp only [World.size_alloc] at this);omega);clear hb1 hrg hfr a0 a1 a2 a3 a4)
   have hs1:w.heap.size<w1.heap.size:=(HS.out.get 0 rfl).2.2
   have HQ:At (fun W=>BX W w1.heap.size [.slice B6 l.1.length d6,.bool l.2,.slice A6 (redH l ps).length c6]∧BX W w.heap.size [.bool ex,.slice A l.1.length c,.bool l.2,.slice B r.1.length d,.bool r.2]∧RG W (l,redH l ps) B6 d6 A6 c6∧Below w.heap.size w W) (w1.alloc (.cells #[.slice B6 l.1.length d6,.bool l.2,.slice A6 (redH l ps).length c6] 48)) :=
    ⟨fun X Y h hb=>⟨h.1.below hb,h.2.1.below hb,h.2.2.1.below hb,go3 h.2.2.2 hb⟩,BX.new w1 _ _ rfl,(HS.go (ba _ _)).out.get 0 rfl,HRG.out.below (ba _ _),(HS.go (ba _ _)).out.low⟩
   have HKS:Hid (∀ W,BX W w1.heap.size [.slice B6 l.1.length d6,.bool l.2,.slice A6 (redH l ps).length c6]→BX W w.heap.size [.bool ex,.slice A l.1.length c,.bool l.2,.slice B r.1.length d,.bool r.2]→(W.cell? ⟨w1.heap.size,0,none⟩=some (.slice B6 l.1.length d6)∧W.cell? ⟨w1.heap.size,1,none⟩=some (.bool l.2)∧W.cell? ⟨w1.heap.size,2,none⟩=some (.slice A6 (redH l ps).length c6))∧W.cell? ⟨w.heap.size,3,none⟩=some (.slice B r.1.length d)∧W.cell? ⟨w.heap.size,4,none⟩=some (.bool r.2)):=lh (fun W h k=>⟨h.c3,k.c5.2.2.2.1,k.c5.2.2.2.2⟩)
   have HN:Hid (∀ j,w.heap.size≤j→¬ (j=g∨(Value.slice A0 xs.length c0).ownBlock=some j)):=lh (fun j hj e=>by
    rcases e with e|e
    ·omega
    ·have:=(hown.out _ e).2;omega)
   have HAD:=lh (fun (E:Option Addr) (f:Nat) W (hW:Below w.heap.size w W) (k1:RG W (l,redH l ps) B6 d6 A6 c6) (k2:RT W E f r.1)=>addE2_any xs full (l,r,redH l ps) B6 E A6 d6 f c6 g base A0 c0 W (HCO.out.below hW) ⟨_,_,_,_,_,_,rfl,⟨k1.1,k2,k1.2⟩,fun _ a ea hk=>by
    have:=HFR.out a ea
    rcases hk with hk|hk
    ·have:=hown.out _ hk;omega
    ·omega⟩ hg (Nat.le_trans hw hW.size) hl)
   clear HS HRG
   obtain ⟨H,HH⟩:∃ H,Hid (redH l ps=H):=⟨_,lh rfl⟩
   rw [HH.out] at HQ HKS HAD HPE ⊢
   go_region_held3 (fun W=>(W.cell? ⟨w1.heap.size,0,none⟩=some (.slice B6 l.1.length d6)∧W.cell? ⟨w1.heap.size,1,none⟩=some (.bool l.2)∧W.cell? ⟨w1.heap.size,2,none⟩=some (.slice A6 H.length c6))∧W.cell? ⟨w.heap.size,3,none⟩=some (.slice B r.1.length d)∧W.cell? ⟨w.heap.size,4,none⟩=some (.bool r.2))
    (first|exact HKS.out _ HX1.out HX2.out|(with_reducible refine HKS.out _ (HQ.go ?_).out.1 (HQ.go ?_).out.2.1<;>(repeat (first|with_reducible exact Below.refl _ _|with_reducible apply Below.drew|with_reducible apply below_drewN|with_reducible apply below_al))<;>done)|go_keep)
    (first
     | (go_at_call 54;refine (HCP.out _ (HQ.go bB).out.2.2.2).mono ?_;rintro x w5 ⟨E,f,rfl,hrt,hb5⟩;replace HQ:=HQ.go2 bB hb5;have HRT:=lh hrt;clear hrt hb5)
     | (go_at_call 55;refine (HAD.out _ _ _ (HQ.go bB).out.2.2.2 (HQ.go bB).out.2.2.1 (HRT.out.below bB)).mono ?_;rintro x w8 ⟨rfl,A8,c8,hco8,hlo8,hch8,hno8⟩;have HX1:=lh ((HQ.go bB).out.1.ch (HN.out _ (Nat.le_of_lt hs1)) hch8);have HX2:=lh ((HQ.go bB).out.2.1.ch (HN.out _ (Nat.le_refl _)) hch8);have HC8:=lh hco8;have HH8:=lh ((Ch.of_below (HQ.go bB).out.2.2.2).trans hch8);have HL8:=lh (((HQ.go bB).out.2.2.2.mono (Nat.le_of_lt hgw)).trans hlo8);have HN8:=lh (hno8.mono (show w.heap.size≤_ from (HQ.go bB).out.2.2.2.size));clear hco8 hlo8 hch8 hno8))
   all_goals
    go_wp2_with fail
    go_ret
    exact ⟨by rw [HPE.out.1];rfl,A8,c8,by rw [HPE.out.2];exact HC8.out,HL8.out,HH8.out,by rw [HPE.out.2];exact HN8.out⟩
theorem put_any (xs:List En) (full ex:Bool) (l r:Pn) (ps:List Pn) (A B P:Option Addr) (c d p:Nat) (g base:Nat) (A0:Option Addr) (c0:Nat) (w:World) (h:CO elE 73 w g base A0 c0 xs full) (hg:g<base) (hw:base≤w.heap.size) (hl:xs.length≤32)
 (k1:RT w A c l.1) (k2:RT w B d r.1) (k3:BT w P p ps) (z1:szP l) (z2:r.1.length≤100000) (z3:∀ q∈ps,szP q) (hpl:ps.length≤5000) :
 Calls Tryz.prog 25 #[.pointer (some ⟨g,0,none⟩),.agg #[.bool ex,.slice A l.1.length c,.bool l.2,.slice B r.1.length d,.bool r.2],.slice P ps.length p] w (RetPut w (.slice A0 xs.length c0) g base (xs,full) l r ps) :=
 (put2_any xs full ex l r ps A B P c d p g base A0 c0 w h hg hw hl k1 k2 k3 z1 z2 z3 hpl).mono fun _ _ ⟨h1,A,c,h2,h3,h4,_⟩=>⟨h1,A,c,h2,h3,h4⟩
open Go.RowKit
theorem sv1 {w:World} {K:Nat→Prop} {A:Option Addr} {c:Nat} {m:List En} {g:Nat} (h:SV elE w K A c m) (hb:BX w g [.slice A m.length c]) (hk:¬ K g) {d:Nat} (hd:1≤d) (hd2:d≤9223372036854775807):SV elM w K (some ⟨g,0,none⟩) d [m] :=
 ⟨[[.slice A m.length c]],RR.of_bx hb (fun r hr=>by rw [List.mem_singleton.1 hr];rfl) hd hd2,Rel.single ⟨A,c,rfl,h⟩,fun _ a ea=>by cases ea;exact hk⟩
theorem addC_len {α:Type} {s:List α×Bool} {x:α} (h:s.1.length≤32):(addC s x).1.length≤32:=by
 unfold addC
 split
 ·exact h
 ·show (s.1++[x]).length≤32
  rw [List.length_append]
  simp only [List.length_cons,List.length_nil]
  omega
theorem putC_len {s:List En×Bool} {l r:Pn} {ps:List Pn} (h:s.1.length≤32):(putC s l r ps).1.length≤32:=by
 unfold putC
 split
 ·exact addC_len h
 ·exact h
def invC (m:List En):List En×Bool:=m.foldl (fun s e=>putC s e.2.1 e.1 (nrsR e.1 e.2.1 e.2.2)) ([],false)
theorem invC_snoc {m:List En} {k:Nat} {e:En} (he:m[k]? = some e):invC (m.take (k+1))=putC (invC (m.take k)) e.2.1 e.1 (nrsR e.1 e.2.1 e.2.2):=by
 unfold invC
 rw [List.take_add_one,he]
 simp [List.foldl_append]
theorem foldC_len {f:List En×Bool→En→List En×Bool} (hf:∀ s e,s.1.length≤32→(f s e).1.length≤32):∀ (m:List En) (s:List En×Bool),s.1.length≤32→(m.foldl f s).1.length≤32
 | [],s,h=>h
 | e::m,s,h=>foldC_len hf m _ (hf s e h)
theorem invC_len (m:List En):(invC m).1.length≤32:=foldC_len (fun s e h=>putC_len h) m _ (Nat.zero_le _)
def invF (m:List En):Bool:=m.any fun e=>rdE e.2.1 (nrsR e.1 e.2.1 e.2.2)
def invE (m:List En):Int:=if chkM m=0 then (if invF m=true then 72 else if (invC m).2=true then 72 else 0) else chkM m
def RetM9 (w:World) (er:Int) (m:List En) (x:Ending) (w':World):Prop :=
 (er=0→∃ A c,x=.returned (.tuple #[.slice A m.length c,.int .i64 0])∧SV elE w' (kL w.heap.size) A c m∧NilC A c∧Below w.heap.size w w') ∧
 (er≠0→x=.returned (.tuple #[.slice none 0 0,.int .i64 er])∧Below w.heap.size w w')
theorem chkM_zero {m:List En} (h:chkM m=0):∀ e∈m,nrsE e.1 e.2.1 e.2.2=false:=fun e he=>by
 unfold chkM at h
 by_cases h1:rgtsE m=true
 ·rw [if_pos h1] at h
  exact absurd h (by decide)
 ·unfold rgtsE at h1
  rw [Bool.not_eq_true,List.any_eq_false] at h1
  have:=h1 e he
  simpa using this
theorem putE_ne {l:Pn} {ps:List Pn} (h:rdE l ps=true):putE l ps=72:=if_pos h
theorem putE_eq {l:Pn} {ps:List Pn} (h:rdE l ps=false):putE l ps=0:=if_neg (by rw [h];decide)
theorem invF_yes {m:List En} {e:En} (he:e∈m) (h:rdE e.2.1 (nrsR e.1 e.2.1 e.2.2)=true) (hc:chkM m=0):invE m=72:=by
 unfold invE invF
 rw [if_pos hc,if_pos (List.any_eq_true.2 ⟨e,he,h⟩)]
theorem invF_no {m:List En} (h:∀ e∈m,rdE e.2.1 (nrsR e.1 e.2.1 e.2.2)=false) (hc:chkM m=0):invE m=if (invC m).2=true then 72 else 0:=by
 unfold invE invF
 rw [if_pos hc,if_neg]
 rw [Bool.not_eq_true,List.any_eq_false]
 intro e he
 rw [h e he]
 decide
set_option maxRecDepth 100000 in
theorem inverse_any (m:List En) (K:Nat→Prop) (A0:Option Addr) (c0:Nat) (w:World) (hsv:SV elE w K A0 c0 m) (ok:okM m) (hm:ML w) :
 Calls Tryz.prog 11 #[.slice A0 m.length c0] w (RetM9 w (invE m) (invC m).1):=by
 have HSV:=lh hsv
 have HOK:=lh ok.1
 have HM:=lh hm
 have hl:=ok.2
 have q1:=hsv.lenc
 have q2:=hsv.capc
 have HCK:Hid (∀ W,Below w.heap.size w W→BX W w.heap.size [.slice A0 m.length c0]→Calls Tryz.prog 23 #[.slice (some ⟨w.heap.size,0,none⟩) 1 1] W fun x w'=>x=.returned (.int .i64 (chkM m))∧Below W.heap.size W w'):=lh (fun W hW hb=>by
  have h:=mcheck_any [m] kN (some ⟨w.heap.size,0,none⟩) 1 W (sv1 (hsv.weak.below hW) hb (fun h=>h) (Nat.le_refl _) (by omega)) (fun q hq=>by rw [List.mem_singleton.1 hq];exact ok) (hm.below hW)
  rw [show chkMs [m]=chkM m from by unfold chkMs;split<;>simp [chkMs, *]] at h
  exact h)
 clear hsv ok hm
 by_cases hz:chkM m=0
 ·have HNR:=lh (chkM_zero hz)
  have HIY:=lh (fun e he h=>invF_yes (m:=m) (e:=e) he h hz)
  have HIN:=lh (fun h=>invF_no (m:=m) h hz)
  rw [hz] at HCK
  clear hz
  go_enter Tryz.func11,Tryz.ntmps11
  go_wp2_with (go_at_call 23;refine (HCK.out _ bB (BX.new w [_] _ rfl)).mono ?_;rintro x w1 ⟨rfl,hb1⟩;have HB1:=lh (go3 (ba _ _) hb1);clear hb1)
  have hw1:w.heap.size≤w1.heap.size:=HB1.out.size
  go_loopw [19] (fun s wr=>∃ (k:Nat) (Ac:Option Addr) (cc:Nat),k≤m.length∧s=.int .i64 k∧Hid (CO elE 73 wr w1.heap.size (w1.heap.size+1) Ac cc (invC (m.take k)).1 (invC (m.take k)).2∧Below w.heap.size w wr)∧Hid (∀ j e,j<k→m[j]? = some e→rdE e.2.1 (nrsR e.1 e.2.1 e.2.2)=false)) (fun s _=>m.length-(intOf s).toNat)
  case atStart=>exact ⟨0,none,0,Nat.zero_le _,rfl,lh ⟨CO.new elE 73 _ w1,go3 HB1.out (ba _ _)⟩,lh (fun j e hj=>by omega)⟩
  case round =>
   obtain ⟨k,Ac,cc,hk,rfl,HQ0,HRF⟩:=hrel
   have hwr:=HQ0.out.1.1.1.2.2
   by_cases hlt:k<m.length
   ·obtain ⟨e,he⟩:∃ e,m[k]? = some e:=⟨_,gE hlt⟩
    obtain ⟨b,o,A,c,B,d,H,n,rfl,x0,x1,x2,x3,x4,heg,-⟩:=(HSV.out.below HQ0.out.2).en he
    have hem:=mG he
    have HOE:=lh (HOK.out e hem)
    have HRT:=lh (fun W (h:Below wr.heap.size wr W)=>(right_any e A B H c d n W (heg.below h) (HOK.out e hem).1 (szE_up (by omega) (HOK.out e hem).2) (HM.out.below (go3 HQ0.out.2 h))).mono fun _ _ h=>h.1 (HNR.out e hem))
    have HSN:=lh (invC_snoc he)
    have HE:=lh he
    have hxl:=invC_len (m.take k)
    have HQ:At (fun W=>CO elE 73 W w1.heap.size (w1.heap.size+1) Ac cc (invC (m.take k)).1 (invC (m.take k)).2∧Below w.heap.size w W∧RT W A c e.1.1∧RT W B d e.2.1.1∧Below wr.heap.size wr W∧BX W wr.heap.size (enV e A c B d H n)) (wr.alloc (.cells #[.slice A e.1.1.length c,.bool e.1.2,.slice B e.2.1.1.length d,.bool e.2.1.2,.slice H e.2.2.length n] 73)) :=
     ⟨fun X Y h hb=>⟨h.1.below hb,go3 h.2.1 hb,h.2.2.1.below hb,h.2.2.2.1.below hb,go3 h.2.2.2.2.1 hb,h.2.2.2.2.2.below hb⟩,HQ0.out.1.below (ba _ _),go3 HQ0.out.2 (ba _ _),heg.1.below (ba _ _),heg.2.1.below (ba _ _),ba _ _,BX.new wr _ _ rfl⟩
    have HPT:=lh (fun (A3:Option Addr) (c3:Nat) W (h1:CO elE 73 W w1.heap.size (w1.heap.size+1) Ac cc (invC (m.take k)).1 (invC (m.take k)).2) (h2:w1.heap.size+1≤W.heap.size) k1 k2 k3=>put_any (invC (m.take k)).1 (invC (m.take k)).2 false e.2.1 e.1 (nrsR e.1 e.2.1 e.2.2) B A A3 d c c3 w1.heap.size (w1.heap.size+1) Ac cc W h1 (Nat.lt_succ_self _) h2 hxl k1 k2 k3 (szP_of (ruleE_zero.1 HOE.out.1.1).2.1 HOE.out.2.2.1 (by omega)) (by have h:okPn e.1:=HOE.out.1.2.1;have:=(okPn_len h).2;omega) (fun q hq=>szP_of (nrsR_okp q hq) (nrsR_sz HOE.out.2.1 HOE.out.2.2.1 HOE.out.2.2.2 q hq) (by omega)) (by have:=nrsR_len e.1 e.2.1 e.2.2;have:=HOE.out.1.2.2.2;simp only at this;omega))
    clear he heg hem HQ0
    cases hrd:rdE e.2.1 (nrsR e.1 e.2.1 e.2.2) with
    | true =>
     have HY:=lh (HIY.out e (mG HE.out) hrd)
     have HPE:=lh (putE_ne hrd)
     clear hrd
     go_wp2_with (first
      | (go_at_call 24;refine (HRT.out _ (HQ.go bB).out.2.2.2.2.1).mono ?_;rintro x w2 ⟨A3,c3,rfl,⟨hbt,hfr⟩,hb2⟩;replace HQ:=HQ.go2 bB hb2;have HBT:=lh hbt;clear hb2 hbt hfr x0 x1 x2 x3 x4;obtain ⟨x0,x1,x2,x3,x4⟩:=HQ.out.2.2.2.2.2.c5;have hs2:wr.heap.size<w2.heap.size:=HQ.out.2.2.2.2.2.2.2)
      | (go_at_call 25;refine (HPT.out _ _ _ (HQ.go bB).out.1 (Nat.le_trans (Nat.succ_le_of_lt hwr) (HQ.go bB).out.2.2.2.2.1.size) (HQ.go bB).out.2.2.2.1 (HQ.go bB).out.2.2.1 (HBT.out.below bB)).mono ?_;rintro x w3 ⟨rfl,A4,c4,hco,hlo,-⟩;have HB3:=lh ((HQ.go bB).out.2.1.trans (hlo.mono hw1));clear hco hlo;rw [HPE.out]))
     go_ret2
     exact ⟨fun h=>absurd (HY.out.symm.trans h) (by decide),fun _=>⟨by rw [HY.out];rfl,HB3.out⟩⟩
    | false =>
     have HPE:=lh (putE_eq hrd)
     have HRF2:Hid (∀ j e,j<k+1→m[j]? = some e→rdE e.2.1 (nrsR e.1 e.2.1 e.2.2)=false):=lh (fun j q hj hq=>by
      rcases Nat.lt_or_ge j k with h1|h1
      ·exact HRF.out j q h1 hq
      ·obtain rfl:j=k:=by omega
       rw [HE.out] at hq
       cases hq
       exact hrd)
     clear hrd HRF
     go_wp2_with (first
      | (go_at_call 24;refine (HRT.out _ (HQ.go bB).out.2.2.2.2.1).mono ?_;rintro x w2 ⟨A3,c3,rfl,⟨hbt,hfr⟩,hb2⟩;replace HQ:=HQ.go2 bB hb2;have HBT:=lh hbt;clear hb2 hbt hfr x0 x1 x2 x3 x4;obtain ⟨x0,x1,x2,x3,x4⟩:=HQ.out.2.2.2.2.2.c5;have hs2:wr.heap.size<w2.heap.size:=HQ.out.2.2.2.2.2.2.2)
      | (go_at_call 25;refine (HPT.out _ _ _ (HQ.go bB).out.1 (Nat.le_trans (Nat.succ_le_of_lt hwr) (HQ.go bB).out.2.2.2.2.1.size) (HQ.go bB).out.2.2.2.1 (HQ.go bB).out.2.2.1 (HBT.out.below bB)).mono ?_;rintro x w3 ⟨rfl,A4,c4,hco,hlo,-⟩;have HB3:=lh ((HQ.go bB).out.2.1.trans (hlo.mono hw1));have HC3:=lh hco;clear hco hlo;rw [HPE.out]))
     go_roundw
     case rel=>exact ⟨k+1,A4,c4,by omega,by go_num,lh ⟨by rw [HSN.out];exact HC3.out,HB3.out⟩,HRF2⟩
     case measure=>simp [intOf];omega
   ·obtain rfl:k=m.length:=by omega
    rw [List.take_length] at HQ0
    have HI:=lh (HIN.out (fun e he=>by
     obtain ⟨j,hj⟩:=List.mem_iff_getElem?.1 he
     exact HRF.out j e (sI.1 hj).1 hj))
    have HRS:=lh (resE_any (invC m).1 (invC m).2 w1.heap.size (w1.heap.size+1) Ac cc wr HQ0.out.1)
    have HLB:=lh HQ0.out.2
    have HSO:=lh HQ0.out.1.2
    clear HRF HQ0
    cases hf:(invC m).2 with
    | true =>
     rw [hf] at HRS HI
     clear hf
     go_wp2_with (go_at_call 26;refine HRS.out.mono ?_;rintro x w5 ⟨rfl,hb5⟩;have HB5:=lh hb5;clear hb5;rw [if_pos rfl,if_pos rfl])
     go_ret2
     exact ⟨fun h=>absurd (HI.out.symm.trans h) (by decide),fun _=>⟨by rw [HI.out];rfl,go3 HLB.out HB5.out⟩⟩
    | false =>
     rw [hf] at HRS HI
     clear hf
     go_wp2_with (go_at_call 26;refine HRS.out.mono ?_;rintro x w5 ⟨rfl,hb5⟩;have HB5:=lh hb5;clear hb5;rw [if_neg (by decide),if_neg (by decide)])
     go_ret2
     obtain ⟨A9,c9,e9,h1,h2,h3⟩:=HSO.out.read (fun b hb h=>by omega)
     cases e9
     exact ⟨fun _=>⟨Ac,cc,rfl,(h1.mono (fun b hb=>Nat.le_trans (Nat.le_of_lt hb) hw1)).below HB5.out,h2,go3 HLB.out HB5.out⟩,fun h=>absurd HI.out h⟩
 ·have hneb:(chkM m != 0)=true:=by simpa using hz
  have HE:Hid (invE m=chkM m):=lh (if_neg hz)
  have HZ:=lh hz
  clear hz
  go_enter Tryz.func11,Tryz.ntmps11
  go_wp2_with (go_at_call 23;refine (HCK.out _ bB (BX.new w [_] _ rfl)).mono ?_;rintro x w1 ⟨rfl,hb1⟩;have HB1:=lh (go3 (ba _ _) hb1);clear hb1)
  go_ret2
  exact ⟨fun h=>absurd (HE.out.symm.trans h) HZ.out,fun _=>⟨by rw [HE.out];rfl,HB1.out⟩⟩
open Go.RowKit
def forE (e:En) (s:ByteArray):ByteArray×Bool:=(fwdT e.1.1 e.1.2 e.2.1.1 e.2.1.2 s,fwdO e.1.1 e.1.2 e.2.1.1 e.2.1.2 s)
def forL:List En→ByteArray→ByteArray×Bool
 | [],_=>(⟨#[]⟩,false)
 | e::m,s=>if regH e.1 e.2.2 s=true then forE e s else forL m s
def forM (m:List En) (s:ByteArray):ByteArray×Bool:=if chkM m=0 then forL m s else (⟨#[]⟩,false)
theorem forL_yes {s:ByteArray}:∀ {m:List En} {k:Nat} {e:En},m[k]? = some e→(∀ j q,j<k→m[j]? = some q→regH q.1 q.2.2 s=false)→regH e.1 e.2.2 s=true→forL m s=forE e s
 | [],k,e,h,_,_=>by simp at h
 | x::m,0,e,h,_,hn=>by
  have:x=e:=by simpa using h
  subst this
  exact if_pos hn
 | x::m,k+1,e,h,h0,hn=>by
  have hx:=h0 0 x (by omega) rfl
  unfold forL
  rw [if_neg (by rw [hx];decide)]
  exact forL_yes (k:=k) (by simpa using h) (fun j q hj hq=>h0 (j+1) q (by omega) (by simpa using hq)) hn
theorem forL_no {s:ByteArray}:∀ {m:List En},(∀ j q,j<m.length→m[j]? = some q→regH q.1 q.2.2 s=false)→forL m s=(⟨#[]⟩,false)
 | [],_=>rfl
 | x::m,h0=>by
  have hx:=h0 0 x (by simp) rfl
  unfold forL
  rw [if_neg (by rw [hx];decide)]
  exact forL_no (fun j q hj hq=>h0 (j+1) q (by simp;omega) (by simpa using hq))
theorem chk1 (m:List En) (A0:Option Addr) (c0:Nat) (w:World) (K:Nat→Prop) (hsv:SV elE w K A0 c0 m) (ok:okM m) (hm:ML w) (g:Nat):∀ W,Below w.heap.size w W→BX W g [.slice A0 m.length c0]→Calls Tryz.prog 23 #[.slice (some ⟨g,0,none⟩) 1 1] W fun x w'=>x=.returned (.int .i64 (chkM m))∧Below W.heap.size W w':=fun W hW hb=>by
 have h:=mcheck_any [m] kN (some ⟨g,0,none⟩) 1 W (sv1 (hsv.weak.below hW) hb (fun h=>h) (Nat.le_refl _) (by omega)) (fun q hq=>by rw [List.mem_singleton.1 hq];exact ok) (hm.below hW)
 rw [show chkMs [m]=chkM m from by unfold chkMs;split<;>simp [chkMs, *]] at h
 exact h
set_option maxRecDepth 100000 in
theorem mforward_any (m:List En) (s:ByteArray) (K:Nat→Prop) (A0:Option Addr) (c0:Nat) (w:World) (hsv:SV elE w K A0 c0 m) (ok:okM m) (hs:s.size≤5000) (hm:ML w) :
 Calls Tryz.prog 15 #[.slice A0 m.length c0,.string s] w fun x w'=>x=.returned (.tuple #[.string (forM m s).1,.bool (forM m s).2])∧Below w.heap.size w w':=by
 have HSV:=lh hsv
 have HOK:=lh ok.1
 have HM:=lh hm
 have hl:=ok.2
 have q1:=hsv.lenc
 have q2:=hsv.capc
 have HCK:=lh (chk1 m A0 c0 w K hsv ok hm w.heap.size)
 clear hsv ok hm
 by_cases hz:chkM m=0
 ·have HFM:Hid (forM m s=forL m s):=lh (if_pos hz)
  rw [hz] at HCK
  clear hz
  go_enter Tryz.func15,Tryz.ntmps15
  go_wp2_with (go_at_call 23;refine (HCK.out _ bB (BX.new w [_] _ rfl)).mono ?_;rintro x w1 ⟨rfl,hb1⟩;have HB1:=lh (go3 (ba _ _) hb1);clear hb1)
  go_loopw [14] (fun v wr=>∃ k:Nat,k≤m.length∧v=.int .i64 k∧Hid (Below w.heap.size w wr)∧Hid (∀ j q,j<k→m[j]? = some q→regH q.1 q.2.2 s=false)) (fun v _=>m.length-(intOf v).toNat)
  case atStart=>exact ⟨0,Nat.zero_le _,rfl,HB1,lh (fun j e hj=>by omega)⟩
  case round =>
   clear HB1
   obtain ⟨k,hk,rfl,HB,HNO⟩:=hrel
   by_cases hlt:k<m.length
   ·obtain ⟨e,he⟩:∃ e,m[k]? = some e:=⟨_,gE hlt⟩
    obtain ⟨b,o,A,c,B,d,H,n,rfl,x0,x1,x2,x3,x4,heg,-⟩:=(HSV.out.below HB.out).en he
    have hem:=mG he
    have HOE:=lh (HOK.out e hem)
    have HE:=lh he
    have HLE:=lh (fun W=>left_any A B H e.1.1.length c e.2.1.1.length d e.2.2.length n e.1.2 e.2.1.2 W)
    have HLI:=lh (fun W=>line_any A B H e.1.1.length c e.2.1.1.length d e.2.2.length n e.1.2 e.2.1.2 W)
    have HHS:=lh (fun W (h:Below wr.heap.size wr W)=>has_any A H c n e.1 e.2.2 s W (heg.1.below h) (heg.2.2.below h) (szP_of HOE.out.1.2.1 HOE.out.2.1 (by omega)) (fun q hq=>szP_of (HOE.out.1.2.2.1 q hq) (HOE.out.2.2.2 q hq) (by omega)) hs (HM.out.below (go3 HB.out h)))
    have HFW:=lh (fun W (h:Below wr.heap.size wr W)=>forward_any false A B c d e.1.1 e.2.1.1 e.1.2 e.2.1.2 s W (heg.1.below h) (heg.2.1.below h) (HM.out.below (go3 HB.out h)) (fun x hx=>Nat.le_trans (HOE.out.2.1 x hx) (by omega)) (fun x hx=>Nat.le_trans (HOE.out.2.2.1 x hx) (by omega)) hs)
    unfold ruV at HFW
    have HQ:At (fun W=>Below w.heap.size w W∧Below wr.heap.size wr W∧BX W wr.heap.size (enV e A c B d H n)) (wr.alloc (.cells #[.slice A e.1.1.length c,.bool e.1.2,.slice B e.2.1.1.length d,.bool e.2.1.2,.slice H e.2.2.length n] 73)) :=
     ⟨fun X Y h hb=>⟨go3 h.1 hb,go3 h.2.1 hb,h.2.2.below hb⟩,go3 HB.out (ba _ _),ba _ _,BX.new wr _ _ rfl⟩
    clear he heg hem HB
    cases hr:regH e.1 e.2.2 s with
    | true =>
     rw [hr] at HHS
     have HY:Hid (forM m s=(fwdT e.1.1 e.1.2 e.2.1.1 e.2.1.2 s,fwdO e.1.1 e.1.2 e.2.1.1 e.2.1.2 s)):=lh (HFM.out.trans (forL_yes HE.out HNO.out hr))
     generalize fwdT e.1.1 e.1.2 e.2.1.1 e.2.1.2 s=T at *
     generalize fwdO e.1.1 e.1.2 e.2.1.1 e.2.1.2 s=T2 at *
     clear hr
     go_wp2_with (first
      | (go_at_call 36;refine (HLE.out _).mono ?_;rintro x w2 ⟨rfl,hb2⟩;replace HQ:=HQ.go2 bB hb2;clear hb2)
      | (go_at_call 35;refine (HHS.out _ (HQ.go bB).out.2.1).mono ?_;rintro x w3 ⟨rfl,hb3⟩;replace HQ:=HQ.go2 bB hb3;clear hb3 x0 x1 x2 x3 x4;obtain ⟨x0,x1,x2,x3,x4⟩:=HQ.out.2.2.c5)
      | (go_at_call 29;refine (HLI.out _).mono ?_;rintro x w4 ⟨rfl,hb4⟩;replace HQ:=HQ.go2 bB hb4;clear hb4)
      | (go_at_call 37;refine (HFW.out _ (HQ.go bB).out.2.1).mono ?_;rintro x w5 ⟨rfl,hb5⟩;replace HQ:=HQ.go2 bB hb5;clear hb5))
     go_ret2
     exact ⟨by rw [HY.out];rfl,HQ.out.1⟩
    | false =>
     rw [hr] at HHS
     have HNO2:Hid (∀ j q,j<k+1→m[j]? = some q→regH q.1 q.2.2 s=false):=lh (fun j q hj hq=>by
      rcases Nat.lt_or_ge j k with h1|h1
      ·exact HNO.out j q h1 hq
      ·obtain rfl:j=k:=by omega
       rw [HE.out] at hq
       cases hq
       exact hr)
     clear hr HNO
     go_wp2_with (first
      | (go_at_call 36;refine (HLE.out _).mono ?_;rintro x w2 ⟨rfl,hb2⟩;replace HQ:=HQ.go2 bB hb2;clear hb2)
      | (go_at_call 35;refine (HHS.out _ (HQ.go bB).out.2.1).mono ?_;rintro x w3 ⟨rfl,hb3⟩;replace HQ:=HQ.go2 bB hb3;clear hb3 x0 x1 x2 x3 x4))
     go_roundw
     case rel=>exact ⟨k+1,by omega,by go_num,lh HQ.out.1,HNO2⟩
     case measure=>simp [intOf];omega
   ·obtain rfl:k=m.length:=by omega
    have HY:=lh (HFM.out.trans (forL_no HNO.out))
    clear HNO
    go_wp2_with fail
    go_ret2
    exact ⟨by rw [HY.out];rfl,HB.out⟩
 ·have hneb:(chkM m != 0)=true:=by simpa using hz
  have HY:Hid (forM m s=(⟨#[]⟩,false)):=lh (if_neg hz)
  clear hz
  go_enter Tryz.func15,Tryz.ntmps15
  go_wp2_with (go_at_call 23;refine (HCK.out _ bB (BX.new w [_] _ rfl)).mono ?_;rintro x w1 ⟨rfl,hb1⟩;have HB1:=lh (go3 (ba _ _) hb1);clear hb1)
  go_ret2
  exact ⟨by rw [HY.out];rfl,HB1.out⟩
end Go.Proofs.YtelkmeiepliecaaGreatDoor
