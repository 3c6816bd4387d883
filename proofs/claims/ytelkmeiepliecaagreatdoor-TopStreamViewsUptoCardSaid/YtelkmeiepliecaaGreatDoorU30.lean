/-
  Part 30 of the proof.
-/
import Derived.Test.YtelkmeiepliecaaGreatDoorU29
import Derived.RangeFuncNested
import Derived.RangeFuncBound
import Derived.RangeFuncCalls
import Derived.RangeFuncLeaves
import Derived.OwnWalkIn
import Derived.TacticsInMore
import Derived.LoopNIn
import Derived.LoopIn
set_option linter.unusedSimpArgs false
set_option linter.unusedVariables false
set_option maxHeartbeats 16000000
namespace Go.Proofs.YtelkmeiepliecaaGreatDoor
open Go.RowKit
theorem sv1 {w:World} {K:Nat→Prop} {A:Option Addr} {c:Nat} {m:List En} {g:Nat} (h:SV elE w K A c m) (hb:BX w g [.slice A m.length c]) (hk:¬ K g) {d:Nat} (hd:1≤d) (hd2:d≤9223372036854775807):SV elM w K (some ⟨g,0,none⟩) d [m] :=
 ⟨[[.slice A m.length c]],RR.of_bx hb (fun r hr=>by rw [List.mem_singleton.1 hr];rfl) hd hd2,Rel.single ⟨A,c,rfl,h⟩,fun _ a ea=>by cases ea;exact hk⟩
theorem addC_len {α:Type} {s:List α×Bool} {x:α} (h:s.1.length≤32):(addC s x).1.length≤32:=by
 unfold addC
 split
 ·exact h
 ·show (s.1++[x]).length≤32
  rw [List.length_append]
  simp only [List.length_cons,List.length_nil]
  omega
theorem putC_len {s:List En×Bool} {l r:Pn} {ps:List Pn} (h:s.1.length≤32):(putC s l r ps).1.length≤32:=by
 unfold putC
 split
 ·exact addC_len h
 ·exact h
def invC (m:List En):List En×Bool:=m.foldl (fun s e=>putC s e.2.1 e.1 (nrsR e.1 e.2.1 e.2.2)) ([],false)
theorem invC_snoc {m:List En} {k:Nat} {e:En} (he:m[k]? = some e):invC (m.take (k+1))=putC (invC (m.take k)) e.2.1 e.1 (nrsR e.1 e.2.1 e.2.2):=by
 unfold invC
 rw [List.take_add_one,he]
 simp [List.foldl_append]
theorem foldC_len {f:List En×Bool→En→List En×Bool} (hf:∀ s e,s.1.length≤32→(f s e).1.length≤32):∀ (m:List En) (s:List En×Bool),s.1.length≤32→(m.foldl f s).1.length≤32
 | [],s,h=>h
 | e::m,s,h=>foldC_len hf m _ (hf s e h)
theorem invC_len (m:List En):(invC m).1.length≤32:=foldC_len (fun s e h=>putC_len h) m _ (Nat.zero_le _)
def invF (m:List En):Bool:=m.any fun e=>rdE e.2.1 (nrsR e.1 e.2.1 e.2.2)
def invE (m:List En):Int:=if chkM m=0 then (if invF m=true then 72 else if (invC m).2=true then 72 else 0) else chkM m
def RetM9 (w:World) (er:Int) (m:List En) (x:Ending) (w':World):Prop :=
 (er=0→∃ A c,x=.returned (.tuple #[.slice A m.length c,.int .i64 0])∧SV elE w' (kL w.heap.size) A c m∧NilC A c∧Below w.heap.size w w') ∧
 (er≠0→x=.returned (.tuple #[.slice none 0 0,.int .i64 er])∧Below w.heap.size w w')
theorem chkM_zero {m:List En} (h:chkM m=0):∀ e∈m,nrsE e.1 e.2.1 e.2.2=false:=fun e he=>by
 unfold chkM at h
 by_cases h1:rgtsE m=true
 ·rw [if_pos h1] at h
  exact absurd h (by decide)
 ·unfold rgtsE at h1
  rw [Bool.not_eq_true,List.any_eq_false] at h1
  have:=h1 e he
  simpa using this
theorem putE_ne {l:Pn} {ps:List Pn} (h:rdE l ps=true):putE l ps=72:=if_pos h
theorem putE_eq {l:Pn} {ps:List Pn} (h:rdE l ps=false):putE l ps=0:=if_neg (by rw [h];decide)
theorem invF_yes {m:List En} {e:En} (he:e∈m) (h:rdE e.2.1 (nrsR e.1 e.2.1 e.2.2)=true) (hc:chkM m=0):invE m=72:=by
 unfold invE invF
 rw [if_pos hc,if_pos (List.any_eq_true.2 ⟨e,he,h⟩)]
theorem invF_no {m:List En} (h:∀ e∈m,rdE e.2.1 (nrsR e.1 e.2.1 e.2.2)=false) (hc:chkM m=0):invE m=if (invC m).2=true then 72 else 0:=by
 unfold invE invF
 rw [if_pos hc,if_neg]
 rw [Bool.not_eq_true,List.any_eq_false]
 intro e he
 rw [h e he]
 decide
set_option maxRecDepth 100000 in
theorem inverse_any (m:List En) (K:Nat→Prop) (A0:Option Addr) (c0:Nat) (w:World) (hsv:SV elE w K A0 c0 m) (ok:okM m) (hm:ML w) :
 Calls Tryz.prog 11 #[.slice A0 m.length c0] w (RetM9 w (invE m) (invC m).1):=by
 have HSV:=lh hsv
 have HOK:=lh ok.1
 have HM:=lh hm
 have hl:=ok.2
 have q1:=hsv.lenc
 have q2:=hsv.capc
 have HCK:Hid (∀ W,Below w.heap.size w W→BX W w.heap.size [.slice A0 m.length c0]→Calls Tryz.prog 23 #[.slice (some ⟨w.heap.size,0,none⟩) 1 1] W fun x w'=>x=.returned (.int .i64 (chkM m))∧Below W.heap.size W w'):=lh (fun W hW hb=>by
  have h:=mcheck_any [m] kN (some ⟨w.heap.size,0,none⟩) 1 W (sv1 (hsv.weak.below hW) hb (fun h=>h) (Nat.le_refl _) (by omega)) (fun q hq=>by rw [List.mem_singleton.1 hq];exact ok) (hm.below hW)
  rw [show chkMs [m]=chkM m from by unfold chkMs;split<;>simp [chkMs, *]] at h
  exact h)
 clear hsv ok hm
 by_cases hz:chkM m=0
 ·have HNR:=lh (chkM_zero hz)
  have HIY:=lh (fun e he h=>invF_yes (m:=m) (e:=e) he h hz)
  have HIN:=lh (fun h=>invF_no (m:=m) h hz)
  rw [hz] at HCK
  clear hz
  go_enter Tryz.func11,Tryz.ntmps11
  go_wp2_with (go_at_call 23;refine (HCK.out _ bB (BX.new w [_] _ rfl)).mono ?_;rintro x w1 ⟨rfl,hb1⟩;have HB1:=lh (go3 (ba _ _) hb1);clear hb1)
  have hw1:w.heap.size≤w1.heap.size:=HB1.out.size
  go_loopw [19] (fun s wr=>∃ (k:Nat) (Ac:Option Addr) (cc:Nat),k≤m.length∧s=.int .i64 k∧Hid (CO elE 73 wr w1.heap.size (w1.heap.size+1) Ac cc (invC (m.take k)).1 (invC (m.take k)).2∧Below w.heap.size w wr)∧Hid (∀ j e,j<k→m[j]? = some e→rdE e.2.1 (nrsR e.1 e.2.1 e.2.2)=false)) (fun s _=>m.length-(intOf s).toNat)
  case atStart=>exact ⟨0,none,0,Nat.zero_le _,rfl,lh ⟨CO.new elE 73 _ w1,go3 HB1.out (ba _ _)⟩,lh (fun j e hj=>by omega)⟩
  case round =>
   obtain ⟨k,Ac,cc,hk,rfl,HQ0,HRF⟩:=hrel
   have hwr:=HQ0.out.1.1.1.2.2
   by_cases hlt:k<m.length
   ·obtain ⟨e,he⟩:∃ e,m[k]? = some e:=⟨_,gE hlt⟩
    obtain ⟨b,o,A,c,B,d,H,n,rfl,x0,x1,x2,x3,x4,heg,-⟩:=(HSV.out.below HQ0.out.2).en he
    have hem:=mG he
    have HOE:=lh (HOK.out e hem)
    have HRT:=lh (fun W (h:Below wr.heap.size wr W)=>(right_any e A B H c d n W (heg.below h) (HOK.out e hem).1 (szE_up (by omega) (HOK.out e hem).2) (HM.out.below (go3 HQ0.out.2 h))).mono fun _ _ h=>h.1 (HNR.out e hem))
    have HSN:=lh (invC_snoc he)
    have HE:=lh he
    have hxl:=invC_len (m.take k)
    have HQ:At (fun W=>CO elE 73 W w1.heap.size (w1.heap.size+1) Ac cc (invC (m.take k)).1 (invC (m.take k)).2∧Below w.heap.size w W∧RT W A c e.1.1∧RT W B d e.2.1.1∧Below wr.heap.size wr W∧BX W wr.heap.size (enV e A c B d H n)) (wr.alloc (.cells #[.slice A e.1.1.length c,.bool e.1.2,.slice B e.2.1.1.length d,.bool e.2.1.2,.slice H e.2.2.length n] 73)) :=
     ⟨fun X Y h hb=>⟨h.1.below hb,go3 h.2.1 hb,h.2.2.1.below hb,h.2.2.2.1.below hb,go3 h.2.2.2.2.1 hb,h.2.2.2.2.2.below hb⟩,HQ0.out.1.below (ba _ _),go3 HQ0.out.2 (ba _ _),heg.1.below (ba _ _),heg.2.1.below (ba _ _),ba _ _,BX.new wr _ _ rfl⟩
    have HPT:=lh (fun (A3:Option Addr) (c3:Nat) W (h1:CO elE 73 W w1.heap.size (w1.heap.size+1) Ac cc (invC (m.take k)).1 (invC (m.take k)).2) (h2:w1.heap.size+1≤W.heap.size) k1 k2 k3=>put_any (invC (m.take k)).1 (invC (m.take k)).2 false e.2.1 e.1 (nrsR e.1 e.2.1 e.2.2) B A A3 d c c3 w1.heap.size (w1.heap.size+1) Ac cc W h1 (Nat.lt_succ_self _) h2 hxl k1 k2 k3 (szP_of (ruleE_zero.1 HOE.out.1.1).2.1 HOE.out.2.2.1 (by omega)) (by have h:okPn e.1:=HOE.out.1.2.1;have:=(okPn_len h).2;omega) (fun q hq=>szP_of (nrsR_okp q hq) (nrsR_sz HOE.out.2.1 HOE.out.2.2.1 HOE.out.2.2.2 q hq) (by omega)) (by have:=nrsR_len e.1 e.2.1 e.2.2;have:=HOE.out.1.2.2.2;simp only at this;omega))
    clear he heg hem HQ0
    cases hrd:rdE e.2.1 (nrsR e.1 e.2.1 e.2.2) with
    | true =>
     have HY:=lh (HIY.out e (mG HE.out) hrd)
     have HPE:=lh (putE_ne hrd)
     clear hrd
     go_wp2_with (first
      | (go_at_call 24;refine (HRT.out _ (HQ.go bB).out.2.2.2.2.1).mono ?_;rintro x w2 ⟨A3,c3,rfl,⟨hbt,hfr⟩,hb2⟩;replace HQ:=HQ.go2 bB hb2;have HBT:=lh hbt;clear hb2 hbt hfr x0 x1 x2 x3 x4;obtain ⟨x0,x1,x2,x3,x4⟩:=HQ.out.2.2.2.2.2.c5;have hs2:wr.heap.size<w2.heap.size:=HQ.out.2.2.2.2.2.2.2)
      | (go_at_call 25;refine (HPT.out _ _ _ (HQ.go bB).out.1 (Nat.le_trans (Nat.succ_le_of_lt hwr) (HQ.go bB).out.2.2.2.2.1.size) (HQ.go bB).out.2.2.2.1 (HQ.go bB).out.2.2.1 (HBT.out.below bB)).mono ?_;rintro x w3 ⟨rfl,A4,c4,hco,hlo,-⟩;have HB3:=lh ((HQ.go bB).out.2.1.trans (hlo.mono hw1));clear hco hlo;rw [HPE.out]))
     go_ret2
     exact ⟨fun h=>absurd (HY.out.symm.trans h) (by decide),fun _=>⟨by rw [HY.out];rfl,HB3.out⟩⟩
    | false =>
     have HPE:=lh (putE_eq hrd)
     have HRF2:Hid (∀ j e,j<k+1→m[j]? = some e→rdE e.2.1 (nrsR e.1 e.2.1 e.2.2)=false):=lh (fun j q hj hq=>by
      rcases Nat.lt_or_ge j k with h1|h1
      ·exact HRF.out j q h1 hq
      ·obtain rfl:j=k:=by omega
       rw [HE.out] at hq
       cases hq
       exact hrd)
     clear hrd HRF
     go_wp2_with (first
      | (go_at_call 24;refine (HRT.out _ (HQ.go bB).out.2.2.2.2.1).mono ?_;rintro x w2 ⟨A3,c3,rfl,⟨hbt,hfr⟩,hb2⟩;replace HQ:=HQ.go2 bB hb2;have HBT:=lh hbt;clear hb2 hbt hfr x0 x1 x2 x3 x4;obtain ⟨x0,x1,x2,x3,x4⟩:=HQ.out.2.2.2.2.2.c5;have hs2:wr.heap.size<w2.heap.size:=HQ.out.2.2.2.2.2.2.2)
      | (go_at_call 25;refine (HPT.out _ _ _ (HQ.go bB).out.1 (Nat.le_trans (Nat.succ_le_of_lt hwr) (HQ.go bB).out.2.2.2.2.1.size) (HQ.go bB).out.2.2.2.1 (HQ.go bB).out.2.2.1 (HBT.out.below bB)).mono ?_;rintro x w3 ⟨rfl,A4,c4,hco,hlo,-⟩;have HB3:=lh ((HQ.go bB).out.2.1.trans (hlo.mono hw1));have HC3:=lh hco;clear hco hlo;rw [HPE.out]))
     go_roundw
     case rel=>exact ⟨k+1,A4,c4,by omega,by go_num,lh ⟨by rw [HSN.out];exact HC3.out,HB3.out⟩,HRF2⟩
     case measure=>simp [intOf];omega
   ·obtain rfl:k=m.length:=by omega
    rw [List.take_length] at HQ0
    have HI:=lh (HIN.out (fun e he=>by
     obtain ⟨j,hj⟩:=List.mem_iff_getElem?.1 he
     exact HRF.out j e (sI.1 hj).1 hj))
    have HRS:=lh (resE_any (invC m).1 (invC m).2 w1.heap.size (w1.heap.size+1) Ac cc wr HQ0.out.1)
    have HLB:=lh HQ0.out.2
    have HSO:=lh HQ0.out.1.2
    clear HRF HQ0
    cases hf:(invC m).2 with
    | true =>
     rw [hf] at HRS HI
     clear hf
     go_wp2_with (go_at_call 26;refine HRS.out.mono ?_;rintro x w5 ⟨rfl,hb5⟩;have HB5:=lh hb5;clear hb5;rw [if_pos rfl,if_pos rfl])
     go_ret2
     exact ⟨fun h=>absurd (HI.out.symm.trans h) (by decide),fun _=>⟨by rw [HI.out];rfl,go3 HLB.out HB5.out⟩⟩
    | false =>
     rw [hf] at HRS HI
     clear hf
     go_wp2_with (go_at_call 26;refine HRS.out.mono ?_;rintro x w5 ⟨rfl,hb5⟩;have HB5:=lh hb5;clear hb5;rw [if_neg (by decide),if_neg (by decide)])
     go_ret2
     obtain ⟨A9,c9,e9,h1,h2,h3⟩:=HSO.out.read (fun b hb h=>by omega)
     cases e9
     exact ⟨fun _=>⟨Ac,cc,rfl,(h1.mono (fun b hb=>Nat.le_trans (Nat.le_of_lt hb) hw1)).below HB5.out,h2,go3 HLB.out HB5.out⟩,fun h=>absurd HI.out h⟩
 ·have hneb:(chkM m != 0)=true:=by simpa using hz
  have HE:Hid (invE m=chkM m):=lh (if_neg hz)
  have HZ:=lh hz
  clear hz
  go_enter Tryz.func11,Tryz.ntmps11
  go_wp2_with (go_at_call 23;refine (HCK.out _ bB (BX.new w [_] _ rfl)).mono ?_;rintro x w1 ⟨rfl,hb1⟩;have HB1:=lh (go3 (ba _ _) hb1);clear hb1)
  go_ret2
  exact ⟨fun h=>absurd (HE.out.symm.trans h) HZ.out,fun _=>⟨by rw [HE.out];rfl,HB1.out⟩⟩
open Go.RowKit
def forE (e:En) (s:ByteArray):ByteArray×Bool:=(fwdT e.1.1 e.1.2 e.2.1.1 e.2.1.2 s,fwdO e.1.1 e.1.2 e.2.1.1 e.2.1.2 s)
def forL:List En→ByteArray→ByteArray×Bool
 | [],_=>(⟨#[]⟩,false)
 | e::m,s=>if regH e.1 e.2.2 s=true then forE e s else forL m s
def forM (m:List En) (s:ByteArray):ByteArray×Bool:=if chkM m=0 then forL m s else (⟨#[]⟩,false)
theorem forL_yes {s:ByteArray}:∀ {m:List En} {k:Nat} {e:En},m[k]? = some e→(∀ j q,j<k→m[j]? = some q→regH q.1 q.2.2 s=false)→regH e.1 e.2.2 s=true→forL m s=forE e s
 | [],k,e,h,_,_=>by simp at h
 | x::m,0,e,h,_,hn=>by
  have:x=e:=by simpa using h
  subst this
  exact if_pos hn
 | x::m,k+1,e,h,h0,hn=>by
  have hx:=h0 0 x (by omega) rfl
  unfold forL
  rw [if_neg (by rw [hx];decide)]
  exact forL_yes (k:=k) (by simpa using h) (fun j q hj hq=>h0 (j+1) q (by omega) (by simpa using hq)) hn
theorem forL_no {s:ByteArray}:∀ {m:List En},(∀ j q,j<m.length→m[j]? = some q→regH q.1 q.2.2 s=false)→forL m s=(⟨#[]⟩,false)
 | [],_=>rfl
 | x::m,h0=>by
  have hx:=h0 0 x (by simp) rfl
  unfold forL
  rw [if_neg (by rw [hx];decide)]
  exact forL_no (fun j q hj hq=>h0 (j+1) q (by simp;omega) (by simpa using hq))
theorem chk1 (m:List En) (A0:Option Addr) (c0:Nat) (w:World) (K:Nat→Prop) (hsv:SV elE w K A0 c0 m) (ok:okM m) (hm:ML w) (g:Nat):∀ W,Below w.heap.size w W→BX W g [.slice A0 m.length c0]→Calls Tryz.prog 23 #[.slice (some ⟨g,0,none⟩) 1 1] W fun x w'=>x=.returned (.int .i64 (chkM m))∧Below W.heap.size W w':=fun W hW hb=>by
 have h:=mcheck_any [m] kN (some ⟨g,0,none⟩) 1 W (sv1 (hsv.weak.below hW) hb (fun h=>h) (Nat.le_refl _) (by omega)) (fun q hq=>by rw [List.mem_singleton.1 hq];exact ok) (hm.below hW)
 rw [show chkMs [m]=chkM m from by unfold chkMs;split<;>simp [chkMs, *]] at h
 exact h
set_option maxRecDepth 100000 in
theorem mforward_any (m:List En) (s:ByteArray) (K:Nat→Prop) (A0:Option Addr) (c0:Nat) (w:World) (hsv:SV elE w K A0 c0 m) (ok:okM m) (hs:s.size≤5000) (hm:ML w) :
 Calls Tryz.prog 15 #[.slice A0 m.length c0,.string s] w fun x w'=>x=.returned (.tuple #[.string (forM m s).1,.bool (forM m s).2])∧Below w.heap.size w w':=by
 have HSV:=lh hsv
 have HOK:=lh ok.1
 have HM:=lh hm
 have hl:=ok.2
 have q1:=hsv.lenc
 have q2:=hsv.capc
 have HCK:=lh (chk1 m A0 c0 w K hsv ok hm w.heap.size)
 clear hsv ok hm
 by_cases hz:chkM m=0
 ·have HFM:Hid (forM m s=forL m s):=lh (if_pos hz)
  rw [hz] at HCK
  clear hz
  go_enter Tryz.func15,Tryz.ntmps15
  go_wp2_with (go_at_call 23;refine (HCK.out _ bB (BX.new w [_] _ rfl)).mono ?_;rintro x w1 ⟨rfl,hb1⟩;have HB1:=lh (go3 (ba _ _) hb1);clear hb1)
  go_loopw [14] (fun v wr=>∃ k:Nat,k≤m.length∧v=.int .i64 k∧Hid (Below w.heap.size w wr)∧Hid (∀ j q,j<k→m[j]? = some q→regH q.1 q.2.2 s=false)) (fun v _=>m.length-(intOf v).toNat)
  case atStart=>exact ⟨0,Nat.zero_le _,rfl,HB1,lh (fun j e hj=>by omega)⟩
  case round =>
   clear HB1
   obtain ⟨k,hk,rfl,HB,HNO⟩:=hrel
   by_cases hlt:k<m.length
   ·obtain ⟨e,he⟩:∃ e,m[k]? = some e:=⟨_,gE hlt⟩
    obtain ⟨b,o,A,c,B,d,H,n,rfl,x0,x1,x2,x3,x4,heg,-⟩:=(HSV.out.below HB.out).en he
    have hem:=mG he
    have HOE:=lh (HOK.out e hem)
    have HE:=lh he
    have HLE:=lh (fun W=>left_any A B H e.1.1.length c e.2.1.1.length d e.2.2.length n e.1.2 e.2.1.2 W)
    have HLI:=lh (fun W=>line_any A B H e.1.1.length c e.2.1.1.length d e.2.2.length n e.1.2 e.2.1.2 W)
    have HHS:=lh (fun W (h:Below wr.heap.size wr W)=>has_any A H c n e.1 e.2.2 s W (heg.1.below h) (heg.2.2.below h) (szP_of HOE.out.1.2.1 HOE.out.2.1 (by omega)) (fun q hq=>szP_of (HOE.out.1.2.2.1 q hq) (HOE.out.2.2.2 q hq) (by omega)) hs (HM.out.below (go3 HB.out h)))
    have HFW:=lh (fun W (h:Below wr.heap.size wr W)=>forward_any false A B c d e.1.1 e.2.1.1 e.1.2 e.2.1.2 s W (heg.1.below h) (heg.2.1.below h) (HM.out.below (go3 HB.out h)) (fun x hx=>Nat.le_trans (HOE.out.2.1 x hx) (by omega)) (fun x hx=>Nat.le_trans (HOE.out.2.2.1 x hx) (by omega)) hs)
    unfold ruV at HFW
    have HQ:At (fun W=>Below w.heap.size w W∧Below wr.heap.size wr W∧BX W wr.heap.size (enV e A c B d H n)) (wr.alloc (.cells #[.slice A e.1.1.length c,.bool e.1.2,.slice B e.2.1.1.length d,.bool e.2.1.2,.slice H e.2.2.length n] 73)) :=
     ⟨fun X Y h hb=>⟨go3 h.1 hb,go3 h.2.1 hb,h.2.2.below hb⟩,go3 HB.out (ba _ _),ba _ _,BX.new wr _ _ rfl⟩
    clear he heg hem HB
    cases hr:regH e.1 e.2.2 s with
    | true =>
     rw [hr] at HHS
     have HY:Hid (forM m s=(fwdT e.1.1 e.1.2 e.2.1.1 e.2.1.2 s,fwdO e.1.1 e.1.2 e.2.1.1 e.2.1.2 s)):=lh (HFM.out.trans (forL_yes HE.out HNO.out hr))
     generalize fwdT e.1.1 e.1.2 e.2.1.1 e.2.1.2 s=T at *
     generalize fwdO e.1.1 e.1.2 e.2.1.1 e.2.1.2 s=T2 at *
     clear hr
     go_wp2_with (first
      | (go_at_call 36;refine (HLE.out _).mono ?_;rintro x w2 ⟨rfl,hb2⟩;replace HQ:=HQ.go2 bB hb2;clear hb2)
      | (go_at_call 35;refine (HHS.out _ (HQ.go bB).out.2.1).mono ?_;rintro x w3 ⟨rfl,hb3⟩;replace HQ:=HQ.go2 bB hb3;clear hb3 x0 x1 x2 x3 x4;obtain ⟨x0,x1,x2,x3,x4⟩:=HQ.out.2.2.c5)
      | (go_at_call 29;refine (HLI.out _).mono ?_;rintro x w4 ⟨rfl,hb4⟩;replace HQ:=HQ.go2 bB hb4;clear hb4)
      | (go_at_call 37;refine (HFW.out _ (HQ.go bB).out.2.1).mono ?_;rintro x w5 ⟨rfl,hb5⟩;replace HQ:=HQ.go2 bB hb5;clear hb5))
     go_ret2
     exact ⟨by rw [HY.out];rfl,HQ.out.1⟩
    | false =>
     rw [hr] at HHS
     have HNO2:Hid (∀ j q,j<k+1→m[j]? = some q→regH q.1 q.2.2 s=false):=lh (fun j q hj hq=>by
      rcases Nat.lt_or_ge j k with h1|h1
      ·exact HNO.out j q h1 hq
      ·obtain rfl:j=k:=by omega
       rw [HE.out] at hq
       cases hq
       exact hr)
     clear hr HNO
     go_wp2_with (first
      | (go_at_call 36;refine (HLE.out _).mono ?_;rintro x w2 ⟨rfl,hb2⟩;replace HQ:=HQ.go2 bB hb2;clear hb2)
      | (go_at_call 35;refine (HHS.out _ (HQ.go bB).out.2.1).mono ?_;rintro x w3 ⟨rfl,hb3⟩;replace HQ:=HQ.go2 bB hb3;clear hb3 x0 x1 x2 x3 x4))
     go_roundw
     case rel=>exact ⟨k+1,by omega,by go_num,lh HQ.out.1,HNO2⟩
     case measure=>simp [intOf];omega
   ·obtain rfl:k=m.length:=by omega
    have HY:=lh (HFM.out.trans (forL_no HNO.out))
    clear HNO
    go_wp2_with fail
    go_ret2
    exact ⟨by rw [HY.out];rfl,HB.out⟩
 ·have hneb:(chkM m != 0)=true:=by simpa using hz
  have HY:Hid (forM m s=(⟨#[]⟩,false)):=lh (if_neg hz)
  clear hz
  go_enter Tryz.func15,Tryz.ntmps15
  go_wp2_with (go_at_call 23;refine (HCK.out _ bB (BX.new w [_] _ rfl)).mono ?_;rintro x w1 ⟨rfl,hb1⟩;have HB1:=lh (go3 (ba _ _) hb1);clear hb1)
  go_ret2
  exact ⟨by rw [HY.out];rfl,HB1.out⟩
open Go.RowKit
end Go.Proofs.YtelkmeiepliecaaGreatDoor
namespace Go.Proofs.YtelkmeiepliecaaGreatDoor
open Pm
abbrev Pc:=Rg×Int×Pn×Pn
def allP:Pn:=([viewN],true)
def pc0:Pc:=((allP,[]),1,([],false),([],false))
def stoP (p:Pn) (name:ByteArray):Pn:=(p.1.set 0 name,p.2)
def wideP (name:ByteArray) (p:Ln) (q:Pc) (g:Rg):Pn×Pn:=if q.2.1=3 then q.2.2 else if p.1=3 then p.2 else (g.1,stoP g.1 name)
def kindP (p:Ln) (q:Pc):Int:=if q.2.1=3 then 3 else if p.1=3 then 3 else ownK p.1 q.2.1
def nwE (name:ByteArray) (p:Ln) (q:Pc) (g:Rg):Int:=nrE (wideP name p q g).1 (wideP name p q g).2 g.1
def nwP (name:ByteArray) (p:Ln) (q:Pc) (g:Rg):Pc:=(g,kindP p q,nrL (wideP name p q g).1 (wideP name p q g).2 g.1,nrR (wideP name p q g).1 (wideP name p q g).2 g.1)
def stepQ (name:ByteArray) (p:Ln) (own:Rg) (s:Option (List Pc)) (q:Pc):Option (List Pc):=match s with
 | none=>none
 | some r=>if rmE own q.1=true then none else if rmO own q.1=false then some r else if nwE name p q (rmB own q.1)≠0∨r.length=32 then none else some (r++[nwP name p q (rmB own q.1)])
def laterL (ps:List Ln) (k:Nat):List Pn:=(ps.drop (k+1)).map fun p=>p.2.1
def ownR (ps:List Ln) (k:Nat) (p:Ln):Rg:=(p.2.1,redH p.2.1 (laterL ps k))
def lineQ (name:ByteArray) (ps:List Ln) (ab:List Pc) (s:Option (List Pc)) (k:Nat) (p:Ln):Option (List Pc):=if p.1=4 then s else ab.foldl (stepQ name p (ownR ps k p)) s
def rowQ (name:ByteArray) (ps:List Ln) (ab:List Pc):Nat→Option (List Pc)
 | 0=>some []
 | k+1=>match ps[k]? with
  | none=>rowQ name ps ab k
  | some p=>lineQ name ps ab (rowQ name ps ab k) k p
def pcsF (l:List St):Nat→Nat→Option (List Pc)
 | 0,_=>none
 | n+1,i=>match l[i]? with
  | none=>none
  | some s=>match (match parS l i with|some p=>pcsF l n p|none=>some [pc0]) with
   | none=>none
   | some ab=>rowQ s.1 s.2.2 ab s.2.2.length
def entE (q:Pc):Bool:=nrsE q.2.2.1 q.2.2.2 q.1.2
def entF (q:Pc):En:=(q.2.2.2,q.2.2.1,redH q.2.2.2 (nrsR q.2.2.1 q.2.2.2 q.1.2))
def vwF (l:List St) (n i:Nat):Option (List Pc):=match pcsF l n i with
 | none=>none
 | some ps=>if ps.any entE=true then none else some ps
def btwF (name:ByteArray) (ps:List Pc):List En:=(ps.filter fun q=>q.2.1==1).map fun q=>((entF q).1,stoP q.1.1 name,(entF q).2.2)
theorem stepQ_none (name:ByteArray) (p:Ln) (own:Rg):∀ ab:List Pc,ab.foldl (stepQ name p own) none=none
 | []=>rfl
 | q::ab=>by rw [List.foldl_cons];exact stepQ_none name p own ab
theorem lineQ_none (name:ByteArray) (ps:List Ln) (ab:List Pc) (k:Nat) (p:Ln):lineQ name ps ab none k p=none:=by
 unfold lineQ
 split
 ·rfl
 ·exact stepQ_none _ _ _ _
theorem rowQ_none {name:ByteArray} {ps:List Ln} {ab:List Pc} {k:Nat} (h:rowQ name ps ab k=none):∀ j,rowQ name ps ab (k+j)=none
 | 0=>h
 | j+1=>by
  rw [←Nat.add_assoc]
  unfold rowQ
  rw [rowQ_none h j]
  split
  ·rfl
  ·exact lineQ_none _ _ _ _ _
theorem rowQ_le {name:ByteArray} {ps:List Ln} {ab:List Pc} {k n:Nat} (h:rowQ name ps ab k=none) (hk:k≤n):rowQ name ps ab n=none:=by
 obtain ⟨j,rfl⟩:=Nat.le.dest hk
 exact rowQ_none h j
theorem rowQ_succ {name:ByteArray} {ps:List Ln} {ab:List Pc} {k:Nat} {p:Ln} (h:ps[k]? = some p):rowQ name ps ab (k+1)=lineQ name ps ab (rowQ name ps ab k) k p:=by
 show (match ps[k]? with|none=>rowQ name ps ab k|some p=>lineQ name ps ab (rowQ name ps ab k) k p)=_
 rw [h]
def inR (g:Rg) (c:ByteArray):Bool:=mt g.1 c&&!g.2.any (mt · c)
open Go.RowKit
theorem pairs_any (A B:Option Addr) (n c m d:Nat) (w:World) :
 Calls Tryz.prog 27 #[.slice A n c,.slice B m d] w fun x w'=>x=.returned (.func (.func 56) #[] #[.pointer (some ⟨w.heap.size,0,none⟩),.pointer (some ⟨w.heap.size+1,0,none⟩)]) ∧
  BX w' w.heap.size [.slice A n c]∧BX w' (w.heap.size+1) [.slice B m d]∧Below w.heap.size w w':=by
 go_enter Tryz.func27,Tryz.ntmps27
 go_wp2_with fail
 go_ret
 exact ⟨rfl,(BX.new w [_] _ rfl).below (ba _ _),BX.new _ [_] _ (by simp),bB⟩
open Go.RowKit Go.Shelf
attribute [local go_sem] Oper.semAt_some
structure R5 where
 A:Option Addr
 n:Nat
 c:Nat
 q:Bool
 B:Option Addr
 m:Nat
 d:Nat
 t:Bool
 H:Option Addr
 k:Nat
 h:Nat
def R5.l (r:R5):List Value:=[.slice r.A r.n r.c,.bool r.q,.slice r.B r.m r.d,.bool r.t,.slice r.H r.k r.h]
def R5s (Safe:Nat→World→Prop) (W:World) (A:Option Addr) (n:Nat) (r:Nat→R5):Prop:=∀ j,j<n→∃ b o,A=some ⟨b,o,none⟩∧Safe b W∧W.cell? ⟨b,o+j * 5,none⟩=some (.slice (r j).A (r j).n (r j).c)∧W.cell? ⟨b,o+j * 5+1,none⟩=some (.bool (r j).q)∧W.cell? ⟨b,o+j * 5+2,none⟩=some (.slice (r j).B (r j).m (r j).d)∧W.cell? ⟨b,o+j * 5+3,none⟩=some (.bool (r j).t)∧W.cell? ⟨b,o+j * 5+4,none⟩=some (.slice (r j).H (r j).k (r j).h)
theorem BX.same {w w':World} {g:Nat} {cs:List Value} (h:BX w g cs) (e:w'.heap[g]? = w.heap[g]?):BX w' g cs :=
 ⟨fun j u hu=>(World.cell?_of_block (a:=⟨g,j,none⟩) e).trans (h.1 j u hu),fun i=>(World.frozen?_of_block (a:=⟨g,i,none⟩) e).trans (h.2.1 i),by
  rw [Array.getElem?_eq_getElem h.2.2] at e
  exact (Array.getElem?_eq_some_iff.1 e).1⟩
theorem R5s.keep {Safe:Nat→World→Prop} {W W':World} {A:Option Addr} {n:Nat} {r:Nat→R5} (h:R5s Safe W A n r) (hk:∀ j,Safe j W→W'.heap[j]? = W.heap[j]? ∧ Safe j W'):R5s Safe W' A n r:=fun j hj=>by
 obtain ⟨b,o,e,hs,k0,k1,k2,k3,k4⟩:=h j hj
 obtain ⟨hb,hs'⟩:=hk b hs
 exact ⟨b,o,e,hs',(World.cell?_of_block (a:=⟨b,_,none⟩) hb).trans k0,(World.cell?_of_block (a:=⟨b,_,none⟩) hb).trans k1,(World.cell?_of_block (a:=⟨b,_,none⟩) hb).trans k2,(World.cell?_of_block (a:=⟨b,_,none⟩) hb).trans k3,(World.cell?_of_block (a:=⟨b,_,none⟩) hb).trans k4⟩
def PQ (Safe:Nat→World→Prop) (g1 n1 n2 c2:Nat) (A1 A2:Option Addr) (r1 r2:Nat→R5) (W:World):Prop:=(Safe g1 W∧W.cell? ⟨g1,0,none⟩=some (.slice A2 n2 c2))∧R5s Safe W A1 n1 r1∧R5s Safe W A2 n2 r2
theorem PQ.keep {Safe:Nat→World→Prop} {g1 n1 n2 c2:Nat} {A1 A2:Option Addr} {r1 r2:Nat→R5} {W W':World} (h:PQ Safe g1 n1 n2 c2 A1 A2 r1 r2 W) (hk:∀ j,Safe j W→W'.heap[j]? = W.heap[j]? ∧ Safe j W'):PQ Safe g1 n1 n2 c2 A1 A2 r1 r2 W' :=
 ⟨⟨(hk _ h.1.1).2,(World.cell?_of_block (a:=⟨g1,0,none⟩) (hk _ h.1.1).1).trans h.1.2⟩,h.2.1.keep hk,h.2.2.keep hk⟩
set_option maxRecDepth 100000 in
theorem pairs1_in (F:Fence) (n:Nat) (hf:F.fn 56) (hro:F.round=none) (hn:1≤n) (l g0 g1 n1 n2 c1 c2:Nat) (A1 A2:Option Addr) (r1 r2:Nat→R5) (Kp:World→World→Prop) (Safe:Nat→World→Prop) (Good:World→Prop)
 (hl1:n1≤1000) (hl2:n2≤1000)
 (s0:∀ (W:World) (o:Obj),Good W→Good (W.alloc o)) (s1:∀ (W:World) (cs:Array Value) (T:TypeId),Good W→Safe W.heap.size (W.alloc (.cells cs T))) (s2:∀ (j:Nat) (W W':World),Good W→Safe j W→Kp W W'→W'.heap[j]? = W.heap[j]? ∧ Safe j W')
 (s3:∀ (j:Nat) (W:World) (o:Obj),Good W→Safe j W→Safe j (W.alloc o)) (s4:∀ W W',Good W→Kp W W'→Good W') (s5:∀ (j:Nat) (W:World),Safe j W→j<W.heap.size)
 (J Jx:List {q:Nat // q<n1 * n2}→World→Prop) (W:World) (hJ:AbidesFrom W.heap.size J)
 (hY:∀ pre x W1,J pre W1→pre.length<n1 * n2→YieldAt F (n-1) Tryz.prog l #[.agg (r1 (x.1 / n2)).l.toArray,.agg (r2 (x.1 % n2)).l.toArray] W1 fun e W' =>
  (e=.returned (.bool true)∧J (pre++[x]) W'∧Kp W1 W')∨(e=.returned (.bool false)∧Jx (pre++[x]) W'))
 (b0:W.cell? ⟨g0,0,none⟩=some (.slice A1 n1 c1)) (hpq:PQ Safe g1 n1 n2 c2 A1 A2 r1 r2 W) (h0:J [] W) (hgd:Good W) :
 CallsIn F n Tryz.prog 56 #[.func (.yield l) #[] #[],.pointer (some ⟨g0,0,none⟩),.pointer (some ⟨g1,0,none⟩)] W fun e W'=>(∃ v,e=.returned v) ∧
  ((∃ xs,xs.map (·.1)=List.range (n1 * n2)∧J xs W')∨(∃ pre,(∃ k,pre.map (·.1)=List.range k)∧Jx pre W')):=by
 refine callsIn_of_wp Tryz.func56 rfl hf ?_ hro
 simp only [Tryz.ntmps56,List.size_toArray,List.length_cons,List.length_nil,Nat.reduceAdd,Nat.reduceSub,Array.replicate_succ,Array.replicate_zero,List.push_toArray,List.append_toArray,List.nil_append,List.cons_append]
 have s3':∀ (V:World) (o:Obj),Good V→∀ j,Safe j V→(V.alloc o).heap[j]? = V.heap[j]? ∧ Safe j (V.alloc o):=fun V o hg j hs=>⟨Below.heap_alloc V o j (s5 j V hs),s3 j V o hg hs⟩
 gi_wp2
 gi_loopw [10] (fun i wr=>∃ (k:Nat) (pre:List {q:Nat // q<n1 * n2}),k≤n1∧i=.int .i64 k∧pre.map (·.1)=List.range (k * n2)∧J pre wr∧W.heap.size≤wr.heap.size∧Good wr∧PQ Safe g1 n1 n2 c2 A1 A2 r1 r2 wr)
  (fun i _=>n1-(intOf i).toNat)
 case atStart=>exact ⟨0,[],Nat.zero_le _,rfl,by simp,h0,Nat.le_refl _,hgd,hpq⟩
 case round =>
  obtain ⟨k,pre,hk,rfl,hpre,hJs,hsz,hgw,hpw⟩:=hrel
  by_cases hlt:k<n1
  ·obtain ⟨b,o,rfl,hb,x0,x1,x2,x3,x4⟩:=hpw.2.1 k hlt
   replace hb:=s5 _ _ hb
   have b1':wr.cell? ⟨g1,0,none⟩=some (.slice A2 n2 c2):=hpw.1.2
   have hg1w:g1<wr.heap.size:=s5 _ _ hpw.1.1
   gi_wp2
   obtain ⟨wk,rfl⟩:∃ wk,wk=wr:=⟨wr,rfl⟩
   clear x0 x1 x2 x3 x4 b1'
   gi_loopw [16] (fun i wr=>∃ (j:Nat) (pre:List {q:Nat // q<n1 * n2}),j≤n2∧i=.int .i64 j∧pre.map (·.1)=List.range (k * n2+j)∧J pre wr∧W.heap.size≤wr.heap.size∧Good wr∧PQ Safe g1 n1 n2 c2 (some ⟨b,o,none⟩) A2 r1 r2 wr∧Safe wk.heap.size wr∧BX wr wk.heap.size (r1 k).l)
    (fun i _=>n2-(intOf i).toNat)
   case atStart=>exact ⟨0,pre,Nat.zero_le _,rfl,by simpa using hpre,hJ _ _ _ none hJs (World.grownBy_alloc _ _ none) (fun r e=>by cases e),by simp;omega,s0 _ _ hgw,hpw.keep (s3' _ _ hgw),s1 _ _ _ hgw,BX.new wk _ _ rfl⟩
   case round =>
    obtain ⟨j,pre2,hj,rfl,hpre2,hJ2,hsz2,hgd2,hpq2,hsf,hbx⟩:=hrel
    by_cases hjl:j<n2
    ·obtain ⟨b',o',e',hb',x0,x1,x2,x3,x4⟩:=hpq2.2.2 j hjl
     subst e'
     replace hb':=s5 _ _ hb'
     have hq:k * n2+j<n1 * n2:=by
      have:(k+1) * n2≤n1 * n2:=Nat.mul_le_mul_right _ hlt
      rw [Nat.succ_mul] at this
      omega
     have hlen:pre2.length<n1 * n2:=by
      have:=congrArg List.length hpre2
      rw [List.length_map,List.length_range] at this
      omega
     have hbx':BX wr wk.heap.size [.slice (r1 k).A (r1 k).n (r1 k).c,.bool (r1 k).q,.slice (r1 k).B (r1 k).m (r1 k).d,.bool (r1 k).t,.slice (r1 k).H (r1 k).k (r1 k).h]:=hbx
     obtain ⟨z0,z1,z2,z3,z4⟩:=hbx'.c5
     have hzl:=hbx'.2.2
     have hy0:=hY pre2 ⟨k * n2+j,hq⟩ _ (hJ _ _ _ none hJ2 (World.grownBy_alloc wr (.cells (r2 j).l.toArray 73) none) (fun r e=>by cases e)) hlen
     have hdv:(k * n2+j) / n2=k:=by rw [Nat.mul_comm,Nat.mul_add_div (by omega),Nat.div_eq_of_lt hjl,Nat.add_zero]
     have hmd:(k * n2+j) % n2=j:=by rw [Nat.mul_comm,Nat.mul_add_mod,Nat.mod_eq_of_lt hjl]
     simp only [hdv,hmd,R5.l] at hy0
     obtain ⟨fn,tmps,assign,body,hy,hR⟩:=hy0
     have hmap:List.map (fun x:{q:Nat // q<n1 * n2}=>x.1) (pre2++[(⟨k * n2+j,hq⟩:{q:Nat // q<n1 * n2})])=List.range (k * n2+(j+1)):=by rw [List.map_append,hpre2,← Nat.add_assoc,List.range_succ];rfl
     gi_wp2
     refine hR.mono ?_
     rintro e W3 (⟨rfl,hJ3,hk3⟩|⟨rfl,hJx3⟩)
     ·have hgd1:=s0 _ (.cells (r2 j).l.toArray 73) hgd2
      have hs3:=s2 _ _ _ hgd1 (s3 _ _ _ hgd2 hsf) hk3
      have hq3:=(hpq2.keep (s3' _ _ hgd2)).keep (fun j hs=>s2 j _ _ hgd1 hs hk3)
      have hz3:=s5 _ _ hs3.2
      gi_wp2
      go_roundw
      case rel=>exact ⟨j+1,_,by omega,by simp,hmap,hJ3,Nat.le_trans (by omega) (Nat.le_of_lt hz3),s4 _ _ hgd1 hk3,hq3,hs3.2,(hbx.below (ba _ _)).same hs3.1⟩
      case measure=>simp [intOf];omega
     ·gi_wp2
      refine bodyPost_ret (results_none rfl _ _ _) rfl ?_
      exact ⟨⟨_,rfl⟩,.inr ⟨_,⟨_,hmap⟩,hJx3⟩⟩
    ·obtain rfl:j=n2:=by omega
     gi_wp2
     go_roundw
     case rel=>exact ⟨k+1,pre2,by omega,by simp,by rw [Nat.succ_mul];exact hpre2,hJ2,hsz2,hgd2,hpq2⟩
     case measure=>simp [intOf];omega
  ·obtain rfl:k=n1:=by omega
   gi_wp2
   go_end0
   exact ⟨⟨_,rfl⟩,.inl ⟨_,hpre,hJs⟩⟩
def ownG (g:Nat) (W:World) (j:Nat):Prop:=∃ v,W.cell? ⟨g,0,none⟩=some v∧v.ownBlock=some j
def GoodC (g:Nat) (W:World):Prop:=g<W.heap.size∧∀ j,ownG g W j→j<W.heap.size
def SafeC (g j:Nat) (W:World):Prop:=(∃ cs T f,W.heap[j]? = some (.cells cs T f))∧j≠g∧¬ ownG g W j
def KpC (g:Nat) (W W':World):Prop:=GoodC g W→GoodC g W'∧W.heap.size≤W'.heap.size∧(∀ j,j<W.heap.size→ownG g W' j→ownG g W j)∧∀ j cs T f,W.heap[j]? = some (.cells cs T f)→j≠g→¬ ownG g W j→W'.heap[j]? = W.heap[j]?
theorem SafeC.lt {g j:Nat} {W:World} (h:SafeC g j W):j<W.heap.size:=by
 obtain ⟨⟨cs,T,f,e⟩,_⟩:=h
 exact (Array.getElem?_eq_some_iff.1 e).1
theorem ownG_same {g:Nat} {W W':World} (e:W'.heap[g]? = W.heap[g]?) {j:Nat}:ownG g W' j↔ownG g W j:=by
 unfold ownG
 rw [World.cell?_of_block (a:=⟨g,0,none⟩) e]
theorem GoodC.alloc {g:Nat} {W:World} (h:GoodC g W) (o:Obj):GoodC g (W.alloc o) :=
 ⟨by have:=h.1;simp;omega,fun j hj=>by have:=h.2 j ((ownG_same (Below.heap_alloc W o g h.1)).1 hj);simp;omega⟩
theorem SafeC.new {g:Nat} {W:World} (h:GoodC g W) (cs:Array Value) (T:TypeId):SafeC g W.heap.size (W.alloc (.cells cs T)) :=
 ⟨⟨cs,T,(0,0),heap_alloc_new W _⟩,by have:=h.1;omega,fun ho=>by have:=h.2 _ ((ownG_same (Below.heap_alloc W _ g h.1)).1 ho);omega⟩
theorem SafeC.kp {g j:Nat} {W W':World} (h:GoodC g W) (hs:SafeC g j W) (hk:KpC g W W'):W'.heap[j]? = W.heap[j]? ∧ SafeC g j W':=by
 have hl:=hs.lt
 obtain ⟨⟨cs,T,f,e⟩,hn,ho⟩:=hs
 obtain ⟨k1,k2,k3,k4⟩:=hk h
 have hh:=k4 j cs T f e hn ho
 exact ⟨hh,⟨cs,T,f,hh.trans e⟩,hn,fun h2=>ho (k3 j hl h2)⟩
theorem SafeC.alloc {g j:Nat} {W:World} (o:Obj) (h:GoodC g W) (hs:SafeC g j W):SafeC g j (W.alloc o):=by
 have hl:=hs.lt
 obtain ⟨⟨cs,T,f,e⟩,hn,ho⟩:=hs
 exact ⟨⟨cs,T,f,(Below.heap_alloc W o j hl).trans e⟩,hn,fun h2=>ho ((ownG_same (Below.heap_alloc W o g h.1)).1 h2)⟩
theorem KpC.trans {g:Nat} {A B C:World} (h:KpC g A B) (k:KpC g B C):KpC g A C:=fun hg=>by
 obtain ⟨h1,h2,h3,h4⟩:=h hg
 obtain ⟨k1,k2,k3,k4⟩:=k h1
 refine ⟨k1,Nat.le_trans h2 k2,fun j hj ho=>h3 j hj (k3 j (Nat.lt_of_lt_of_le hj h2) ho),fun j cs T f e hn ho=>?_⟩
 have e2:=h4 j cs T f e hn ho
 refine (k4 j cs T f (e2.trans e) hn (fun h5=>ho (h3 j (Array.getElem?_eq_some_iff.1 e).1 h5))).trans e2
theorem KpC.put {g:Nat} {w:World} (hg:g<w.heap.size) (W:World) (l:Nat) (o o':Obj) (hl:w.heap.size≤l) (h:W.heap[l]? = some o) (hc:o.isCells=false) (_:o.isWalk=false):KpC g W (W.putObj l o'):=fun hg2=>by
 have hll:=(Array.getElem?_eq_some_iff.1 h).1
 have e:∀ j,j≠l→(W.putObj l o').heap[j]? = W.heap[j]? := fun j hj=>World.putObj_heap_other (by omega)
 have eg:=e g (by omega)
 have hsz:(W.putObj l o').heap.size=W.heap.size:=World.putObj_size
 refine ⟨⟨by rw [hsz];exact hg2.1,fun j hj=>by rw [hsz];exact hg2.2 j ((ownG_same eg).1 hj)⟩,by rw [hsz];exact Nat.le_refl _,fun j _ ho=>(ownG_same eg).1 ho,fun j cs T f ec _ _=>e j (fun hj=>?_)⟩
 rw [hj,h] at ec
 cases ec
 cases hc
theorem pairs_stops (F:Fence) (n:Nat) (hf:F.fn 56) (hro:F.round=none) (hn:1≤n) (g g0 g1 n1 n2 c1 c2:Nat) (A1 A2:Option Addr) (r1 r2:Nat→R5) (w:World) (hl1:n1≤1000) (hl2:n2≤1000)
 (b0:w.cell? ⟨g0,0,none⟩=some (.slice A1 n1 c1)) (hb0:g0<w.heap.size) (hpq:PQ (SafeC g) g1 n1 n2 c2 A1 A2 r1 r2 w) (hgd:GoodC g w) :
 SeqStopsK F n Tryz.prog 56 #[.pointer (some ⟨g0,0,none⟩),.pointer (some ⟨g1,0,none⟩)] (fun x:{q:Nat // q<n1 * n2}=>#[.agg (r1 (x.1 / n2)).l.toArray,.agg (r2 (x.1 % n2)).l.toArray]) (KpC g)
  (fun xs=>xs.map (·.1)=List.range (n1 * n2)) (fun pre=>∃ k,pre.map (·.1)=List.range k) (n1 * n2) w:=fun l J Jx W hW hJ _ hY h0=>by
 have hs:∀ j,j<w.heap.size→W.heap[j]? = w.heap[j]? := fun j hj=>hW.block j hj
 have hg2:GoodC g W:=⟨Nat.lt_of_lt_of_le hgd.1 hW.size,fun j hj=>Nat.lt_of_lt_of_le (hgd.2 j ((ownG_same (hs g hgd.1)).1 hj)) hW.size⟩
 exact pairs1_in F n hf hro hn l g0 g1 n1 n2 c1 c2 A1 A2 r1 r2 (KpC g) (SafeC g) (GoodC g) hl1 hl2 (fun _ _ h=>h.alloc _) (fun _ _ _ h=>SafeC.new h _ _) (fun _ _ _ h k m=>SafeC.kp h k m) (fun _ _ _ h k=>k.alloc _ h) (fun _ _ h k=>(k h).1) (fun _ _ h=>h.lt) J Jx W hJ hY
  ((hW.cell (p:=⟨g0,0,none⟩) hb0).trans b0) (hpq.keep fun j h=>⟨hs j h.lt,by
    obtain ⟨⟨cs,T,f,e⟩,hn,ho⟩:=h
    exact ⟨⟨cs,T,f,(hs j (Array.getElem?_eq_some_iff.1 e).1).trans e⟩,hn,fun h2=>ho ((ownG_same (hs g hgd.1)).1 h2)⟩⟩) h0 hg2
open Go.RowKit
open Pm
theorem cnt_lit {x:ByteArray} {xs:List ByteArray} (hs:stB x=false):countB stB (x::xs)=countB stB xs:=by rw [count_cons,if_neg (by rw [hs];decide)];omega
theorem cnt_star {x:ByteArray} {xs:List ByteArray} (hs:stB x=true):countB stB (x::xs)=countB stB xs+1:=by rw [count_cons,if_pos hs];omega
end Go.Proofs.YtelkmeiepliecaaGreatDoor
