/-
  Part 40 of the proof.
-/
import Derived.Test.YtelkmeiepliecaaGreatDoorU39
set_option linter.unusedSimpArgs false
set_option linter.unusedVariables false
set_option maxHeartbeats 16000000
namespace Go.Proofs.YtelkmeiepliecaaGreatDoor
open Pm
open Go.RowKit
theorem ns9 {a b c d e f g h i:Value} (ha:nsV a) (hb:nsV b) (hc:nsV c) (hd:nsV d) (he:nsV e) (hf:nsV f) (hg:nsV g) (hh:nsV h) (hi:nsV i):∀ u∈[a,b,c,d,e,f,g,h,i],nsV u:=fun u hu=>by
 simp only [List.mem_cons,List.not_mem_nil,or_false] at hu
 rcases hu with rfl|rfl|rfl|rfl|rfl|rfl|rfl|rfl|rfl<;>assumption
def set9 (w:World) (g:Nat) (a b c d e f i j k:Value):World:=((((((((w.setCell ⟨g,0,none⟩ a).setCell ⟨g,1,none⟩ b).setCell ⟨g,2,none⟩ c).setCell ⟨g,3,none⟩ d).setCell ⟨g,4,none⟩ e).setCell ⟨g,5,none⟩ f).setCell ⟨g,6,none⟩ i).setCell ⟨g,7,none⟩ j).setCell ⟨g,8,none⟩ k
theorem BX.set9 {w:World} {g:Nat} {x0 x1 x2 x3 x4 x5 x6 x7 x8:Value} (h:BX w g [x0,x1,x2,x3,x4,x5,x6,x7,x8]) (a b c d e f i j k:Value):BX (Go.Proofs.YtelkmeiepliecaaGreatDoor.set9 w g a b c d e f i j k) g [a,b,c,d,e,f,i,j,k] :=
 ((((((((h.set (j:=0) (by simp) a).set (j:=1) (by simp) b).set (j:=2) (by simp) c).set (j:=3) (by simp) d).set (j:=4) (by simp) e).set (j:=5) (by simp) f).set (j:=6) (by simp) i).set (j:=7) (by simp) j).set (j:=8) (by simp) k
theorem ch_set9 {w:World} {g:Nat} {K:Nat→Prop} (hk:K g) (hn:NSB w g) {a b c d e f i j:Value} (ha:nsV a) (hb:nsV b) (hc:nsV c) (hd:nsV d) (he:nsV e) (hf:nsV f) (hi:nsV i) (hj:nsV j) (k:Value):Ch K w (set9 w g a b c d e f i j k):=by
 have h1:=ch_set5 hk hn ha hb hc hd e
 have n1:NSB (((((w.setCell ⟨g,0,none⟩ a).setCell ⟨g,1,none⟩ b).setCell ⟨g,2,none⟩ c).setCell ⟨g,3,none⟩ d).setCell ⟨g,4,none⟩ e) g:=((((hn.set 0 ha).set 1 hb).set 2 hc).set 3 hd).set 4 he
 exact (((h1.trans (Ch.set (p:=⟨g,5,none⟩) hk n1 f)).trans (Ch.set (p:=⟨g,6,none⟩) hk (n1.set 5 hf) i)).trans (Ch.set (p:=⟨g,7,none⟩) hk ((n1.set 5 hf).set 6 hi) j)).trans (Ch.set (p:=⟨g,8,none⟩) hk (((n1.set 5 hf).set 6 hi).set 7 hj) k)
theorem below_set9 {B g:Nat} {w w':World} (h:Below B w w') (hg:B≤g) (a b c d e f i j k:Value):Below B w (set9 w' g a b c d e f i j k) :=
 ((((((((h.setCell (p:=⟨g,0,none⟩) hg a).setCell (p:=⟨g,1,none⟩) hg b).setCell (p:=⟨g,2,none⟩) hg c).setCell (p:=⟨g,3,none⟩) hg d).setCell (p:=⟨g,4,none⟩) hg e).setCell (p:=⟨g,5,none⟩) hg f).setCell (p:=⟨g,6,none⟩) hg i).setCell (p:=⟨g,7,none⟩) hg j).setCell (p:=⟨g,8,none⟩) hg k
theorem BX.c9 {w:World} {g:Nat} {a b c d e f i j k:Value} (h:BX w g [a,b,c,d,e,f,i,j,k]):w.cell? ⟨g,0,none⟩=some a∧w.cell? ⟨g,1,none⟩=some b∧w.cell? ⟨g,2,none⟩=some c∧w.cell? ⟨g,3,none⟩=some d∧w.cell? ⟨g,4,none⟩=some e∧w.cell? ⟨g,5,none⟩=some f∧w.cell? ⟨g,6,none⟩=some i∧w.cell? ⟨g,7,none⟩=some j∧w.cell? ⟨g,8,none⟩=some k :=
 ⟨h.1 0 _ rfl,h.1 1 _ rfl,h.1 2 _ rfl,h.1 3 _ rfl,h.1 4 _ rfl,h.1 5 _ rfl,h.1 6 _ rfl,h.1 7 _ rfl,h.1 8 _ rfl⟩
def zero9:List Value:=[.slice none 0 0,.bool false,.slice none 0 0,.int .i64 0,.bool false,.slice none 0 0,.bool false,.slice none 0 0,.bool false]
def RetNw (w:World) (name:ByteArray) (p:Ln) (q:Pc) (g:Rg) (B:Option Addr) (d:Nat) (A:Option Addr) (c:Nat) (e:Ending) (w':World):Prop :=
 (nwE name p q g=0→∃ C n D m,e=.returned (.tuple #[.agg (pcV (nwP name p q g) B d A c C n D m).toArray,.int .i64 0])∧PG w' (nwP name p q g) B d A c C n D m∧Below w.heap.size w w') ∧
 (nwE name p q g≠0→e=.returned (.tuple #[.agg zero9.toArray,.int .i64 80])∧Below w.heap.size w w')
theorem RetNw.ok {w w':World} {name:ByteArray} {p:Ln} {q n9:Pc} {g:Rg} {B A C D:Option Addr} {d c n m:Nat} {e:Ending} (he:nwE name p q g=0) (hn:nwP name p q g=n9) (hx:e=.returned (.tuple #[.agg (pcV n9 B d A c C n D m).toArray,.int .i64 0])) (hp:PG w' n9 B d A c C n D m) (hb:Below w.heap.size w w'):RetNw w name p q g B d A c e w' :=
 ⟨fun _=>⟨C,n,D,m,by rw [hn];exact ⟨hx,hp,hb⟩⟩,fun h=>absurd he h⟩
theorem RetNw.bad {w w':World} {name:ByteArray} {p:Ln} {q:Pc} {g:Rg} {B A:Option Addr} {d c:Nat} {e:Ending} (he:nwE name p q g≠0) (hx:e=.returned (.tuple #[.agg zero9.toArray,.int .i64 80])) (hb:Below w.heap.size w w'):RetNw w name p q g B d A c e w' :=
 ⟨fun h=>absurd h he,fun _=>⟨hx,hb⟩⟩
set_option maxRecDepth 100000 in
theorem narrowed_any (name:ByteArray) (p:Ln) (q:Pc) (g:Rg) (B1:Option Addr) (d1:Nat) (A1:Option Addr) (c1:Nat) (B2:Option Addr) (d2:Nat) (A2:Option Addr) (c2:Nat) (C2:Option Addr) (n2:Nat) (D2:Option Addr) (m2:Nat) (B:Option Addr) (d:Nat) (A:Option Addr) (c:Nat) (w:World)
 (h1:RT w B1 d1 p.2.1.1) (h2:RT w A1 c1 p.2.2.1) (hq:PG w q B2 d2 A2 c2 C2 n2 D2 m2) (hg:RG w g B d A c) (okg:okPn g.1) (okw:okPn (wideP name p q g).1) (zg:szN 5000 g.1) (zw1:szN 5000 (wideP name p q g).1) (zw2:szN 5000 (wideP name p q g).2) (hm:ML w) :
 Calls Tryz.prog 83 #[.string name,.agg #[.int .i64 p.1,.slice B1 p.2.1.1.length d1,.bool p.2.1.2,.slice A1 p.2.2.1.length c1,.bool p.2.2.2],.agg (pcV q B2 d2 A2 c2 C2 n2 D2 m2).toArray,.agg (rgV g B d A c).toArray] w (RetNw w name p q g B d A c):=by
 have HNL:=lh (fun (W:World) C n D m k1 k2 (k3:RT W B d g.1.1) hm=>narL_P (l:=(wideP name p q g).1) (r:=(wideP name p q g).2) (h:=g.1) (ex:=false) (A:=C) (c:=n) (B:=D) (d:=m) (C:=B) (n:=d) W k1 k2 k3 hm zw1 zw2 zg okw okg)
 have HQ:At (fun W=>BN w [(w.heap.size,[.int .i64 p.1,.slice B1 p.2.1.1.length d1,.bool p.2.1.2,.slice A1 p.2.2.1.length c1,.bool p.2.2.2]),(w.heap.size+1,pcV q B2 d2 A2 c2 C2 n2 D2 m2),(w.heap.size+1+1,rgV g B d A c),(w.heap.size+1+1+1,zero9)] W∧(RT W B1 d1 p.2.1.1∧RT W A1 c1 p.2.2.1∧PG W q B2 d2 A2 c2 C2 n2 D2 m2∧RG W g B d A c)∧ML W)
  ((((w.alloc (.cells #[.int .i64 p.1,.slice B1 p.2.1.1.length d1,.bool p.2.1.2,.slice A1 p.2.2.1.length c1,.bool p.2.2.2] 51)).alloc (.cells (pcV q B2 d2 A2 c2 C2 n2 D2 m2).toArray 71)).alloc (.cells (rgV g B d A c).toArray 48)).alloc (.cells zero9.toArray 71)) :=
  ⟨fun X Y h hb=>⟨BN.kept _ _ _ _ h.1 hb,⟨h.2.1.1.below hb,h.2.1.2.1.below hb,h.2.1.2.2.1.below hb,h.2.1.2.2.2.below hb⟩,h.2.2.below hb⟩,
   ((((BN.nil w).push [_,_,_,_,_] 51 rfl (ns5 ns_int ns_slice ns_bool ns_slice ns_bool)).push (pcV q B2 d2 A2 c2 C2 n2 D2 m2) 71 (g:=w.heap.size+1) (by simp) (fun u hu=>(pcV_one _ _ _ _ _ _ _ _ _ u hu).2)).push (rgV g B d A c) 48 (g:=w.heap.size+1+1) (by simp) (rgV_ns _ _ _ _ _)).push zero9 71 (g:=w.heap.size+1+1+1) (by simp) (ns9 ns_slice ns_bool ns_slice ns_int ns_bool ns_slice ns_bool ns_slice ns_bool),
   ⟨h1.below bB,h2.below bB,hq.below bB,hg.below bB⟩,hm.below bB⟩
 have HGL:Hid (0<g.2.length→∀ a,A=some a→a.block<w.heap.size):=lh (fun h0 a ea=>hg.2.lt h0 a ea)
 have HML:=lh hm
 have HSD0:=lh (fun (W:World) (k:RT W B d g.1.1)=>stored_any B d g.1.1 g.1.2 name W k (by have:=(okPn_len okg).1;omega) (by have:=(okPn_len okg).2;omega))
 clear h1 h2 hq hg okg okw zg zw1 zw2 hm
 obtain ⟨kd,pp,pf⟩:=p
 obtain ⟨qg,kq,ql,qr⟩:=q
 obtain ⟨lr,HWP⟩:∃ lr,Hid (wideP name (kd,pp,pf) (qg,kq,ql,qr) g=lr):=⟨_,lh rfl⟩
 obtain ⟨kk,HKP⟩:∃ kk,Hid (kindP (kd,pp,pf) (qg,kq,ql,qr)=kk):=⟨_,lh rfl⟩
 obtain ⟨l,r⟩:=lr
 rw [HWP.out] at HNL
 simp only [pcV,rgV,zero9] at HQ ⊢
 simp only at HNL
 by_cases hq3:kq=3
 ·subst hq3
  obtain ⟨rfl,rfl⟩:ql=l∧qr=r:=by have:=HWP.out;simp only [wideP,if_true] at this;exact Prod.mk.inj this
  obtain rfl:kk=3:=by have:=HKP.out;simp only [kindP,if_true] at this;exact this.symm
  go_enter Tryz.func83,Tryz.ntmps83
  go_upto_region 9 with (fail)
  have HW:At (fun W=>BNX W (w.heap.size+1+1+1+1) [.bool false,.slice C2 ql.1.length n2,.bool ql.2,.slice D2 qr.1.length m2,.bool qr.2]∧BN w [(w.heap.size,[.int .i64 kd,.slice B1 pp.1.length d1,.bool pp.2,.slice A1 pf.1.length c1,.bool pf.2]),(w.heap.size+1,pcV (qg,3,ql,qr) B2 d2 A2 c2 C2 n2 D2 m2),(w.heap.size+1+1,rgV g B d A c),(w.heap.size+1+1+1,zero9)] W∧(RT W C2 n2 ql.1∧RT W D2 m2 qr.1)∧RG W g B d A c∧ML W) _ :=
   ⟨fun X Y h hb=>⟨h.1.below hb,BN.kept _ _ _ _ h.2.1 hb,⟨h.2.2.1.1.below hb,h.2.2.1.2.below hb⟩,h.2.2.2.1.below hb,h.2.2.2.2.below hb⟩,BNX.new _ [.bool false,.slice C2 ql.1.length n2,.bool ql.2,.slice D2 qr.1.length m2,.bool qr.2] 57 (by simp) (ns5 ns_bool ns_slice ns_bool ns_slice ns_bool),(HQ.go (ba _ _)).out.1,⟨(HQ.go (ba _ _)).out.2.1.2.2.1.2.1,(HQ.go (ba _ _)).out.2.1.2.2.1.2.2⟩,(HQ.go (ba _ _)).out.2.1.2.2.2,(HQ.go (ba _ _)).out.2.2⟩
  clear HQ
  generalize hV:World.alloc _ (.cells #[.bool false,.slice C2 ql.1.length n2,.bool ql.2,.slice D2 qr.1.length m2,.bool qr.2] _)=V at *
  clear hV
  obtain ⟨t0,t1,t2,t3,t4⟩:=HW.out.1.1.c5
  obtain ⟨r0,r1,r2⟩:=(HW.out.2.1.get 2 rfl).c3
  have z8:=HW.out.2.1.get 3 rfl
  obtain ⟨k0,k1,k2,k3,k4,k5,k6,k7,k8⟩:=z8.c9
  have f0:=z8.2.1 0;have f1:=z8.2.1 1;have f2:=z8.2.1 2;have f3:=z8.2.1 3;have f4:=z8.2.1 4;have f5:=z8.2.1 5;have f6:=z8.2.1 6;have f7:=z8.2.1 7;have f8:=z8.2.1 8
  by_cases hn:nrE ql qr g.1=0
  ·rw [hn] at HNL
   have HNE:Hid (nwE name (kd,pp,pf) (qg,3,ql,qr) g=0):=lh (by unfold nwE;rw [HWP.out];exact hn)
   clear hn z8
   go_wp2_with (go_at_call 44;refine (HNL.out _ _ _ _ _ HW.out.2.2.1.1 HW.out.2.2.1.2 HW.out.2.2.2.1.1 HW.out.2.2.2.2).mono ?_;rintro x w6 ⟨A6,c6,B6,d6,rfl,⟨hl6,hr6⟩,hb6⟩;replace HW:=HW.go2 bB hb6;have HR6:=lh (And.intro hl6 hr6);clear hl6 hr6 hb6 t0 t1 t2 t3 t4 r0 r1 r2 k0 k1 k2 k3 k4 k5 k6 k7 k8 f0 f1 f2 f3 f4 f5 f6 f7 f8;obtain ⟨r0,r1,r2⟩:=(HW.out.2.1.get 2 rfl).c3;have z8:=HW.out.2.1.get 3 rfl;obtain ⟨k0,k1,k2,k3,k4,k5,k6,k7,k8⟩:=z8.c9;have f0:=z8.2.1 0;have f1:=z8.2.1 1;have f2:=z8.2.1 2;have f3:=z8.2.1 3;have f4:=z8.2.1 4;have f5:=z8.2.1 5;have f6:=z8.2.1 6;have f7:=z8.2.1 7;have f8:=z8.2.1 8;have zl:=z8.2.2;have rl:=(HW.out.2.1.get 2 rfl).2.2)
   have HNP:Hid (nwP name (kd,pp,pf) (qg,3,ql,qr) g=(g,3,nrL ql qr g.1,nrR ql qr g.1)):=lh (by unfold nwP;rw [HWP.out,HKP.out])
   have hns:=HW.out.2.1.ns 3 rfl
   have hc:=ch_set9 (w:=w6) (g:=w.heap.size+1+1+1) (K:=fun j=>j=w.heap.size+1+1+1) rfl hns (ns_slice (A:=B) (n:=g.1.1.length) (c:=d)) (ns_bool (b:=g.1.2)) (ns_slice (A:=A) (n:=g.2.length) (c:=c)) (ns_int (n:=3)) (ns_bool (b:=false)) (ns_slice (A:=A6) (n:=(nrL ql qr g.1).1.length) (c:=c6)) (ns_bool (b:=(nrL ql qr g.1).2)) (ns_slice (A:=B6) (n:=(nrR ql qr g.1).1.length) (c:=d6)) (.bool (nrR ql qr g.1).2)
   have hbx:=(BX.set9 z8 (.slice B g.1.1.length d) (.bool g.1.2) (.slice A g.2.length c) (.int .i64 3) (.bool false) (.slice A6 (nrL ql qr g.1).1.length c6) (.bool (nrL ql qr g.1).2) (.slice B6 (nrR ql qr g.1).1.length d6) (.bool (nrR ql qr g.1).2)).below (ba _ (.cells #[.bool false,.slice A6 (nrL ql qr g.1).1.length c6,.bool (nrL ql qr g.1).2,.slice B6 (nrR ql qr g.1).1.length d6,.bool (nrR ql qr g.1).2] 57))
   have u0:=hbx.1 0 _ rfl;have u1:=hbx.1 1 _ rfl;have u2:=hbx.1 2 _ rfl;have u3:=hbx.1 3 _ rfl;have u4:=hbx.1 4 _ rfl;have u5:=hbx.1 5 _ rfl;have u6:=hbx.1 6 _ rfl;have u7:=hbx.1 7 _ rfl;have u8:=hbx.1 8 _ rfl
   simp only [set9] at u0 u1 u2 u3 u4 u5 u6 u7 u8
   refine bodyPost_ret (v:=.tuple #[.agg #[.slice B g.1.1.length d,.bool g.1.2,.slice A g.2.length c,.int .i64 3,.bool false,.slice A6 (nrL ql qr g.1).1.length c6,.bool (nrL ql qr g.1).2,.slice B6 (nrR ql qr g.1).1.length d6,.bool (nrR ql qr g.1).2],.int .i64 0]) (by simp [results,Tryz.results83,go_sem,u0,u1,u2,u3,u4,u5,u6,u7,u8]) rfl ?_
   refine RetNw.ok HNE.out HNP.out (C:=A6) (n:=c6) (D:=B6) (m:=d6) rfl ?_ ?_
   ·exact PG.below (w:=set9 w6 (w.heap.size+1+1+1) (.slice B g.1.1.length d) (.bool g.1.2) (.slice A g.2.length c) (.int .i64 3) (.bool false) (.slice A6 (nrL ql qr g.1).1.length c6) (.bool (nrL ql qr g.1).2) (.slice B6 (nrR ql qr g.1).1.length d6) (.bool (nrR ql qr g.1).2)) ⟨⟨HW.out.2.2.2.1.1.ch hc,HW.out.2.2.2.1.2.ch (fun h0 a ea hk=>by have:=HGL.out h0 a ea;omega) hc⟩,HR6.out.1.ch hc,HR6.out.2.ch hc⟩ (ba _ _)
   ·exact go3 (below_set9 HW.out.2.1.low (g:=w.heap.size+1+1+1) (by omega) _ _ _ _ _ _ _ _ _) (ba _ _)
  ·have hnb:(nrE ql qr g.1 != 0)=true:=by simpa using hn
   have HNE:Hid (nwE name (kd,pp,pf) (qg,3,ql,qr) g≠0):=lh (by unfold nwE;rw [HWP.out];exact hn)
   clear hn z8
   generalize nrE ql qr g.1=en at *
   go_wp2_with (go_at_call 44;refine (HNL.out _ _ _ _ _ HW.out.2.2.1.1 HW.out.2.2.1.2 HW.out.2.2.2.1.1 HW.out.2.2.2.2).mono ?_;rintro x w6 ⟨A6,c6,B6,d6,rfl,⟨hl6,hr6⟩,hb6⟩;replace HW:=HW.go2 bB hb6;clear hl6 hr6 hb6 t0 t1 t2 t3 t4 r0 r1 r2 k0 k1 k2 k3 k4 k5 k6 k7 k8 f0 f1 f2 f3 f4 f5 f6 f7 f8;obtain ⟨r0,r1,r2⟩:=(HW.out.2.1.get 2 rfl).c3;have z8:=HW.out.2.1.get 3 rfl;obtain ⟨k0,k1,k2,k3,k4,k5,k6,k7,k8⟩:=z8.c9;have f0:=z8.2.1 0;have f1:=z8.2.1 1;have f2:=z8.2.1 2;have f3:=z8.2.1 3;have f4:=z8.2.1 4;have f5:=z8.2.1 5;have f6:=z8.2.1 6;have f7:=z8.2.1 7;have f8:=z8.2.1 8;have zl:=z8.2.2;have rl:=(HW.out.2.1.get 2 rfl).2.2)
   have hbx:=(BX.set9 z8 (.slice none 0 0) (.bool false) (.slice none 0 0) (.int .i64 0) (.bool false) (.slice none 0 0) (.bool false) (.slice none 0 0) (.bool false)).below (ba _ (.cells #[.bool false,.slice A6 (nrL ql qr g.1).1.length c6,.bool (nrL ql qr g.1).2,.slice B6 (nrR ql qr g.1).1.length d6,.bool (nrR ql qr g.1).2] 57))
   have u0:=hbx.1 0 _ rfl;have u1:=hbx.1 1 _ rfl;have u2:=hbx.1 2 _ rfl;have u3:=hbx.1 3 _ rfl;have u4:=hbx.1 4 _ rfl;have u5:=hbx.1 5 _ rfl;have u6:=hbx.1 6 _ rfl;have u7:=hbx.1 7 _ rfl;have u8:=hbx.1 8 _ rfl
   simp only [set9] at u0 u1 u2 u3 u4 u5 u6 u7 u8
   refine bodyPost_ret (v:=.tuple #[.agg #[.slice none 0 0,.bool false,.slice none 0 0,.int .i64 0,.bool false,.slice none 0 0,.bool false,.slice none 0 0,.bool false],.int .i64 80]) (by simp [results,Tryz.results83,go_sem,u0,u1,u2,u3,u4,u5,u6,u7,u8]) rfl ?_
   exact RetNw.bad HNE.out rfl (go3 (below_set9 HW.out.2.1.low (g:=w.heap.size+1+1+1) (by omega) _ _ _ _ _ _ _ _ _) (ba _ _))
 ·have bq:(kq==3)=false:=by simpa using hq3
  have HQ5:At (fun W=>BNX W (w.heap.size+1+1+1+1) [.bool false,.slice none 0 0,.bool false,.slice none 0 0,.bool false]∧BN w [(w.heap.size,[.int .i64 kd,.slice B1 pp.1.length d1,.bool pp.2,.slice A1 pf.1.length c1,.bool pf.2]),(w.heap.size+1,pcV (qg,kq,ql,qr) B2 d2 A2 c2 C2 n2 D2 m2),(w.heap.size+1+1,rgV g B d A c),(w.heap.size+1+1+1,zero9)] W∧(RT W B1 d1 pp.1∧RT W A1 c1 pf.1∧PG W (qg,kq,ql,qr) B2 d2 A2 c2 C2 n2 D2 m2∧RG W g B d A c)∧ML W) _ :=
   ⟨fun X Y h hb=>⟨h.1.below hb,BN.kept _ _ _ _ h.2.1 hb,⟨h.2.2.1.1.below hb,h.2.2.1.2.1.below hb,h.2.2.1.2.2.1.below hb,h.2.2.1.2.2.2.below hb⟩,h.2.2.2.below hb⟩,BNX.new _ [.bool false,.slice none 0 0,.bool false,.slice none 0 0,.bool false] 57 (by simp) (ns5 ns_bool ns_slice ns_bool ns_slice ns_bool),(HQ.go (ba _ _)).out.1,(HQ.go (ba _ _)).out.2.1,(HQ.go (ba _ _)).out.2.2⟩
  clear HQ
  by_cases hk3:kd=3
  ·subst hk3
   obtain ⟨rfl,rfl⟩:pp=l∧pf=r:=by have:=HWP.out;simp only [wideP,if_neg hq3,if_true] at this;exact Prod.mk.inj this
   obtain rfl:kk=3:=by have:=HKP.out;simp only [kindP,if_neg hq3,if_true] at this;exact this.symm
   go_enter Tryz.func83,Tryz.ntmps83
   go_upto_region 9 with (go_at_call 67;refine (imported_any _ _ _ _ _ _ _ _ _ _).mono ?_;rintro e w5 ⟨rfl,hb5⟩;replace HQ5:=HQ5.go2 bB hb5;obtain ⟨x0,x1,x2,x3,x4⟩:=HQ5.out.1.1.c5;have g0:=HQ5.out.1.1.2.1 0;have g1:=HQ5.out.1.1.2.1 1;have g2:=HQ5.out.1.1.2.1 2;have g3:=HQ5.out.1.1.2.1 3;have g4:=HQ5.out.1.1.2.1 4;clear hb5)
   have RRT1:=HQ5.out.2.2.1.1
   have RRT2:=HQ5.out.2.2.1.2.1
   clear x0 x1 x2 x3 x4 g0 g1 g2 g3 g4
   have z5:=HQ5.out.1
   have hc5:=ch_set5 (K:=fun j=>j=w.heap.size+1+1+1+1) rfl z5.2 (ns_bool (b:=false)) (ns_slice (A:=B1) (n:=pp.1.length) (c:=d1)) (ns_bool (b:=pp.2)) (ns_slice (A:=A1) (n:=pf.1.length) (c:=c1)) (.bool pf.2)
   have hl5:=HQ5.out.2.1.low
   have HW:At (fun W=>BNX W (w.heap.size+1+1+1+1) [.bool false,.slice B1 pp.1.length d1,.bool pp.2,.slice A1 pf.1.length c1,.bool pf.2]∧BN w [(w.heap.size,[.int .i64 3,.slice B1 pp.1.length d1,.bool pp.2,.slice A1 pf.1.length c1,.bool pf.2]),(w.heap.size+1,pcV (qg,kq,ql,qr) B2 d2 A2 c2 C2 n2 D2 m2),(w.heap.size+1+1,rgV g B d A c),(w.heap.size+1+1+1,zero9)] W∧(RT W B1 d1 pp.1∧RT W A1 c1 pf.1)∧RG W g B d A c∧ML W) _ :=
    ⟨fun X Y h hb=>⟨h.1.below hb,BN.kept _ _ _ _ h.2.1 hb,⟨h.2.2.1.1.below hb,h.2.2.1.2.below hb⟩,h.2.2.2.1.below hb,h.2.2.2.2.below hb⟩,⟨BX.set5 z5.1 (.bool false) (.slice B1 pp.1.length d1) (.bool pp.2) (.slice A1 pf.1.length c1) (.bool pf.2),((((z5.2.set 0 ns_bool).set 1 ns_slice).set 2 ns_bool).set 3 ns_slice).set 4 ns_bool⟩,
     HQ5.out.2.1.grown (gb_set5 (g:=w.heap.size+1+1+1+1) _ _ _ _ _) (fun j hj=>by cases hj;exact ⟨fun x hx=>by
      simp only [List.mem_cons,List.not_mem_nil,or_false] at hx
      rcases hx with rfl|rfl|rfl|rfl<;>(dsimp only;omega),by omega⟩),
     ⟨RRT1.ch hc5,RRT2.ch hc5⟩,⟨HQ5.out.2.2.1.2.2.2.1.ch hc5,HQ5.out.2.2.1.2.2.2.2.ch (fun h0 a ea hk=>by have:=HGL.out h0 a ea;omega) hc5⟩,HML.out.below (((((hl5.setCell (p:=⟨w.heap.size+1+1+1+1,0,none⟩) (by show w.heap.size≤w.heap.size+1+1+1+1;omega) _).setCell (p:=⟨w.heap.size+1+1+1+1,1,none⟩) (by show w.heap.size≤w.heap.size+1+1+1+1;omega) _).setCell (p:=⟨w.heap.size+1+1+1+1,2,none⟩) (by show w.heap.size≤w.heap.size+1+1+1+1;omega) _).setCell (p:=⟨w.heap.size+1+1+1+1,3,none⟩) (by show w.heap.size≤w.heap.size+1+1+1+1;omega) _).setCell (p:=⟨w.heap.size+1+1+1+1,4,none⟩) (by show w.heap.size≤w.heap.size+1+1+1+1;omega) _)⟩
   clear z5 hc5 hl5 HQ5
   clear RRT1 RRT2
   generalize hV:World.setCell (World.setCell (World.setCell (World.setCell (World.setCell w5 _ _) _ _) _ _) _ _) _ _=V at *
   clear hV
   obtain ⟨t0,t1,t2,t3,t4⟩:=HW.out.1.1.c5
   obtain ⟨r0,r1,r2⟩:=(HW.out.2.1.get 2 rfl).c3
   have z8:=HW.out.2.1.get 3 rfl
   obtain ⟨k0,k1,k2,k3,k4,k5,k6,k7,k8⟩:=z8.c9
   have f0:=z8.2.1 0;have f1:=z8.2.1 1;have f2:=z8.2.1 2;have f3:=z8.2.1 3;have f4:=z8.2.1 4;have f5:=z8.2.1 5;have f6:=z8.2.1 6;have f7:=z8.2.1 7;have f8:=z8.2.1 8
   by_cases hn:nrE pp pf g.1=0
   ·rw [hn] at HNL
    have HNE:Hid (nwE name (3,pp,pf) (qg,kq,ql,qr) g=0):=lh (by unfold nwE;rw [HWP.out];exact hn)
    clear hn z8
    go_wp2_with (go_at_call 44;refine (HNL.out _ _ _ _ _ HW.out.2.2.1.1 HW.out.2.2.1.2 HW.out.2.2.2.1.1 HW.out.2.2.2.2).mono ?_;rintro x w6 ⟨A6,c6,B6,d6,rfl,⟨hl6,hr6⟩,hb6⟩;replace HW:=HW.go2 bB hb6;have HR6:=lh (And.intro hl6 hr6);clear hl6 hr6 hb6 t0 t1 t2 t3 t4 r0 r1 r2 k0 k1 k2 k3 k4 k5 k6 k7 k8 f0 f1 f2 f3 f4 f5 f6 f7 f8;obtain ⟨r0,r1,r2⟩:=(HW.out.2.1.get 2 rfl).c3;have z8:=HW.out.2.1.get 3 rfl;obtain ⟨k0,k1,k2,k3,k4,k5,k6,k7,k8⟩:=z8.c9;have f0:=z8.2.1 0;have f1:=z8.2.1 1;have f2:=z8.2.1 2;have f3:=z8.2.1 3;have f4:=z8.2.1 4;have f5:=z8.2.1 5;have f6:=z8.2.1 6;have f7:=z8.2.1 7;have f8:=z8.2.1 8;have zl:=z8.2.2;have rl:=(HW.out.2.1.get 2 rfl).2.2)
    have HNP:Hid (nwP name (3,pp,pf) (qg,kq,ql,qr) g=(g,3,nrL pp pf g.1,nrR pp pf g.1)):=lh (by unfold nwP;rw [HWP.out,HKP.out])
    have hns:=HW.out.2.1.ns 3 rfl
    have hc:=ch_set9 (w:=w6) (g:=w.heap.size+1+1+1) (K:=fun j=>j=w.heap.size+1+1+1) rfl hns (ns_slice (A:=B) (n:=g.1.1.length) (c:=d)) (ns_bool (b:=g.1.2)) (ns_slice (A:=A) (n:=g.2.length) (c:=c)) (ns_int (n:=3)) (ns_bool (b:=false)) (ns_slice (A:=A6) (n:=(nrL pp pf g.1).1.length) (c:=c6)) (ns_bool (b:=(nrL pp pf g.1).2)) (ns_slice (A:=B6) (n:=(nrR pp pf g.1).1.length) (c:=d6)) (.bool (nrR pp pf g.1).2)
    have hbx:=(BX.set9 z8 (.slice B g.1.1.length d) (.bool g.1.2) (.slice A g.2.length c) (.int .i64 3) (.bool false) (.slice A6 (nrL pp pf g.1).1.length c6) (.bool (nrL pp pf g.1).2) (.slice B6 (nrR pp pf g.1).1.length d6) (.bool (nrR pp pf g.1).2)).below (ba _ (.cells #[.bool false,.slice A6 (nrL pp pf g.1).1.length c6,.bool (nrL pp pf g.1).2,.slice B6 (nrR pp pf g.1).1.length d6,.bool (nrR pp pf g.1).2] 57))
    have u0:=hbx.1 0 _ rfl;have u1:=hbx.1 1 _ rfl;have u2:=hbx.1 2 _ rfl;have u3:=hbx.1 3 _ rfl;have u4:=hbx.1 4 _ rfl;have u5:=hbx.1 5 _ rfl;have u6:=hbx.1 6 _ rfl;have u7:=hbx.1 7 _ rfl;have u8:=hbx.1 8 _ rfl
    simp only [set9] at u0 u1 u2 u3 u4 u5 u6 u7 u8
    refine bodyPost_ret (v:=.tuple #[.agg #[.slice B g.1.1.length d,.bool g.1.2,.slice A g.2.length c,.int .i64 3,.bool false,.slice A6 (nrL pp pf g.1).1.length c6,.bool (nrL pp pf g.1).2,.slice B6 (nrR pp pf g.1).1.length d6,.bool (nrR pp pf g.1).2],.int .i64 0]) (by simp [results,Tryz.results83,go_sem,u0,u1,u2,u3,u4,u5,u6,u7,u8]) rfl ?_
    refine RetNw.ok HNE.out HNP.out (C:=A6) (n:=c6) (D:=B6) (m:=d6) rfl ?_ ?_
    ·exact PG.below (w:=set9 w6 (w.heap.size+1+1+1) (.slice B g.1.1.length d) (.bool g.1.2) (.slice A g.2.length c) (.int .i64 3) (.bool false) (.slice A6 (nrL pp pf g.1).1.length c6) (.bool (nrL pp pf g.1).2) (.slice B6 (nrR pp pf g.1).1.length d6) (.bool (nrR pp pf g.1).2)) ⟨⟨HW.out.2.2.2.1.1.ch hc,HW.out.2.2.2.1.2.ch (fun h0 a ea hk=>by have:=HGL.out h0 a ea;omega) hc⟩,HR6.out.1.ch hc,HR6.out.2.ch hc⟩ (ba _ _)
    ·exact go3 (below_set9 HW.out.2.1.low (g:=w.heap.size+1+1+1) (by omega) _ _ _ _ _ _ _ _ _) (ba _ _)
   ·have hnb:(nrE pp pf g.1 != 0)=true:=by simpa using hn
    have HNE:Hid (nwE name (3,pp,pf) (qg,kq,ql,qr) g≠0):=lh (by unfold nwE;rw [HWP.out];exact hn)
    clear hn z8
    generalize nrE pp pf g.1=en at *
    go_wp2_with (go_at_call 44;refine (HNL.out _ _ _ _ _ HW.out.2.2.1.1 HW.out.2.2.1.2 HW.out.2.2.2.1.1 HW.out.2.2.2.2).mono ?_;rintro x w6 ⟨A6,c6,B6,d6,rfl,⟨hl6,hr6⟩,hb6⟩;replace HW:=HW.go2 bB hb6;clear hl6 hr6 hb6 t0 t1 t2 t3 t4 r0 r1 r2 k0 k1 k2 k3 k4 k5 k6 k7 k8 f0 f1 f2 f3 f4 f5 f6 f7 f8;obtain ⟨r0,r1,r2⟩:=(HW.out.2.1.get 2 rfl).c3;have z8:=HW.out.2.1.get 3 rfl;obtain ⟨k0,k1,k2,k3,k4,k5,k6,k7,k8⟩:=z8.c9;have f0:=z8.2.1 0;have f1:=z8.2.1 1;have f2:=z8.2.1 2;have f3:=z8.2.1 3;have f4:=z8.2.1 4;have f5:=z8.2.1 5;have f6:=z8.2.1 6;have f7:=z8.2.1 7;have f8:=z8.2.1 8;have zl:=z8.2.2;have rl:=(HW.out.2.1.get 2 rfl).2.2)
    have hbx:=(BX.set9 z8 (.slice none 0 0) (.bool false) (.slice none 0 0) (.int .i64 0) (.bool false) (.slice none 0 0) (.bool false) (.slice none 0 0) (.bool false)).below (ba _ (.cells #[.bool false,.slice A6 (nrL pp pf g.1).1.length c6,.bool (nrL pp pf g.1).2,.slice B6 (nrR pp pf g.1).1.length d6,.bool (nrR pp pf g.1).2] 57))
    have u0:=hbx.1 0 _ rfl;have u1:=hbx.1 1 _ rfl;have u2:=hbx.1 2 _ rfl;have u3:=hbx.1 3 _ rfl;have u4:=hbx.1 4 _ rfl;have u5:=hbx.1 5 _ rfl;have u6:=hbx.1 6 _ rfl;have u7:=hbx.1 7 _ rfl;have u8:=hbx.1 8 _ rfl
    simp only [set9] at u0 u1 u2 u3 u4 u5 u6 u7 u8
    refine bodyPost_ret (v:=.tuple #[.agg #[.slice none 0 0,.bool false,.slice none 0 0,.int .i64 0,.bool false,.slice none 0 0,.bool false,.slice none 0 0,.bool false],.int .i64 80]) (by simp [results,Tryz.results83,go_sem,u0,u1,u2,u3,u4,u5,u6,u7,u8]) rfl ?_
    exact RetNw.bad HNE.out rfl (go3 (below_set9 HW.out.2.1.low (g:=w.heap.size+1+1+1) (by omega) _ _ _ _ _ _ _ _ _) (ba _ _))
  ·have bk:(kd==3)=false:=by simpa using hk3
   obtain ⟨rfl,HR⟩:g.1=l∧Hid (stoP g.1 name=r):=by have:=HWP.out;simp only [wideP,if_neg hq3,if_neg hk3] at this;exact ⟨(Prod.mk.inj this).1,lh (Prod.mk.inj this).2⟩
   obtain rfl:kk=ownK kd kq:=by have:=HKP.out;simp only [kindP,if_neg hq3,if_neg hk3] at this;exact this.symm
   have HSD:Hid (∀ W:World,RT W B d g.1.1→Calls Tryz.prog 22 #[.agg #[.slice B g.1.1.length d,.bool g.1.2],.string name] W (RetSd W r.1 r.2)):=lh (fun W k=>by have:=HSD0.out W k;rw [show g.1.1.set 0 name=r.1 from by rw [←HR.out];rfl] at this;rw [show r.2=g.1.2 from by rw [←HR.out];rfl];exact this)
   have HKS:Hid (∀ W:World,(BNX W (w.heap.size+1+1+1+1) [.bool false,.slice none 0 0,.bool false,.slice none 0 0,.bool false]∧BN w [(w.heap.size,[.int .i64 kd,.slice B1 pp.1.length d1,.bool pp.2,.slice A1 pf.1.length c1,.bool pf.2]),(w.heap.size+1,pcV (qg,kq,ql,qr) B2 d2 A2 c2 C2 n2 D2 m2),(w.heap.size+1+1,rgV g B d A c),(w.heap.size+1+1+1,zero9)] W∧(RT W B1 d1 pp.1∧RT W A1 c1 pf.1∧PG W (qg,kq,ql,qr) B2 d2 A2 c2 C2 n2 D2 m2∧RG W g B d A c)∧ML W)→W.cell? ⟨w.heap.size+1+1,0,none⟩=some (.slice B g.1.1.length d)∧W.cell? ⟨w.heap.size+1+1,1,none⟩=some (.bool g.1.2)):=lh (fun W h=>⟨(h.2.1.get 2 rfl).c3.1,(h.2.1.get 2 rfl).c3.2.1⟩)
   have HK5:Hid (∀ (W:World) (v0 v1 v2 v3 v4:Value),(BNX W (w.heap.size+1+1+1+1) [.bool false,.slice none 0 0,.bool false,.slice none 0 0,.bool false]∧BN w [(w.heap.size,[.int .i64 kd,.slice B1 pp.1.length d1,.bool pp.2,.slice A1 pf.1.length c1,.bool pf.2]),(w.heap.size+1,pcV (qg,kq,ql,qr) B2 d2 A2 c2 C2 n2 D2 m2),(w.heap.size+1+1,rgV g B d A c),(w.heap.size+1+1+1,zero9)] W∧(RT W B1 d1 pp.1∧RT W A1 c1 pf.1∧PG W (qg,kq,ql,qr) B2 d2 A2 c2 C2 n2 D2 m2∧RG W g B d A c)∧ML W)→(((((W.setCell ⟨w.heap.size+1+1+1+1,0,none⟩ v0).setCell ⟨w.heap.size+1+1+1+1,1,none⟩ v1).setCell ⟨w.heap.size+1+1+1+1,2,none⟩ v2).setCell ⟨w.heap.size+1+1+1+1,3,none⟩ v3).setCell ⟨w.heap.size+1+1+1+1,4,none⟩ v4).cell? ⟨w.heap.size+1+1,0,none⟩=some (.slice B g.1.1.length d)∧(((((W.setCell ⟨w.heap.size+1+1+1+1,0,none⟩ v0).setCell ⟨w.heap.size+1+1+1+1,1,none⟩ v1).setCell ⟨w.heap.size+1+1+1+1,2,none⟩ v2).setCell ⟨w.heap.size+1+1+1+1,3,none⟩ v3).setCell ⟨w.heap.size+1+1+1+1,4,none⟩ v4).cell? ⟨w.heap.size+1+1,1,none⟩=some (.bool g.1.2)):=lh (fun W v0 v1 v2 v3 v4 h=>by
    rw [set5_other _ _ _ _ _ (by omega),set5_other _ _ _ _ _ (by omega)]
    exact HKS.out W h)
   go_enter Tryz.func83,Tryz.ntmps83
   go_upto_region 4 with (go_at_call 68;refine (ownKind2 _ _ _).mono ?_;rintro e w4 ⟨rfl,rfl⟩)
   obtain ⟨r0,r1⟩:=HKS.out _ HQ5.out
   go_region_held3 (fun W=>W.cell? ⟨w.heap.size+1+1,0,none⟩=some (.slice B g.1.1.length d)∧W.cell? ⟨w.heap.size+1+1,1,none⟩=some (.bool g.1.2))
    (first|(with_reducible refine HK5.out _ _ _ _ _ _ (HQ5.go ?_).out<;>(repeat (first|with_reducible exact Below.refl _ _|with_reducible apply Below.drew|with_reducible apply below_drewN|with_reducible apply below_al))<;>done)|(with_reducible refine HKS.out _ (HQ5.go ?_).out<;>(repeat (first|with_reducible exact Below.refl _ _|with_reducible apply Below.drew|with_reducible apply below_drewN|with_reducible apply below_al))<;>done)|go_keep)
    ((go_at_call 22;refine (HSD.out _ (HQ5.go bB).out.2.2.1.2.2.2.1).mono ?_;rintro e w5 ⟨E,f,rfl,hrt,hb5⟩;replace HQ5:=HQ5.go2 bB hb5;have HRT:=lh hrt;obtain ⟨x0,x1,x2,x3,x4⟩:=HQ5.out.1.1.c5;have g0:=HQ5.out.1.1.2.1 0;have g1:=HQ5.out.1.1.2.1 1;have g2:=HQ5.out.1.1.2.1 2;have g3:=HQ5.out.1.1.2.1 3;have g4:=HQ5.out.1.1.2.1 4;clear hb5 hrt))
   clear x0 x1 x2 x3 x4 g0 g1 g2 g3 g4 HKS HK5 HSD HSD0
   have RRT1:=HQ5.out.2.2.1.2.2.2.1
   have RRT2:=HRT.out
   have z5:=HQ5.out.1
   have hc5:=ch_set5 (K:=fun j=>j=w.heap.size+1+1+1+1) rfl z5.2 (ns_bool (b:=false)) (ns_slice (A:=B) (n:=g.1.1.length) (c:=d)) (ns_bool (b:=g.1.2)) (ns_slice (A:=E) (n:=r.1.length) (c:=f)) (.bool r.2)
   have hl5:=HQ5.out.2.1.low
   have HW:At (fun W=>BNX W (w.heap.size+1+1+1+1) [.bool false,.slice B g.1.1.length d,.bool g.1.2,.slice E r.1.length f,.bool r.2]∧BN w [(w.heap.size,[.int .i64 kd,.slice B1 pp.1.length d1,.bool pp.2,.slice A1 pf.1.length c1,.bool pf.2]),(w.heap.size+1,pcV (qg,kq,ql,qr) B2 d2 A2 c2 C2 n2 D2 m2),(w.heap.size+1+1,rgV g B d A c),(w.heap.size+1+1+1,zero9)] W∧(RT W B d g.1.1∧RT W E f r.1)∧RG W g B d A c∧ML W) _ :=
    ⟨fun X Y h hb=>⟨h.1.below hb,BN.kept _ _ _ _ h.2.1 hb,⟨h.2.2.1.1.below hb,h.2.2.1.2.below hb⟩,h.2.2.2.1.below hb,h.2.2.2.2.below hb⟩,⟨BX.set5 z5.1 (.bool false) (.slice B g.1.1.length d) (.bool g.1.2) (.slice E r.1.length f) (.bool r.2),((((z5.2.set 0 ns_bool).set 1 ns_slice).set 2 ns_bool).set 3 ns_slice).set 4 ns_bool⟩,
     HQ5.out.2.1.grown (gb_set5 (g:=w.heap.size+1+1+1+1) _ _ _ _ _) (fun j hj=>by cases hj;exact ⟨fun x hx=>by
      simp only [List.mem_cons,List.not_mem_nil,or_false] at hx
      rcases hx with rfl|rfl|rfl|rfl<;>(dsimp only;omega),by omega⟩),
     ⟨RRT1.ch hc5,RRT2.ch hc5⟩,⟨HQ5.out.2.2.1.2.2.2.1.ch hc5,HQ5.out.2.2.1.2.2.2.2.ch (fun h0 a ea hk=>by have:=HGL.out h0 a ea;omega) hc5⟩,HML.out.below (((((hl5.setCell (p:=⟨w.heap.size+1+1+1+1,0,none⟩) (by show w.heap.size≤w.heap.size+1+1+1+1;omega) _).setCell (p:=⟨w.heap.size+1+1+1+1,1,none⟩) (by show w.heap.size≤w.heap.size+1+1+1+1;omega) _).setCell (p:=⟨w.heap.size+1+1+1+1,2,none⟩) (by show w.heap.size≤w.heap.size+1+1+1+1;omega) _).setCell (p:=⟨w.heap.size+1+1+1+1,3,none⟩) (by show w.heap.size≤w.heap.size+1+1+1+1;omega) _).setCell (p:=⟨w.heap.size+1+1+1+1,4,none⟩) (by show w.heap.size≤w.heap.size+1+1+1+1;omega) _)⟩
   clear z5 hc5 hl5 HQ5
   clear RRT1 RRT2 HRT
   try clear hHeld r0 r1
   generalize hV:World.setCell (World.setCell (World.setCell (World.setCell (World.setCell w5 _ _) _ _) _ _) _ _) _ _=V at *
   clear hV
   generalize ownK kd kq=kk at *
   go_upto_region 9 with (fail)
   obtain ⟨t0,t1,t2,t3,t4⟩:=HW.out.1.1.c5
   obtain ⟨r0,r1,r2⟩:=(HW.out.2.1.get 2 rfl).c3
   have z8:=HW.out.2.1.get 3 rfl
   obtain ⟨k0,k1,k2,k3,k4,k5,k6,k7,k8⟩:=z8.c9
   have f0:=z8.2.1 0;have f1:=z8.2.1 1;have f2:=z8.2.1 2;have f3:=z8.2.1 3;have f4:=z8.2.1 4;have f5:=z8.2.1 5;have f6:=z8.2.1 6;have f7:=z8.2.1 7;have f8:=z8.2.1 8
   by_cases hn:nrE g.1 r g.1=0
   ·rw [hn] at HNL
    have HNE:Hid (nwE name (kd,pp,pf) (qg,kq,ql,qr) g=0):=lh (by unfold nwE;rw [HWP.out];exact hn)
    clear hn z8
    go_wp2_with (go_at_call 44;refine (HNL.out _ _ _ _ _ HW.out.2.2.1.1 HW.out.2.2.1.2 HW.out.2.2.2.1.1 HW.out.2.2.2.2).mono ?_;rintro x w6 ⟨A6,c6,B6,d6,rfl,⟨hl6,hr6⟩,hb6⟩;replace HW:=HW.go2 bB hb6;have HR6:=lh (And.intro hl6 hr6);clear hl6 hr6 hb6 t0 t1 t2 t3 t4 r0 r1 r2 k0 k1 k2 k3 k4 k5 k6 k7 k8 f0 f1 f2 f3 f4 f5 f6 f7 f8;obtain ⟨r0,r1,r2⟩:=(HW.out.2.1.get 2 rfl).c3;have z8:=HW.out.2.1.get 3 rfl;obtain ⟨k0,k1,k2,k3,k4,k5,k6,k7,k8⟩:=z8.c9;have f0:=z8.2.1 0;have f1:=z8.2.1 1;have f2:=z8.2.1 2;have f3:=z8.2.1 3;have f4:=z8.2.1 4;have f5:=z8.2.1 5;have f6:=z8.2.1 6;have f7:=z8.2.1 7;have f8:=z8.2.1 8;have zl:=z8.2.2;have rl:=(HW.out.2.1.get 2 rfl).2.2)
    have HNP:Hid (nwP name (kd,pp,pf) (qg,kq,ql,qr) g=(g,kk,nrL g.1 r g.1,nrR g.1 r g.1)):=lh (by unfold nwP;rw [HWP.out,HKP.out])
    have hns:=HW.out.2.1.ns 3 rfl
    have hc:=ch_set9 (w:=w6) (g:=w.heap.size+1+1+1) (K:=fun j=>j=w.heap.size+1+1+1) rfl hns (ns_slice (A:=B) (n:=g.1.1.length) (c:=d)) (ns_bool (b:=g.1.2)) (ns_slice (A:=A) (n:=g.2.length) (c:=c)) (ns_int (n:=kk)) (ns_bool (b:=false)) (ns_slice (A:=A6) (n:=(nrL g.1 r g.1).1.length) (c:=c6)) (ns_bool (b:=(nrL g.1 r g.1).2)) (ns_slice (A:=B6) (n:=(nrR g.1 r g.1).1.length) (c:=d6)) (.bool (nrR g.1 r g.1).2)
    have hbx:=(BX.set9 z8 (.slice B g.1.1.length d) (.bool g.1.2) (.slice A g.2.length c) (.int .i64 kk) (.bool false) (.slice A6 (nrL g.1 r g.1).1.length c6) (.bool (nrL g.1 r g.1).2) (.slice B6 (nrR g.1 r g.1).1.length d6) (.bool (nrR g.1 r g.1).2)).below (ba _ (.cells #[.bool false,.slice A6 (nrL g.1 r g.1).1.length c6,.bool (nrL g.1 r g.1).2,.slice B6 (nrR g.1 r g.1).1.length d6,.bool (nrR g.1 r g.1).2] 57))
    have u0:=hbx.1 0 _ rfl;have u1:=hbx.1 1 _ rfl;have u2:=hbx.1 2 _ rfl;have u3:=hbx.1 3 _ rfl;have u4:=hbx.1 4 _ rfl;have u5:=hbx.1 5 _ rfl;have u6:=hbx.1 6 _ rfl;have u7:=hbx.1 7 _ rfl;have u8:=hbx.1 8 _ rfl
    simp only [set9] at u0 u1 u2 u3 u4 u5 u6 u7 u8
    refine bodyPost_ret (v:=.tuple #[.agg #[.slice B g.1.1.length d,.bool g.1.2,.slice A g.2.length c,.int .i64 kk,.bool false,.slice A6 (nrL g.1 r g.1).1.length c6,.bool (nrL g.1 r g.1).2,.slice B6 (nrR g.1 r g.1).1.length d6,.bool (nrR g.1 r g.1).2],.int .i64 0]) (by simp [results,Tryz.results83,go_sem,u0,u1,u2,u3,u4,u5,u6,u7,u8]) rfl ?_
    refine RetNw.ok HNE.out HNP.out (C:=A6) (n:=c6) (D:=B6) (m:=d6) rfl ?_ ?_
    ·exact PG.below (w:=set9 w6 (w.heap.size+1+1+1) (.slice B g.1.1.length d) (.bool g.1.2) (.slice A g.2.length c) (.int .i64 kk) (.bool false) (.slice A6 (nrL g.1 r g.1).1.length c6) (.bool (nrL g.1 r g.1).2) (.slice B6 (nrR g.1 r g.1).1.length d6) (.bool (nrR g.1 r g.1).2)) ⟨⟨HW.out.2.2.2.1.1.ch hc,HW.out.2.2.2.1.2.ch (fun h0 a ea hk=>by have:=HGL.out h0 a ea;omega) hc⟩,HR6.out.1.ch hc,HR6.out.2.ch hc⟩ (ba _ _)
    ·exact go3 (below_set9 HW.out.2.1.low (g:=w.heap.size+1+1+1) (by omega) _ _ _ _ _ _ _ _ _) (ba _ _)
   ·have hnb:(nrE g.1 r g.1 != 0)=true:=by simpa using hn
    have HNE:Hid (nwE name (kd,pp,pf) (qg,kq,ql,qr) g≠0):=lh (by unfold nwE;rw [HWP.out];exact hn)
    clear hn z8
    generalize nrE g.1 r g.1=en at *
    go_wp2_with (go_at_call 44;refine (HNL.out _ _ _ _ _ HW.out.2.2.1.1 HW.out.2.2.1.2 HW.out.2.2.2.1.1 HW.out.2.2.2.2).mono ?_;rintro x w6 ⟨A6,c6,B6,d6,rfl,⟨hl6,hr6⟩,hb6⟩;replace HW:=HW.go2 bB hb6;clear hl6 hr6 hb6 t0 t1 t2 t3 t4 r0 r1 r2 k0 k1 k2 k3 k4 k5 k6 k7 k8 f0 f1 f2 f3 f4 f5 f6 f7 f8;obtain ⟨r0,r1,r2⟩:=(HW.out.2.1.get 2 rfl).c3;have z8:=HW.out.2.1.get 3 rfl;obtain ⟨k0,k1,k2,k3,k4,k5,k6,k7,k8⟩:=z8.c9;have f0:=z8.2.1 0;have f1:=z8.2.1 1;have f2:=z8.2.1 2;have f3:=z8.2.1 3;have f4:=z8.2.1 4;have f5:=z8.2.1 5;have f6:=z8.2.1 6;have f7:=z8.2.1 7;have f8:=z8.2.1 8;have zl:=z8.2.2;have rl:=(HW.out.2.1.get 2 rfl).2.2)
    have hbx:=(BX.set9 z8 (.slice none 0 0) (.bool false) (.slice none 0 0) (.int .i64 0) (.bool false) (.slice none 0 0) (.bool false) (.slice none 0 0) (.bool false)).below (ba _ (.cells #[.bool false,.slice A6 (nrL g.1 r g.1).1.length c6,.bool (nrL g.1 r g.1).2,.slice B6 (nrR g.1 r g.1).1.length d6,.bool (nrR g.1 r g.1).2] 57))
    have u0:=hbx.1 0 _ rfl;have u1:=hbx.1 1 _ rfl;have u2:=hbx.1 2 _ rfl;have u3:=hbx.1 3 _ rfl;have u4:=hbx.1 4 _ rfl;have u5:=hbx.1 5 _ rfl;have u6:=hbx.1 6 _ rfl;have u7:=hbx.1 7 _ rfl;have u8:=hbx.1 8 _ rfl
    simp only [set9] at u0 u1 u2 u3 u4 u5 u6 u7 u8
    refine bodyPost_ret (v:=.tuple #[.agg #[.slice none 0 0,.bool false,.slice none 0 0,.int .i64 0,.bool false,.slice none 0 0,.bool false,.slice none 0 0,.bool false],.int .i64 80]) (by simp [results,Tryz.results83,go_sem,u0,u1,u2,u3,u4,u5,u6,u7,u8]) rfl ?_
    exact RetNw.bad HNE.out rfl (go3 (below_set9 HW.out.2.1.low (g:=w.heap.size+1+1+1) (by omega) _ _ _ _ _ _ _ _ _) (ba _ _))
end Go.Proofs.YtelkmeiepliecaaGreatDoor
