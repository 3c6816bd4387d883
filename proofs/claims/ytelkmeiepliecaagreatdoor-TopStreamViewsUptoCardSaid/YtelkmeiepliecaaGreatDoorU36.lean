/-
  Part 36 of the proof.
-/
import Derived.Test.YtelkmeiepliecaaGreatDoorU35
import Derived.Deep.RegionHeld
import Derived.OrdersIn
set_option linter.unusedSimpArgs false
set_option linter.unusedVariables false
set_option maxHeartbeats 16000000
namespace Go.Proofs.YtelkmeiepliecaaGreatDoor
open Pm
open Go.RowKit Go.Shelf
attribute [local go_sem] Oper.semAt_some
theorem BX.nc {W W':World} {g:Nat} {v:Value} {cs:List Value} {row:Option Nat} (h:BX W g (v::cs)) (hg:W.grownBy W' row) (hr:∀ r,row=some r→∃ o:Obj,W.heap[r]? = some o∧o.isCells=false):BX W' g (v::cs):=h.grown hg fun e=>by
 obtain ⟨o,ho,hc⟩:=hr g e
 have:=h.1 0 v rfl
 unfold World.cell? at this
 rw [ho] at this
 cases o<;>first|(cases hc;done)|(cases this;done)
theorem two_boxes {W:World} {g4 g5:Nat} {x0 x1 x2 x3 x4 y:Value} (h4:BX W g4 [x0,x1,x2,x3,x4]) (h5:BX W g5 [y]) (hne:g4≠g5) (a b c d e f:Value) :
 BX ((((((W.setCell ⟨g4,0,none⟩ a).setCell ⟨g4,1,none⟩ b).setCell ⟨g4,2,none⟩ c).setCell ⟨g4,3,none⟩ d).setCell ⟨g4,4,none⟩ e).setCell ⟨g5,0,none⟩ f) g4 [a,b,c,d,e]∧BX ((((((W.setCell ⟨g4,0,none⟩ a).setCell ⟨g4,1,none⟩ b).setCell ⟨g4,2,none⟩ c).setCell ⟨g4,3,none⟩ d).setCell ⟨g4,4,none⟩ e).setCell ⟨g5,0,none⟩ f) g5 [f] ∧
  KeepsOthers W ((((((W.setCell ⟨g4,0,none⟩ a).setCell ⟨g4,1,none⟩ b).setCell ⟨g4,2,none⟩ c).setCell ⟨g4,3,none⟩ d).setCell ⟨g4,4,none⟩ e).setCell ⟨g5,0,none⟩ f):=by
 refine ⟨(h4.set5 a b c d e).other (fun e=>hne e.symm) f,?_,?_⟩
 ·exact BX.set (cs:=[y]) (((((h5.other (p:=⟨g4,0,none⟩) hne a).other (p:=⟨g4,1,none⟩) hne b).other (p:=⟨g4,2,none⟩) hne c).other (p:=⟨g4,3,none⟩) hne d).other (p:=⟨g4,4,none⟩) hne e) (j:=0) (by simp) f
 ·exact (((((KeepsOthers.setCell _ _ _).trans (KeepsOthers.setCell _ _ _)).trans (KeepsOthers.setCell _ _ _)).trans (KeepsOthers.setCell _ _ _)).trans (KeepsOthers.setCell _ _ _)).trans (KeepsOthers.setCell _ _ _)
theorem below_twob {B g4 g5:Nat} {w W:World} (h:Below B w W) (h4:B≤g4) (h5:B≤g5) (a b c d e f:Value):Below B w ((((((W.setCell ⟨g4,0,none⟩ a).setCell ⟨g4,1,none⟩ b).setCell ⟨g4,2,none⟩ c).setCell ⟨g4,3,none⟩ d).setCell ⟨g4,4,none⟩ e).setCell ⟨g5,0,none⟩ f) :=
 (((((h.setCell (p:=⟨g4,0,none⟩) h4 a).setCell (p:=⟨g4,1,none⟩) h4 b).setCell (p:=⟨g4,2,none⟩) h4 c).setCell (p:=⟨g4,3,none⟩) h4 d).setCell (p:=⟨g4,4,none⟩) h4 e).setCell (p:=⟨g5,0,none⟩) h5 f
theorem rt_two {W:World} {g4 g5:Nat} {A:Option Addr} {m:Nat} {xs:List ByteArray} (h:RT W A m xs) (n4:NSB W g4) (n5:NSB W g5) (hl:g5<W.heap.size) (hne:g4≠g5) {a b c d e f:Value} (ha:nsV a) (hb:nsV b) (hc:nsV c) (hd:nsV d) :
 RT ((((((W.setCell ⟨g4,0,none⟩ a).setCell ⟨g4,1,none⟩ b).setCell ⟨g4,2,none⟩ c).setCell ⟨g4,3,none⟩ d).setCell ⟨g4,4,none⟩ e).setCell ⟨g5,0,none⟩ f) A m xs:=by
 have h1:=ch_set5 (w:=W) (g:=g4) (K:=fun j=>j=g4) rfl n4 ha hb hc hd e
 have h2:NSB (((((W.setCell ⟨g4,0,none⟩ a).setCell ⟨g4,1,none⟩ b).setCell ⟨g4,2,none⟩ c).setCell ⟨g4,3,none⟩ d).setCell ⟨g4,4,none⟩ e) g5:=n5.same (h1.same g5 hl (.inl (fun e=>hne e.symm)))
 exact (h.ch h1).ch (Ch.set (K:=fun _=>True) (p:=⟨g5,0,none⟩) trivial h2 f)
theorem put_nc {W:World} {D:Nat} (hK:W.heap[D]? = some (.deferred (some []))):∀ r,(some D:Option Nat)=some r→∃ o:Obj,W.heap[r]? = some o∧o.isCells=false:=fun r e=>by cases e;exact ⟨_,hK,rfl⟩
theorem nsb_nc {W:World} {j:Nat} (h:∃ o:Obj,W.heap[j]? = some o∧o.isCells=false):NSB W j:=fun i x hc=>by
 obtain ⟨o,ho,hn⟩:=h
 unfold World.cell? at hc
 rw [ho] at hc
 cases o<;>first|(cases hn;done)|(cases hc;done)
def l5 (p:Ln) (B:Option Addr) (d:Nat) (A:Option Addr) (c:Nat):L5:=⟨p.1,B,p.2.1.1.length,d,p.2.1.2,A,p.2.2.1.length,c,p.2.2.2⟩
theorem SV.l5 {w:World} {K:Nat→Prop} {A0:Option Addr} {c0:Nat} {m:List Ln} (h:SV elL w K A0 c0 m) :
 ∃ r:Nat→L5,L5s w.heap.size w A0 m.length r∧∀ j p,m[j]? = some p→∃ B d A c,r j=Go.Proofs.YtelkmeiepliecaaGreatDoor.l5 p B d A c∧RT w B d p.2.1.1∧RT w A c p.2.2.1:=by
 have key:∀ j,∃ x:L5,∀ p,m[j]? = some p→∃ b o B d A c,x=Go.Proofs.YtelkmeiepliecaaGreatDoor.l5 p B d A c∧A0=some ⟨b,o,none⟩∧b<w.heap.size∧w.cell? ⟨b,o+j * 5,none⟩=some (.int .i64 p.1)∧w.cell? ⟨b,o+j * 5+1,none⟩=some (.slice B p.2.1.1.length d)∧w.cell? ⟨b,o+j * 5+2,none⟩=some (.bool p.2.1.2)∧w.cell? ⟨b,o+j * 5+3,none⟩=some (.slice A p.2.2.1.length c)∧w.cell? ⟨b,o+j * 5+4,none⟩=some (.bool p.2.2.2)∧RT w B d p.2.1.1∧RT w A c p.2.2.1:=fun j=>by
  cases hj:m[j]? with
  | none=>exact ⟨⟨0,none,0,0,false,none,0,0,false⟩,fun e he=>by cases he⟩
  | some e =>
   obtain ⟨b,o,B,d,A,c,ea,hb,k0,k1,k2,k3,k4,k5,k6⟩:=h.ln hj
   refine ⟨Go.Proofs.YtelkmeiepliecaaGreatDoor.l5 e B d A c,fun f hf=>?_⟩
   cases hf
   exact ⟨b,o,B,d,A,c,rfl,ea,hb,k0,k1,k2,k3,k4,k5,k6⟩
 refine ⟨fun j=>Classical.choose (key j),fun j hj=>?_,fun j e he=>?_⟩
 ·obtain ⟨b,o,B,d,A,c,e1,ea,hb,k0,k1,k2,k3,k4,_⟩:=Classical.choose_spec (key j) _ (gE hj)
  refine ⟨b,o,ea,hb,?_⟩
  dsimp only
  rw [e1]
  exact ⟨k0,k1,k2,k3,k4⟩
 ·obtain ⟨b,o,B,d,A,c,e1,_,_,_,_,_,_,_,k5,k6⟩:=Classical.choose_spec (key j) e he
  exact ⟨B,d,A,c,e1,k5,k6⟩
theorem dec_rev {ps:List Ln} {c:ByteArray} {n k:Nat} {pre:List Nat} {x:Nat} {p:Ln} (hn:n=ps.length) (h:pre++[x]=(List.range n).reverse.take k) (h1:∀ q∈pre,∀ p,ps[q]? = some p→mt p.2.1 c=false) (hp:ps[x]? = some p) (hm:mt p.2.1 c=true):decS ps c=some p:=by
 subst hn
 have hl:pre.length<ps.length:=by
  have:=congrArg List.length h
  simp at this
  omega
 have hx:x=ps.length-1-pre.length:=by
  have h2:(pre++[x])[pre.length]? = some x:=by simp
  rw [h,List.getElem?_take] at h2
  split at h2
  ·rw [gE (by simp;omega),List.getElem_reverse] at h2
   simp at h2
   omega
  ·cases h2
 have hpre:∀ j,j<pre.length→pre[j]? = some (ps.length-1-j):=fun j hj=>by
  have h2:(pre++[x])[j]? = pre[j]? := List.getElem?_append_left hj
  rw [←h2,h,List.getElem?_take,if_pos (by
   have:=congrArg List.length h
   simp at this
   omega),gE (by simp;omega),List.getElem_reverse]
  simp
 unfold decS
 rw [List.find?_eq_some_iff_getElem]
 refine ⟨hm,pre.length,by simp;omega,?_,fun j hj=>?_⟩
 ·rw [List.getElem_reverse]
  have:=(sI.1 hp).2
  simp only [←hx]
  exact this
 ·rw [List.getElem_reverse]
  have:=h1 _ (mG (hpre j hj)) (ps[ps.length-1-j]'(by omega)) (gE _)
  simpa using this
theorem dec_none {ps:List Ln} {c:ByteArray} (h1:∀ q,q<ps.length→∀ p,ps[q]? = some p→mt p.2.1 c=false):decS ps c=none:=by
 unfold decS
 rw [List.find?_eq_none]
 intro p hp
 obtain ⟨i,hi⟩:=List.mem_iff_getElem?.1 (List.mem_reverse.1 hp)
 have:=h1 i (sI.1 hi).1 p hi
 rw [this]
 decide
theorem kf_below {B:Nat} {W W':World} (h:Below W.heap.size W W'):KeepsFrom B W W':=⟨h.size,fun k o _ hk _=>(h.block k (Array.getElem?_eq_some_iff.1 hk).1).trans hk⟩
theorem backward_stops (m g0 n c:Nat) (A:Option Addr) (r:Nat→L5) (w:World) (hm:1≤m) (hl:n≤1000) (hg0:g0<w.heap.size) (b0:w.cell? ⟨g0,0,none⟩=some (.slice A n c)) (h1:L5s w.heap.size w A n r) :
 SeqStopsK Fence.wide m Tryz.prog 128 #[.pointer (some ⟨g0,0,none⟩)] (fun x:{q:Nat // q<n}=>#[.int .i64 (x.1:Int),.agg (r x.1).l.toArray]) (Below w.heap.size)
  (fun xs=>xs.map (·.1)=(List.range n).reverse) (fun pre=>∃ k,pre.map (·.1)=(List.range n).reverse.take k) n w:=fun l J Jx W hW _ _ hY h0 =>
 backward_in Fence.wide m trivial rfl hm l g0 w.heap.size n c A r hl hg0 J Jx W hY ((hW.cell (p:=⟨g0,0,none⟩) hg0).trans b0) (h1.below hW) h0 hW.size
def RetD (w:World) (ps:List Ln) (c:ByteArray) (e:Ending) (w':World):Prop :=
 (∀ p,decS ps c=some p→∃ B d A n,e=.returned (.tuple #[.agg #[.int .i64 p.1,.slice B p.2.1.1.length d,.bool p.2.1.2,.slice A p.2.2.1.length n,.bool p.2.2.2],.bool true])∧RT w' B d p.2.1.1∧RT w' A n p.2.2.1∧Below w.heap.size w w') ∧
 (decS ps c=none→e=.returned (.tuple #[.agg #[.int .i64 0,.slice none 0 0,.bool false,.slice none 0 0,.bool false],.bool false])∧Below w.heap.size w w')
set_option maxRecDepth 100000 in
theorem deciding_any (A0:Option Addr) (c0:Nat) (ps:List Ln) (c:ByteArray) (w:World) (h:SV elL w kN A0 c0 ps) (hl:ps.length≤100) (hz:∀ p∈ps,szN 5000 p.2.1) (hc:c.size≤5000) (hm:ML w) :
 Calls Tryz.prog 66 #[.slice A0 ps.length c0,.string c] w (RetD w ps c):=by
 have h1:(1:Nat)≤3:=by omega
 refine (callsIn_wide (n:=6)).1 ?_
 refine callsIn_of_wp_marks Tryz.func66 rfl trivial ?_ rfl
 simp only [Tryz.ntmps66,List.size_toArray,List.length_cons,List.length_nil,Nat.reduceAdd,Nat.reduceSub,Array.replicate_succ,Array.replicate_zero,List.push_toArray,List.append_toArray,List.nil_append,List.cons_append]
 gi_wp2_with (refine ⟨trivial,?_⟩;gi_at_call 94;refine (backward_mk Fence.wide _ trivial rfl _ _ _ _).mono ?_;rintro e w' ⟨rfl,rfl⟩)
 have hB0:Below w.heap.size w ((((w.alloc (.cells #[.string c] 9)).alloc (.cells #[.int .i64 0,.slice none 0 0,.bool false,.slice none 0 0,.bool false] 51)).alloc (.cells #[.bool false] 4)).alloc (.cells #[.slice A0 ps.length c0] 52)):=bB
 have bC:BX ((((w.alloc (.cells #[.string c] 9)).alloc (.cells #[.int .i64 0,.slice none 0 0,.bool false,.slice none 0 0,.bool false] 51)).alloc (.cells #[.bool false] 4)).alloc (.cells #[.slice A0 ps.length c0] 52)) w.heap.size [.string c]:=(BX.new w [_] _ rfl).below bB
 have b4:BX ((((w.alloc (.cells #[.string c] 9)).alloc (.cells #[.int .i64 0,.slice none 0 0,.bool false,.slice none 0 0,.bool false] 51)).alloc (.cells #[.bool false] 4)).alloc (.cells #[.slice A0 ps.length c0] 52)) (w.heap.size+1) [.int .i64 0,.slice none 0 0,.bool false,.slice none 0 0,.bool false]:=(BX.new (w.alloc (.cells #[.string c] 9)) [_,_,_,_,_] _ (by simp)).below bB
 have b5:BX ((((w.alloc (.cells #[.string c] 9)).alloc (.cells #[.int .i64 0,.slice none 0 0,.bool false,.slice none 0 0,.bool false] 51)).alloc (.cells #[.bool false] 4)).alloc (.cells #[.slice A0 ps.length c0] 52)) (w.heap.size+1+1) [.bool false]:=(BX.new ((w.alloc (.cells #[.string c] 9)).alloc (.cells #[.int .i64 0,.slice none 0 0,.bool false,.slice none 0 0,.bool false] 51)) [_] _ (by simp)).below bB
 have bB_:BX ((((w.alloc (.cells #[.string c] 9)).alloc (.cells #[.int .i64 0,.slice none 0 0,.bool false,.slice none 0 0,.bool false] 51)).alloc (.cells #[.bool false] 4)).alloc (.cells #[.slice A0 ps.length c0] 52)) (w.heap.size+1+1+1) [.slice A0 ps.length c0]:=BX.new _ [_] _ (by simp)
 have n4:NSB ((((w.alloc (.cells #[.string c] 9)).alloc (.cells #[.int .i64 0,.slice none 0 0,.bool false,.slice none 0 0,.bool false] 51)).alloc (.cells #[.bool false] 4)).alloc (.cells #[.slice A0 ps.length c0] 52)) (w.heap.size+1):=((NSB.new (w.alloc (.cells #[.string c] 9)) (cs:=[.int .i64 0,.slice none 0 0,.bool false,.slice none 0 0,.bool false]) 51 (ns5 ns_int ns_slice ns_bool ns_slice ns_bool) (g:=w.heap.size+1) (by simp)).below (by simp) bB)
 have n5:NSB ((((w.alloc (.cells #[.string c] 9)).alloc (.cells #[.int .i64 0,.slice none 0 0,.bool false,.slice none 0 0,.bool false] 51)).alloc (.cells #[.bool false] 4)).alloc (.cells #[.slice A0 ps.length c0] 52)) (w.heap.size+1+1):=((NSB.new ((w.alloc (.cells #[.string c] 9)).alloc (.cells #[.int .i64 0,.slice none 0 0,.bool false,.slice none 0 0,.bool false] 51)) (cs:=[.bool false]) 4 (ns1 ns_bool) (g:=w.heap.size+1+1) (by simp)).below (by simp) bB)
 obtain ⟨W0,hW0⟩:∃ W0,W0=((((w.alloc (.cells #[.string c] 9)).alloc (.cells #[.int .i64 0,.slice none 0 0,.bool false,.slice none 0 0,.bool false] 51)).alloc (.cells #[.bool false] 4)).alloc (.cells #[.slice A0 ps.length c0] 52)):=⟨_,rfl⟩
 rw [←hW0] at hB0 bC b4 b5 bB_ n4 n5 ⊢
 have hsz:W0.heap.size=w.heap.size+1+1+1+1:=by rw [hW0];simp
 clear hW0
 obtain ⟨r,hr1,hr2⟩:=(h.below hB0).l5
 have hmB:=hm.below hB0
 refine wpIn_rangeFunc_ownH rfl (by omega) (gf:=128) (lb:=#[.pointer (some ⟨w.heap.size+1+1+1,0,none⟩)]) rfl trivial (enters_of Tryz.func128 (by kernel_rfl) rfl)
  (backward_stops 5 (w.heap.size+1+1+1) ps.length c0 A0 r W0 (by omega) (by omega) (by omega) (bB_.1 0 _ rfl) hr1) belowK_t (belowK_b (Nat.le_refl _)) (Below.refl _ _) (fun _=>rfl)
  (fun pre W=>Below W0.heap.size W0 W∧∀ q∈pre,∀ p,ps[q.1]? = some p→mt p.2.1 c=false)
  (fun cd pre W=>cd=.ret∧(∃ pre0 x,pre=pre0++[x]∧(∀ q∈pre0,∀ p,ps[q.1]? = some p→mt p.2.1 c=false)∧∀ p,ps[x.1]? = some p→mt p.2.1 c=true∧∃ B d A n,BX W (w.heap.size+1) [.int .i64 p.1,.slice B p.2.1.1.length d,.bool p.2.1.2,.slice A p.2.2.1.length n,.bool p.2.2.2]∧RT W B d p.2.1.1∧RT W A n p.2.2.1)∧BX W (w.heap.size+1+1) [.bool true]∧Below w.heap.size w W)
  (OwnFrom.and (ownFrom_below (Nat.le_refl _) (Nat.le_refl _)) (fun _ _ _ _ hs _ _=>hs))
  ?hIx
  ⟨Below.refl _ _,fun q hq=>by cases hq⟩
  (fun x a' W=>∃ Bx,W0.heap.size≤Bx∧BX W Bx (r x.1).l∧a'={ tmps:=#[.slice A0 ps.length c0,.string c,undef,.pointer (some ⟨w.heap.size,0,none⟩),.pointer (some ⟨w.heap.size+1,0,none⟩),.pointer (some ⟨w.heap.size+1+1,0,none⟩),undef,.pointer (some ⟨Bx,0,none⟩),undef,undef,.slice A0 ps.length c0,.func (.func 128) #[] #[.pointer (some ⟨w.heap.size+1+1+1,0,none⟩)],.int .i64 (x.1:Int),.agg (r x.1).l.toArray,undef,undef,undef,undef,undef,undef,undef,undef,undef,undef],defers:=[] })
  (fun x a' _ X Y row hs hg hr=>by obtain ⟨Bx,h1,h2,h3⟩:=hs;exact ⟨Bx,h1,BX.nc h2 hg (fun r e=>(hr r e).2),h3⟩)
  ?assign ?body ?done ?stop
 case hIx =>
  rintro cd s X Y row ⟨e,⟨pre0,x,h1,h2,h3⟩,h5,hB⟩ hg hr
  refine ⟨e,⟨pre0,x,h1,h2,fun p hp=>?_⟩,BX.nc h5 hg (fun r e=>(hr r e).2),hB.grown hg hB.size (fun j hj=>by have:=(hr j hj).1;omega)⟩
  obtain ⟨k1,B,d,A,n,k2,k3,k4⟩:=h3 p hp
  exact ⟨k1,B,d,A,n,BX.nc k2 hg (fun r e=>(hr r e).2),k3.grownS hg (fun j hj=>nsb_nc (hr j hj).2),k4.grownS hg (fun j hj=>nsb_nc (hr j hj).2)⟩
 case assign =>
  rintro l pre x W K ⟨hB,hN⟩ hK
  simp only [L5.l]
  gi_wp2
  exact hK _ _ ((KeepsOthers.alloc _ _).from _) ((Below.refl _ W).alloc hB.size _) ⟨hB.alloc hB.size _,hN⟩ ⟨W.heap.size,hB.size,BX.new W _ _ rfl,rfl⟩
 case body =>
  rintro l pre x a' W hl2 ⟨rr,hrr⟩ ⟨hB,hN⟩ ⟨Bx,hBx,bX,rfl⟩ hlt
  obtain ⟨p,hp⟩:∃ p,ps[x.1]? = some p:=⟨_,gE x.2⟩
  obtain ⟨B,d,A,n,he,k1,k2⟩:=hr2 x.1 p hp
  have hpz:=hz p (mG hp)
  have bX2:BX W Bx [.int .i64 p.1,.slice B p.2.1.1.length d,.bool p.2.1.2,.slice A p.2.2.1.length n,.bool p.2.2.2]:=by rw [he] at bX;exact bX
  obtain ⟨z0,z1,z2,z3,z4⟩:=bX2.c5
  have zl:=bX2.2.2
  have c0':=(bC.below hB).1 0 _ rfl
  have hcl:=(bC.below hB).2.2
  have HB:=lh hB
  have HK1:=lh (k1.below hB)
  have HK2:=lh (k2.below hB)
  have HMQ:=lh (match_q B d p.2.1.1 p.2.1.2 c W (k1.below hB) (fun x hx=>Nat.le_trans (hpz x hx) (by omega)) hc (hmB.below hB))
  have HN:=lh hN
  have HP:=lh hp
  have H4:=lh b4
  have H5:=lh b5
  have HB0:=lh hB0
  have HN4:=lh (n4.below (by omega) hB)
  have HN5:=lh (n5.below (by omega) hB)
  simp only [he,Go.Proofs.YtelkmeiepliecaaGreatDoor.l5,L5.l]
  clear hr1 hr2 hz hm hmB h k1 k2 bX he hB hN hp bX2 b4 b5 bB_ bC hB0 hpz n4 n5
  have h1':1≤6-1-1:=by omega
  cases hmt:mt p.2.1 c with
  | false =>
   have HM:=lh hmt
   have hmt2:mt (p.2.1.1,p.2.1.2) c=false:=hmt
   rw [hmt2] at HMQ
   clear hmt hmt2
   gi_wp2_with (refine ⟨trivial,?_⟩;gi_at_call 70;refine (CallsIn.inRound l (callsIn_wide.2 HMQ.out)).mono ?_;rintro e w5 ⟨v5,rfl,hb5⟩;have HB5:=lh hb5;clear hb5)
   refine ⟨kf_below HB5.out,HB5.out.mono HB.out.size,go3 HB.out HB5.out,fun q hq p' hp'=>?_⟩
   rcases List.mem_append.1 hq with hq|hq
   ·exact HN.out q hq p' hp'
   ·rw [List.mem_singleton.1 hq,HP.out] at hp'
    cases hp'
    exact HM.out
  | true =>
   have HM:=lh hmt
   have hmt2:mt (p.2.1.1,p.2.1.2) c=true:=hmt
   rw [hmt2] at HMQ
   clear hmt hmt2
   gi_wp2_with (refine ⟨trivial,?_⟩;gi_at_call 70;refine (CallsIn.inRound l (callsIn_wide.2 HMQ.out)).mono ?_;rintro e w5 ⟨v5,rfl,hb5⟩;have HB5:=lh hb5;have z0':=(hb5.cell (p:=⟨Bx,0,none⟩) zl).trans z0;have z1':=(hb5.cell (p:=⟨Bx,1,none⟩) zl).trans z1;have z2':=(hb5.cell (p:=⟨Bx,2,none⟩) zl).trans z2;have z3':=(hb5.cell (p:=⟨Bx,3,none⟩) zl).trans z3;have z4':=(hb5.cell (p:=⟨Bx,4,none⟩) zl).trans z4;have hx4:=H4.out.below (go3 HB.out hb5);have hx5:=H5.out.below (go3 HB.out hb5);obtain ⟨f0,f1,f2,f3,f4⟩:=hx4.c5;have g0:=hx4.2.1 0;have g1:=hx4.2.1 1;have g2:=hx4.2.1 2;have g3:=hx4.2.1 3;have g4:=hx4.2.1 4;have i0:=hx5.1 0 _ rfl;have j0:=hx5.2.1 0;clear hb5 hx4 hx5)
   have HW:=lh (two_boxes (H4.out.below (go3 HB.out HB5.out)) (H5.out.below (go3 HB.out HB5.out)) (by omega) (.int .i64 p.1) (.slice B p.2.1.1.length d) (.bool p.2.1.2) (.slice A p.2.2.1.length n) (.bool p.2.2.2) (.bool true))
   refine ⟨(kf_below HB5.out).trans (HW.out.2.2.from _),rfl,⟨pre,x,rfl,HN.out,fun p' hp'=>?_⟩,HW.out.2.1,below_twob (go3 HB0.out (go3 HB.out HB5.out)) (by omega) (by omega) _ _ _ _ _ _⟩
   rw [HP.out] at hp'
   cases hp'
   have hg4:w.heap.size+1<W.heap.size:=by have:=HB.out.size;omega
   have hg5:w.heap.size+1+1<W.heap.size:=by have:=HB.out.size;omega
   exact ⟨HM.out,B,d,A,n,HW.out.1,rt_two (HK1.out.below HB5.out) (HN4.out.below hg4 HB5.out) (HN5.out.below hg5 HB5.out) (Nat.lt_of_lt_of_le hg5 HB5.out.size) (by omega) ns_int ns_slice ns_bool ns_slice,rt_two (HK2.out.below HB5.out) (HN4.out.below hg4 HB5.out) (HN5.out.below hg5 HB5.out) (Nat.lt_of_lt_of_le hg5 HB5.out.size) (by omega) ns_int ns_slice ns_bool ns_slice⟩
 case done =>
  rintro D xs W hD hxs ⟨hB,hN⟩ hK
  have HR:Hid (decS ps c=none):=lh (dec_none fun q hq p hp=>by
   have:q∈xs.map (·.1):=by rw [hxs];simpa using hq
   obtain ⟨y,hy,rfl⟩:=List.mem_map.1 this
   exact hN y hy p hp)
  have hx4:=b4.below hB
  have hx5:=b5.below hB
  obtain ⟨f0,f1,f2,f3,f4⟩:=hx4.c5
  have g0:=hx4.2.1 0;have g1:=hx4.2.1 1;have g2:=hx4.2.1 2;have g3:=hx4.2.1 3;have g4:=hx4.2.1 4
  have i0:=hx5.1 0 _ rfl;have j0:=hx5.2.1 0
  have hx4':=hx4
  have hx5':=hx5
  clear hxs hN hr1 hr2 hz hm hmB h hx4 hx5 b4 b5 bB_ bC
  have HX4:=lh hx4'
  have HX5:=lh hx5'
  gi_wp2
  have HW:=two_boxes HX4.out HX5.out (by omega) (.int .i64 0) (.slice none 0 0) (.bool false) (.slice none 0 0) (.bool false) (.bool false)
  have hK':=HW.2.2.same D _ hK rfl
  refine ⟨by simp,.inl ⟨_,_,rfl,run_takeDeferred hK',?_⟩⟩
  have y4:=BX.nc HW.1 (grownBy_putObj' _ D (.deferred none)) (put_nc hK')
  have y5:=BX.nc HW.2.1 (grownBy_putObj' _ D (.deferred none)) (put_nc hK')
  obtain ⟨u0,u1,u2,u3,u4⟩:=y4.c5
  have u5:=y5.1 0 _ rfl
  refine ⟨.tuple #[.agg #[.int .i64 0,.slice none 0 0,.bool false,.slice none 0 0,.bool false],.bool false],by simp [results,Tryz.results66,go_sem,u0,u1,u2,u3,u4,u5],?_⟩
  exact ⟨fun p hp=>(by rw [HR.out] at hp;cases hp),fun _=>⟨rfl,(below_twob (go3 hB0 hB) (by omega) (by omega) _ _ _ _ _ _).grown (grownBy_putObj' _ D (.deferred none)) (by have:=hB.size;simp [World.setCell];omega) (fun k e=>by cases e;omega)⟩⟩
 case stop =>
  rintro D cd pre W hD ⟨k,hk⟩ ⟨rfl,⟨pre0,x,rfl,hN,hM⟩,b5',hB⟩ hK
  obtain ⟨p,hp⟩:∃ p,ps[x.1]? = some p:=⟨_,gE x.2⟩
  obtain ⟨hmt,B,d,A,n,b4',k1,k2⟩:=hM p hp
  have HR:Hid (decS ps c=some p):=lh (dec_rev rfl (by rw [List.map_append] at hk;exact hk) (fun q hq p' hp'=>by
   obtain ⟨y,hy,rfl⟩:=List.mem_map.1 hq
   exact hN y hy p' hp') hp hmt)
  gi_wp2
  refine ⟨by simp,.inl ⟨_,_,rfl,run_takeDeferred hK,?_⟩⟩
  have y4:=BX.nc b4' (grownBy_putObj' _ D (.deferred none)) (put_nc hK)
  have y5:=BX.nc b5' (grownBy_putObj' _ D (.deferred none)) (put_nc hK)
  obtain ⟨u0,u1,u2,u3,u4⟩:=y4.c5
  have u5:=y5.1 0 _ rfl
  refine ⟨.tuple #[.agg #[.int .i64 p.1,.slice B p.2.1.1.length d,.bool p.2.1.2,.slice A p.2.2.1.length n,.bool p.2.2.2],.bool true],by simp [results,Tryz.results66,go_sem,u0,u1,u2,u3,u4,u5],?_⟩
  refine ⟨fun p' hp'=>?_,fun h=>(by rw [HR.out] at h;cases h)⟩
  rw [HR.out] at hp'
  cases hp'
  exact ⟨B,d,A,n,rfl,k1.grownS (grownBy_putObj' _ D (.deferred none)) (fun j hj=>nsb_nc (put_nc hK j hj)),k2.grownS (grownBy_putObj' _ D (.deferred none)) (fun j hj=>nsb_nc (put_nc hK j hj)),hB.grown (grownBy_putObj' _ D (.deferred none)) hB.size (fun k e=>by cases e;omega)⟩
section
variable {P:Program} {ops:Array Oper}
def OnlyN (K:Act→World→Prop):Exit→Act→World→Prop
 | .normal,a,w=>K a w
 | _,_,_=>False
def noDefer (ops:Array Oper):Bool:=ops.all fun o=>match o.op with
 | .defer _=>false
 | _=>true
theorem noDefer_spec (h:noDefer ops=true) {i:Nat} {o:Oper} (ho:ops[i]? = some o) (c:Call):o.op≠.defer c:=fun e=>by
 unfold noDefer at h
 have:=Array.all_eq_true'.1 h o (Array.mem_of_getElem? ho)
 rw [e] at this
 cases this
theorem wpOpIn_wide {l n i:Nat} {K:Act→World→Prop} {K1:Act→World→Prop} {a:Act} {w:World} (nd:noDefer ops=true) (h:wpOp P ops (OnlyN K) i K1 a w):wpOpIn (Fence.wide.inRound l) n P ops (OnlyN K) i K1 a w:=by
 unfold wpOp at h
 unfold wpOpIn
 cases ho:ops[i]? with
 | none=>rw [ho] at h;exact h
 | some o =>
  rw [ho] at h
  dsimp only at h ⊢
  by_cases hw:Region.wanted o (yielded ops a.tmps)=true
  ·rw [if_pos hw] at h ⊢
   rcases h with h|⟨_,_,_,h⟩
   ·refine ⟨fun _ _=>trivial,?_⟩
    rw [Oper.semAt_eq _ _ _ (noDefer_spec nd ho)]
    unfold Oper.wp at h
    generalize (execOp a.eval o).run P w=r at *
    cases r with
    | ok x w' =>
     cases x<;>simp only [Oper.upon,Oper.uponIn] at h ⊢ <;>
      first
       | exact h
       | exact ⟨fun hd=>(by cases hd),CallsIn.inRound l (callsIn_wide.2 h)⟩
       | exact ⟨fun hd=>(by cases hd),fun c cs _=>let ⟨v,w',r,st⟩:=h c cs;⟨v,w',r,stepsIn_wide.2 st⟩⟩
    | halt x w'=>cases x<;>simp only [Oper.upon,Oper.uponIn] at h ⊢<;>exact h
   ·cases h
  ·rw [if_neg hw] at h ⊢
   exact ⟨fun _ _=>trivial,h⟩
theorem wpAnyIn_wide {l n:Nat} {md:Region.Mode} {K:Act→World→Prop} (nd:noDefer ops=true):∀ (fuel:Nat) (listed:Array Bool) (a:Act) (w:World),wpAny P md ops (OnlyN K) fuel listed a w→wpAnyIn (Fence.wide.inRound l) n P md ops (OnlyN K) fuel listed a w
 | 0,_,_,_,h=>h
 | fuel+1,_,_,_,h=>⟨h.1,fun i hi=>wpOpIn_mono (fun a' w' h'=>wpAnyIn_wide nd fuel _ a' w' h') (wpOpIn_wide nd (h.2 i hi))⟩
theorem wpIn_region_held {l n id:Nat} {S:World→Prop} {K:Act→World→Prop} {Q:Exit→Act→World→Prop} {a:Act} {w:World} (hm:P.follows .mixedOrders=true) (nd:noDefer ops=true) (hS:S w.drew)
 (h:S w.drew→wpAnyH P .any ops (OnlyN K) S ops.size (Array.replicate ops.size false) a w.drew):(Code.region id ops true).wpIn (Fence.wide.inRound l) n P (Exit.then K Q) a w :=
 wpIn_mono (wpIn_region_any hm (wpAnyIn_wide nd _ _ _ _ (wpAny_of_held _ _ _ _ (h hS)))) fun e a w q=>by
  cases e<;>first|exact q|exact q.elim
end
open Go.RowKit
theorem cell_nc {w:World} {a:Addr} {u:Value} (h:w.cell? a=some u) (hr:∃ o:Obj,w.heap[a.block]? = some o∧o.isCells=false):False:=by
 obtain ⟨o,ho,hn⟩:=hr
 unfold World.cell? at h
 rw [ho] at h
 cases o<;>first|(cases hn;done)|(cases h;done)
def NC (w:World) (row:Option Nat):Prop:=∀ r,row=some r→∃ o:Obj,w.heap[r]? = some o∧o.isCells=false
theorem NC.ns {w:World} {row:Option Nat} (h:NC w row):∀ j,row=some j→NSB w j:=fun j hj=>nsb_nc (h j hj)
theorem BT.nc {w w':World} {A:Option Addr} {c:Nat} {ps:List Pn} {row:Option Nat} (h:BT w A c ps) (hg:w.grownBy w' row) (hr:NC w row):BT w' A c ps :=
 h.grownS hg hr.ns fun h0 a ea e=>by
  obtain ⟨b,o,e2,hlt,hc⟩:=h.2.2 h0
  rw [ea] at e2
  cases e2
  obtain ⟨C,n,h1,_⟩:=hc 0 _ (gE h0)
  exact cell_nc h1 (hr _ e)
theorem RT.nc {w w':World} {A:Option Addr} {c:Nat} {xs:List ByteArray} {row:Option Nat} (h:RT w A c xs) (hg:w.grownBy w' row) (hr:NC w row):RT w' A c xs:=h.grownS hg hr.ns
def GN {α:Type} (e:El α):Prop:=∀ {w w':World} {K:Nat→Prop} {x:α} {r:List Value} {row:Option Nat},e.R w K x r→w.grownBy w' row→NC w row→e.R w' K x r
theorem gnE:GN elE:=fun k hg hr=>by
 obtain ⟨A,c,B,d,H,h,e,k1,k2⟩:=k
 exact ⟨A,c,B,d,H,h,e,⟨k1.1.nc hg hr,k1.2.1.nc hg hr,k1.2.2.nc hg hr⟩,k2⟩
theorem SO.gn {α:Type} {e:El α} (ge:GN e) {w w':World} {base:Nat} {T:TypeId} {v:Value} {K:Nat→Prop} {xs:List α} {row:Option Nat} (h:SO e w base T v K xs) (hg:w.grownBy w' row) (hr:NC w row):SO e w' base T v K xs:=by
 obtain ⟨rows,h1,h2,h3⟩:=h
 have hne:∀ j,row=some j→v.ownBlock≠some j:=fun j hj ho=>by
  obtain ⟨o,hob,hn⟩:=hr j hj
  rcases h1.1.2 with ⟨ev,_⟩|⟨g,cap,cur,ev,hbg,hh,_⟩
  ·rw [ev] at ho;cases ho
  ·rw [ev] at ho
   cases ho
   rw [hob] at hh
   cases hh
   cases hn
 exact ⟨rows,h1.kept hg hne,h2.map fun _ _ k=>ge k hg hr,fun k hk=>(h3 k hk).same (hg.block k (h1.own k hk).2 (fun e=>hne k e.symm hk))⟩
theorem CO.gn {α:Type} {e:El α} (ge:GN e) {T:TypeId} {w w':World} {g base:Nat} {A:Option Addr} {c:Nat} {xs:List α} {full:Bool} {row:Option Nat} (h:CO e T w g base A c xs full) (hg:w.grownBy w' row) (hr:NC w row):CO e T w' g base A c xs full :=
 ⟨⟨h.1.1.nc hg hr,h.1.2.same (hg.block g h.1.1.2.2 (fun e=>cell_nc (h.1.1.1 0 _ rfl) (hr g e.symm)))⟩,h.2.gn ge hg hr⟩
theorem BNX.nc {w w':World} {g:Nat} {v:Value} {cs:List Value} {row:Option Nat} (h:BNX w g (v::cs)) (hg:w.grownBy w' row) (hr:NC w row):BNX w' g (v::cs) :=
 ⟨BX.nc h.1 hg hr,h.2.same (hg.block g h.1.2.2 (fun e=>cell_nc (h.1.1 0 _ rfl) (hr g e.symm)))⟩
theorem SV.gn {α:Type} {e:El α} (ge:GN e) {w w':World} {K:Nat→Prop} {A:Option Addr} {c:Nat} {xs:List α} {row:Option Nat} (h:SV e w K A c xs) (hg:w.grownBy w' row) (hr:NC w row):SV e w' K A c xs:=by
 obtain ⟨rows,h1,h2,h3⟩:=h
 refine ⟨rows,⟨h1.1,h1.2.1,fun h0=>?_⟩,h2.map fun _ _ k=>ge k hg hr,h3⟩
 obtain ⟨b,o,ea,hlt,hc⟩:=h1.2.2 h0
 have hr0:=gE h0
 have hlen:=h2.len _ (mG hr0)
 have hp:=e.pos
 have hcell:=hc 0 _ hr0 0 _ (gE (by omega))
 have hb:=hg.block b hlt (fun e2=>cell_nc hcell (hr b e2.symm))
 exact ⟨b,o,ea,Nat.lt_of_lt_of_le hlt hg.size,fun j r hj i u hu=>(World.cell?_of_block (a:=⟨b,o+j * e.size+i,none⟩) hb).trans (hc j r hj i u hu)⟩
theorem CO.good {α:Type} {e:El α} {T:TypeId} {w:World} {g base:Nat} {A:Option Addr} {c:Nat} {xs:List α} {full:Bool} (h:CO e T w g base A c xs full):GoodC g w:=⟨h.1.1.2.2,fun j ⟨v,hv,ho⟩=>by
 have:=h.1.1.1 0 _ rfl
 rw [this] at hv
 cases hv
 exact (h.2.own j ho).2⟩
theorem KpC.below {g:Nat} {w w':World} (h:Below w.heap.size w w'):KpC g w w':=fun hg =>
 ⟨⟨Nat.lt_of_lt_of_le hg.1 h.size,fun j hj=>Nat.lt_of_lt_of_le (hg.2 j ((ownG_same (h.block g hg.1)).1 hj)) h.size⟩,h.size,fun j _ ho=>(ownG_same (h.block g hg.1)).1 ho,fun j cs T f e _ _=>h.block j (Array.getElem?_eq_some_iff.1 e).1⟩
theorem KpC.add {α:Type} {e:El α} {T:TypeId} {w w':World} {g base:Nat} {A0 A:Option Addr} {n0 c0 n c:Nat} {xs ys:List α} {f1 f2:Bool} (h:CO e T w g base A0 c0 xs f1) (k:CO e T w' g base A c ys f2) (hn0:n0=xs.length) (hn:n=ys.length)
 (hc:Ch (fun j=>j=g∨(Value.slice A0 n0 c0).ownBlock=some j) w w') (ho:OwnN A0 n0 c0 A n c w.heap.size):KpC g w w'∧∀ B,KeepsFrom B w w':=by
 subst hn0
 subst hn
 have hgc:∀ j,ownG g w j↔(Value.slice A0 xs.length c0).ownBlock=some j:=fun j=>⟨fun ⟨v,hv,ho⟩=>by
  have:=h.1.1.1 0 _ rfl
  rw [this] at hv
  cases hv
  exact ho,fun hj=>⟨_,h.1.1.1 0 _ rfl,hj⟩⟩
 refine ⟨fun _=>⟨k.good,hc.size,fun j hj ⟨v,hv,hob⟩=>?_,fun j cs T f e hne hno=>?_⟩,fun B=>⟨hc.size,fun j o _ hj hcs=>?_⟩⟩
 ·have:=k.1.1.1 0 _ rfl
  rw [this] at hv
  cases hv
  rcases ho j hob with h1|h1
  ·exact (hgc j).2 h1
  ·omega
 ·exact hc.same j (Array.getElem?_eq_some_iff.1 e).1 (.inl fun hk=>hk.elim hne fun h1=>hno ((hgc j).2 h1))
 ·refine (hc.same j (Array.getElem?_eq_some_iff.1 hj).1 (.inl fun hk=>?_)).trans hj
  rcases hk with rfl|hk
  ·exact cell_nc (h.1.1.1 0 _ rfl) ⟨o,hj,hcs⟩
  ·obtain ⟨rows,h1,_⟩:=h.2
   rcases h1.1.2 with ⟨ev,_⟩|⟨g',cap,cur,ev,hbg,hh,_⟩
   ·rw [ev] at hk;cases hk
   ·rw [ev] at hk
    cases hk
    rw [hj] at hh
    cases hh
    cases hcs
open Pm
def fO (l r:Pn) (s:ByteArray):Bool:=fwdO l.1 l.2 r.1 r.2 s
def fT (l r:Pn) (s:ByteArray):ByteArray:=fwdT l.1 l.2 r.1 r.2 s
theorem fO_mt {l r:Pn} (h:rlOk l r) (s:ByteArray):fO l r s=mt l s:=fwd_match h
theorem rlOk_turn {l r:Pn}:rlOk l r↔rlOk r l:=ruleE_turn
theorem rlOk.okl {l r:Pn} (h:rlOk l r):okPn l:=(ruleE_zero.1 h).1
theorem rlOk.okr {l r:Pn} (h:rlOk l r):okPn r:=(ruleE_zero.1 h).2.1
theorem nr_no {l r h:Pn} {s:ByteArray} (he:nrE l r h=0) (ho:nrO l r h=false):(fO l r s&&mt h s)=false:=(nar_means he).1 ho
theorem nr_e0 {l r h:Pn} (ho:nrO l r h=true):nrE l r h=0:=nar_e0 ho
theorem nr_yes {l r h:Pn} {s:ByteArray} (ho:nrO l r h=true):fO (nrL l r h) (nrR l r h) s=(fO l r s&&mt h s)∧(fO (nrL l r h) (nrR l r h) s=true→fT (nrL l r h) (nrR l r h) s=fT l r s):=by
 obtain ⟨h1,h2⟩:=(nar_means (s:=s) (nr_e0 ho)).2 ho
 refine ⟨h1,fun h3=>?_⟩
 have h4:(fwdO l.1 l.2 r.1 r.2 s&&matchOk mpOk h.1 h.2 s)=true:=h1▸h3
 exact h2.trans (if_pos h4)
theorem nr_left {l r h:Pn} (ho:nrO l r h=true):nrL l r h=met l h∧metO l h=true:=by
 have h1:narO l.1 l.2 r.1 r.2 h.1 h.2=true:=ho
 refine ⟨?_,(nar_parts.1 h1).2.2.1⟩
 unfold nrL narL narLr
 rw [if_pos h1,if_pos h1]
 rfl
theorem nr_ok {l r h:Pn} (ho:nrO l r h=true):rlOk (nrL l r h) (nrR l r h):=(nrR_ok ho).1
theorem f_turn {l r:Pn} {s c:ByteArray} (h:fO l r s=true) (e:fT l r s=c):fO r l c=true∧fT r l c=s:=by
 obtain ⟨h0,cs,x,y,h1,h2,rfl,h4,h5⟩:=fwd_of h
 have e2:c=joinB y:=e.symm.trans h5
 subst e2
 exact fwd_mk (ruleE_turn.1 h0) h2 h1
theorem nr_right {l r h:Pn} {s c:ByteArray} (ho:nrO l r h=true) (hs:fO l r s=true) (hc:fT l r s=c):mt (nrR l r h) c=mt h s:=by
 have hk:=nr_ok ho
 have h1:=(nr_yes (s:=s) ho).1
 rw [hs,Bool.true_and] at h1
 cases hm:mt h s with
 | true =>
  rw [hm] at h1
  have h2:=(nr_yes (s:=s) ho).2 h1
  have h3:=f_turn h1 (h2.trans hc)
  rw [←fO_mt (rlOk_turn.1 hk)]
  exact h3.1
 | false =>
  cases hr:mt (nrR l r h) c with
  | false=>rfl
  | true =>
   exfalso
   rw [←fO_mt (rlOk_turn.1 hk)] at hr
   have h3:=f_turn hr rfl
   have h4:=(nr_yes (s:=fT (nrR l r h) (nrL l r h) c) ho)
   have h5:=h4.1
   rw [h3.1] at h5
   have h6:=h4.2 h3.1
   rw [h3.2] at h6
   have h7:fO l r (fT (nrR l r h) (nrL l r h) c)=true:=(Bool.and_eq_true _ _▸h5.symm).1
   have e1:=(f_turn h7 h6.symm).2
   have e2:=(f_turn hs hc).2
   have e3:fT (nrR l r h) (nrL l r h) c=s:=e1.symm.trans e2
   rw [e3,hm] at h5
   simp at h5
theorem nrs_any {l r:Pn} {hs:List Pn} {s c:ByteArray} (he:nrsE l r hs=false) (h1:fO l r s=true) (h2:fT l r s=c):(nrsR l r hs).any (mt · c)=hs.any (mt · s):=by
 unfold nrsE at he
 rw [List.any_eq_false] at he
 rw [Bool.eq_iff_iff,List.any_eq_true,List.any_eq_true]
 constructor
 ·rintro ⟨x,hx,hm⟩
  obtain ⟨q,hq,rfl⟩:=List.mem_map.1 hx
  obtain ⟨hq,ho⟩:=List.mem_filter.1 hq
  exact ⟨q,hq,by rw [←nr_right ho h1 h2];exact hm⟩
 ·rintro ⟨q,hq,hm⟩
  cases ho:nrO l r q with
  | true=>exact ⟨_,List.mem_map.2 ⟨q,List.mem_filter.2 ⟨hq,ho⟩,rfl⟩,by rw [nr_right ho h1 h2];exact hm⟩
  | false =>
   have:=nr_no (s:=s) (by simpa using he q hq) ho
   rw [h1,hm] at this
   cases this
theorem inR_red {b:Pn} {hs:List Pn} {c:ByteArray}:inR (b,redH b hs) c=inR (b,hs) c:=by
 unfold inR
 cases hb:mt b c with
 | false=>rfl
 | true=>rw [redH_mt hb]
theorem rm_in {g k:Rg} {c:ByteArray} (ho:rmO g k=true):inR (rmB g k) c=(inR g c&&inR k c):=by
 unfold rmO at ho
 rw [Bool.and_eq_true] at ho
 unfold rmB
 rw [inR_red]
 unfold inR
 rw [met_mt ho.1,List.any_append]
 cases mt g.1 c<;>cases mt k.1 c<;>cases g.2.any (mt · c)<;>cases k.2.any (mt · c)<;>rfl
theorem rm_ok {g k:Rg} (ho:rmO g k=true):okRg (rmB g k):=by
 unfold rmO at ho
 simp only [Bool.and_eq_true,decide_eq_true_eq] at ho
 exact ⟨met_ok ho.1,redH_ok,ho.2.1⟩
theorem rm_none {g k:Rg} {c:ByteArray} (he:rmE g k=false) (ho:rmO g k=false):(inR g c&&inR k c)=false:=by
 cases hm:metO g.1 k.1 with
 | false =>
  have:=met_no hm c
  unfold inR
  cases h1:mt g.1 c<;>cases h2:mt k.1 c<;>simp_all
 | true =>
  unfold rmE at he
  unfold rmO at ho
  rw [hm,Bool.true_and] at he ho
  rw [decide_eq_false_iff_not] at he
  rw [decide_eq_true (show (rmB g k).2.length≤64 by omega),Bool.true_and] at ho
  have hv:voidF (rmB g k).1 (rmB g k).2=true:=by simpa using ho
  cases hc:inR g c&&inR k c with
  | false=>rfl
  | true =>
   exfalso
   have e:inR (met g.1 k.1,g.2++k.2) c=(inR g c&&inR k c):=by
    unfold inR
    rw [met_mt hm,List.any_append]
    cases mt g.1 c<;>cases mt k.1 c<;>cases g.2.any (mt · c)<;>cases k.2.any (mt · c)<;>rfl
   rw [hc,← inR_red] at e
   unfold inR at e
   rw [Bool.and_eq_true] at e
   have:=voidF_sound (b:=(rmB g k).1) (hs:=(rmB g k).2) (fun h hh=>redH_ok h hh) (met_ok hm) hv (s:=c) e.1
   have e2:=e.2
   unfold rmB at this
   rw [this] at e2
   cases e2
end Go.Proofs.YtelkmeiepliecaaGreatDoor
