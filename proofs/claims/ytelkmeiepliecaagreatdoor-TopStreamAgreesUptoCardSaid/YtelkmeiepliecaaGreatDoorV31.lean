/-
  Part 31 of the proof.
-/
import Derived.Test.YtelkmeiepliecaaGreatDoorV30
import Derived.RangeFuncNested
import Derived.RangeFuncBound
import Derived.RangeFuncCalls
import Derived.RangeFuncLeaves
import Derived.OwnWalkIn
import Derived.TacticsInMore
import Derived.LoopNIn
import Derived.LoopIn
set_option linter.unusedSimpArgs false
set_option linter.unusedVariables false
set_option maxHeartbeats 16000000
namespace Go.Proofs.YtelkmeiepliecaaGreatDoor
open Go.RowKit Go.Shelf
attribute [local go_sem] Oper.semAt_some
structure R5 where
 A:Option Addr
 n:Nat
 c:Nat
 q:Bool
 B:Option Addr
 m:Nat
 d:Nat
 t:Bool
 H:Option Addr
 k:Nat
 h:Nat
def R5.l (r:R5):List Value:=[.slice r.A r.n r.c,.bool r.q,.slice r.B r.m r.d,.bool r.t,.slice r.H r.k r.h]
def R5s (Safe:Nat→World→Prop) (W:World) (A:Option Addr) (n:Nat) (r:Nat→R5):Prop:=∀ j,j<n→∃ b o,A=some ⟨b,o,none⟩∧Safe b W∧W.cell? ⟨b,o+j * 5,none⟩=some (.slice (r j).A (r j).n (r j).c)∧W.cell? ⟨b,o+j * 5+1,none⟩=some (.bool (r j).q)∧W.cell? ⟨b,o+j * 5+2,none⟩=some (.slice (r j).B (r j).m (r j).d)∧W.cell? ⟨b,o+j * 5+3,none⟩=some (.bool (r j).t)∧W.cell? ⟨b,o+j * 5+4,none⟩=some (.slice (r j).H (r j).k (r j).h)
theorem BX.same {w w':World} {g:Nat} {cs:List Value} (h:BX w g cs) (e:w'.heap[g]? = w.heap[g]?):BX w' g cs :=
 ⟨fun j u hu=>(World.cell?_of_block (a:=⟨g,j,none⟩) e).trans (h.1 j u hu),fun i=>(World.frozen?_of_block (a:=⟨g,i,none⟩) e).trans (h.2.1 i),by
  rw [Array.getElem?_eq_getElem h.2.2] at e
  exact (Array.getElem?_eq_some_iff.1 e).1⟩
theorem R5s.keep {Safe:Nat→World→Prop} {W W':World} {A:Option Addr} {n:Nat} {r:Nat→R5} (h:R5s Safe W A n r) (hk:∀ j,Safe j W→W'.heap[j]? = W.heap[j]? ∧ Safe j W'):R5s Safe W' A n r:=fun j hj=>by
 obtain ⟨b,o,e,hs,k0,k1,k2,k3,k4⟩:=h j hj
 obtain ⟨hb,hs'⟩:=hk b hs
 exact ⟨b,o,e,hs',(World.cell?_of_block (a:=⟨b,_,none⟩) hb).trans k0,(World.cell?_of_block (a:=⟨b,_,none⟩) hb).trans k1,(World.cell?_of_block (a:=⟨b,_,none⟩) hb).trans k2,(World.cell?_of_block (a:=⟨b,_,none⟩) hb).trans k3,(World.cell?_of_block (a:=⟨b,_,none⟩) hb).trans k4⟩
def PQ (Safe:Nat→World→Prop) (g1 n1 n2 c2:Nat) (A1 A2:Option Addr) (r1 r2:Nat→R5) (W:World):Prop:=(Safe g1 W∧W.cell? ⟨g1,0,none⟩=some (.slice A2 n2 c2))∧R5s Safe W A1 n1 r1∧R5s Safe W A2 n2 r2
theorem PQ.keep {Safe:Nat→World→Prop} {g1 n1 n2 c2:Nat} {A1 A2:Option Addr} {r1 r2:Nat→R5} {W W':World} (h:PQ Safe g1 n1 n2 c2 A1 A2 r1 r2 W) (hk:∀ j,Safe j W→W'.heap[j]? = W.heap[j]? ∧ Safe j W'):PQ Safe g1 n1 n2 c2 A1 A2 r1 r2 W' :=
 ⟨⟨(hk _ h.1.1).2,(World.cell?_of_block (a:=⟨g1,0,none⟩) (hk _ h.1.1).1).trans h.1.2⟩,h.2.1.keep hk,h.2.2.keep hk⟩
set_option maxRecDepth 100000 in
theorem pairs1_in (F:Fence) (n:Nat) (hf:F.fn 56) (hro:F.round=none) (hn:1≤n) (l g0 g1 n1 n2 c1 c2:Nat) (A1 A2:Option Addr) (r1 r2:Nat→R5) (Kp:World→World→Prop) (Safe:Nat→World→Prop) (Good:World→Prop)
 (hl1:n1≤1000) (hl2:n2≤1000)
 (s0:∀ (W:World) (o:Obj),Good W→Good (W.alloc o)) (s1:∀ (W:World) (cs:Array Value) (T:TypeId),Good W→Safe W.heap.size (W.alloc (.cells cs T))) (s2:∀ (j:Nat) (W W':World),Good W→Safe j W→Kp W W'→W'.heap[j]? = W.heap[j]? ∧ Safe j W')
 (s3:∀ (j:Nat) (W:World) (o:Obj),Good W→Safe j W→Safe j (W.alloc o)) (s4:∀ W W',Good W→Kp W W'→Good W') (s5:∀ (j:Nat) (W:World),Safe j W→j<W.heap.size)
 (J Jx:List {q:Nat // q<n1 * n2}→World→Prop) (W:World) (hJ:AbidesFrom W.heap.size J)
 (hY:∀ pre x W1,J pre W1→pre.length<n1 * n2→YieldAt F (n-1) Tryz.prog l #[.agg (r1 (x.1 / n2)).l.toArray,.agg (r2 (x.1 % n2)).l.toArray] W1 fun e W' =>
  (e=.returned (.bool true)∧J (pre++[x]) W'∧Kp W1 W')∨(e=.returned (.bool false)∧Jx (pre++[x]) W'))
 (b0:W.cell? ⟨g0,0,none⟩=some (.slice A1 n1 c1)) (hpq:PQ Safe g1 n1 n2 c2 A1 A2 r1 r2 W) (h0:J [] W) (hgd:Good W) :
 CallsIn F n Tryz.prog 56 #[.func (.yield l) #[] #[],.pointer (some ⟨g0,0,none⟩),.pointer (some ⟨g1,0,none⟩)] W fun e W'=>(∃ v,e=.returned v) ∧
  ((∃ xs,xs.map (·.1)=List.range (n1 * n2)∧J xs W')∨(∃ pre,(∃ k,pre.map (·.1)=List.range k)∧Jx pre W')):=by
 refine callsIn_of_wp Tryz.func56 rfl hf ?_ hro
 simp only [Tryz.ntmps56,List.size_toArray,List.length_cons,List.length_nil,Nat.reduceAdd,Nat.reduceSub,Array.replicate_succ,Array.replicate_zero,List.push_toArray,List.append_toArray,List.nil_append,List.cons_append]
 have s3':∀ (V:World) (o:Obj),Good V→∀ j,Safe j V→(V.alloc o).heap[j]? = V.heap[j]? ∧ Safe j (V.alloc o):=fun V o hg j hs=>⟨Below.heap_alloc V o j (s5 j V hs),s3 j V o hg hs⟩
 gi_wp2
 gi_loopw [10] (fun i wr=>∃ (k:Nat) (pre:List {q:Nat // q<n1 * n2}),k≤n1∧i=.int .i64 k∧pre.map (·.1)=List.range (k * n2)∧J pre wr∧W.heap.size≤wr.heap.size∧Good wr∧PQ Safe g1 n1 n2 c2 A1 A2 r1 r2 wr)
  (fun i _=>n1-(intOf i).toNat)
 case atStart=>exact ⟨0,[],Nat.zero_le _,rfl,by simp,h0,Nat.le_refl _,hgd,hpq⟩
 case round =>
  obtain ⟨k,pre,hk,rfl,hpre,hJs,hsz,hgw,hpw⟩:=hrel
  by_cases hlt:k<n1
  ·obtain ⟨b,o,rfl,hb,x0,x1,x2,x3,x4⟩:=hpw.2.1 k hlt
   replace hb:=s5 _ _ hb
   have b1':wr.cell? ⟨g1,0,none⟩=some (.slice A2 n2 c2):=hpw.1.2
   have hg1w:g1<wr.heap.size:=s5 _ _ hpw.1.1
   gi_wp2
   obtain ⟨wk,rfl⟩:∃ wk,wk=wr:=⟨wr,rfl⟩
   clear x0 x1 x2 x3 x4 b1'
   gi_loopw [16] (fun i wr=>∃ (j:Nat) (pre:List {q:Nat // q<n1 * n2}),j≤n2∧i=.int .i64 j∧pre.map (·.1)=List.range (k * n2+j)∧J pre wr∧W.heap.size≤wr.heap.size∧Good wr∧PQ Safe g1 n1 n2 c2 (some ⟨b,o,none⟩) A2 r1 r2 wr∧Safe wk.heap.size wr∧BX wr wk.heap.size (r1 k).l)
    (fun i _=>n2-(intOf i).toNat)
   case atStart=>exact ⟨0,pre,Nat.zero_le _,rfl,by simpa using hpre,hJ _ _ _ none hJs (World.grownBy_alloc _ _ none) (fun r e=>by cases e),by simp;omega,s0 _ _ hgw,hpw.keep (s3' _ _ hgw),s1 _ _ _ hgw,BX.new wk _ _ rfl⟩
   case round =>
    obtain ⟨j,pre2,hj,rfl,hpre2,hJ2,hsz2,hgd2,hpq2,hsf,hbx⟩:=hrel
    by_cases hjl:j<n2
    ·obtain ⟨b',o',e',hb',x0,x1,x2,x3,x4⟩:=hpq2.2.2 j hjl
     subst e'
     replace hb':=s5 _ _ hb'
     have hq:k * n2+j<n1 * n2:=by
      have:(k+1) * n2≤n1 * n2:=Nat.mul_le_mul_right _ hlt
      rw [Nat.succ_mul] at this
      omega
     have hlen:pre2.length<n1 * n2:=by
      have:=congrArg List.length hpre2
      rw [List.length_map,List.length_range] at this
      omega
     have hbx':BX wr wk.heap.size [.slice (r1 k).A (r1 k).n (r1 k).c,.bool (r1 k).q,.slice (r1 k).B (r1 k).m (r1 k).d,.bool (r1 k).t,.slice (r1 k).H (r1 k).k (r1 k).h]:=hbx
     obtain ⟨z0,z1,z2,z3,z4⟩:=hbx'.c5
     have hzl:=hbx'.2.2
     have hy0:=hY pre2 ⟨k * n2+j,hq⟩ _ (hJ _ _ _ none hJ2 (World.grownBy_alloc wr (.cells (r2 j).l.toArray 73) none) (fun r e=>by cases e)) hlen
     have hdv:(k * n2+j) / n2=k:=by rw [Nat.mul_comm,Nat.mul_add_div (by omega),Nat.div_eq_of_lt hjl,Nat.add_zero]
     have hmd:(k * n2+j) % n2=j:=by rw [Nat.mul_comm,Nat.mul_add_mod,Nat.mod_eq_of_lt hjl]
     simp only [hdv,hmd,R5.l] at hy0
     obtain ⟨fn,tmps,assign,body,hy,hR⟩:=hy0
     have hmap:List.map (fun x:{q:Nat // q<n1 * n2}=>x.1) (pre2++[(⟨k * n2+j,hq⟩:{q:Nat // q<n1 * n2})])=List.range (k * n2+(j+1)):=by rw [List.map_append,hpre2,← Nat.add_assoc,List.range_succ];rfl
     gi_wp2
     refine hR.mono ?_
     rintro e W3 (⟨rfl,hJ3,hk3⟩|⟨rfl,hJx3⟩)
     ·have hgd1:=s0 _ (.cells (r2 j).l.toArray 73) hgd2
      have hs3:=s2 _ _ _ hgd1 (s3 _ _ _ hgd2 hsf) hk3
      have hq3:=(hpq2.keep (s3' _ _ hgd2)).keep (fun j hs=>s2 j _ _ hgd1 hs hk3)
      have hz3:=s5 _ _ hs3.2
      gi_wp2
      go_roundw
      case rel=>exact ⟨j+1,_,by omega,by simp,hmap,hJ3,Nat.le_trans (by omega) (Nat.le_of_lt hz3),s4 _ _ hgd1 hk3,hq3,hs3.2,(hbx.below (ba _ _)).same hs3.1⟩
      case measure=>simp [intOf];omega
     ·gi_wp2
      refine bodyPost_ret (results_none rfl _ _ _) rfl ?_
      exact ⟨⟨_,rfl⟩,.inr ⟨_,⟨_,hmap⟩,hJx3⟩⟩
    ·obtain rfl:j=n2:=by omega
     gi_wp2
     go_roundw
     case rel=>exact ⟨k+1,pre2,by omega,by simp,by rw [Nat.succ_mul];exact hpre2,hJ2,hsz2,hgd2,hpq2⟩
     case measure=>simp [intOf];omega
  ·obtain rfl:k=n1:=by omega
   gi_wp2
   go_end0
   exact ⟨⟨_,rfl⟩,.inl ⟨_,hpre,hJs⟩⟩
def ownG (g:Nat) (W:World) (j:Nat):Prop:=∃ v,W.cell? ⟨g,0,none⟩=some v∧v.ownBlock=some j
def GoodC (g:Nat) (W:World):Prop:=g<W.heap.size∧∀ j,ownG g W j→j<W.heap.size
def SafeC (g j:Nat) (W:World):Prop:=(∃ cs T f,W.heap[j]? = some (.cells cs T f))∧j≠g∧¬ ownG g W j
def KpC (g:Nat) (W W':World):Prop:=GoodC g W→GoodC g W'∧W.heap.size≤W'.heap.size∧(∀ j,j<W.heap.size→ownG g W' j→ownG g W j)∧∀ j cs T f,W.heap[j]? = some (.cells cs T f)→j≠g→¬ ownG g W j→W'.heap[j]? = W.heap[j]?
theorem SafeC.lt {g j:Nat} {W:World} (h:SafeC g j W):j<W.heap.size:=by
 obtain ⟨⟨cs,T,f,e⟩,_⟩:=h
 exact (Array.getElem?_eq_some_iff.1 e).1
theorem ownG_same {g:Nat} {W W':World} (e:W'.heap[g]? = W.heap[g]?) {j:Nat}:ownG g W' j↔ownG g W j:=by
 unfold ownG
 rw [World.cell?_of_block (a:=⟨g,0,none⟩) e]
theorem GoodC.alloc {g:Nat} {W:World} (h:GoodC g W) (o:Obj):GoodC g (W.alloc o) :=
 ⟨by have:=h.1;simp;omega,fun j hj=>by have:=h.2 j ((ownG_same (Below.heap_alloc W o g h.1)).1 hj);simp;omega⟩
theorem SafeC.new {g:Nat} {W:World} (h:GoodC g W) (cs:Array Value) (T:TypeId):SafeC g W.heap.size (W.alloc (.cells cs T)) :=
 ⟨⟨cs,T,(0,0),heap_alloc_new W _⟩,by have:=h.1;omega,fun ho=>by have:=h.2 _ ((ownG_same (Below.heap_alloc W _ g h.1)).1 ho);omega⟩
theorem SafeC.kp {g j:Nat} {W W':World} (h:GoodC g W) (hs:SafeC g j W) (hk:KpC g W W'):W'.heap[j]? = W.heap[j]? ∧ SafeC g j W':=by
 have hl:=hs.lt
 obtain ⟨⟨cs,T,f,e⟩,hn,ho⟩:=hs
 obtain ⟨k1,k2,k3,k4⟩:=hk h
 have hh:=k4 j cs T f e hn ho
 exact ⟨hh,⟨cs,T,f,hh.trans e⟩,hn,fun h2=>ho (k3 j hl h2)⟩
theorem SafeC.alloc {g j:Nat} {W:World} (o:Obj) (h:GoodC g W) (hs:SafeC g j W):SafeC g j (W.alloc o):=by
 have hl:=hs.lt
 obtain ⟨⟨cs,T,f,e⟩,hn,ho⟩:=hs
 exact ⟨⟨cs,T,f,(Below.heap_alloc W o j hl).trans e⟩,hn,fun h2=>ho ((ownG_same (Below.heap_alloc W o g h.1)).1 h2)⟩
theorem KpC.trans {g:Nat} {A B C:World} (h:KpC g A B) (k:KpC g B C):KpC g A C:=fun hg=>by
 obtain ⟨h1,h2,h3,h4⟩:=h hg
 obtain ⟨k1,k2,k3,k4⟩:=k h1
 refine ⟨k1,Nat.le_trans h2 k2,fun j hj ho=>h3 j hj (k3 j (Nat.lt_of_lt_of_le hj h2) ho),fun j cs T f e hn ho=>?_⟩
 have e2:=h4 j cs T f e hn ho
 refine (k4 j cs T f (e2.trans e) hn (fun h5=>ho (h3 j (Array.getElem?_eq_some_iff.1 e).1 h5))).trans e2
theorem KpC.put {g:Nat} {w:World} (hg:g<w.heap.size) (W:World) (l:Nat) (o o':Obj) (hl:w.heap.size≤l) (h:W.heap[l]? = some o) (hc:o.isCells=false) (_:o.isWalk=false):KpC g W (W.putObj l o'):=fun hg2=>by
 have hll:=(Array.getElem?_eq_some_iff.1 h).1
 have e:∀ j,j≠l→(W.putObj l o').heap[j]? = W.heap[j]? := fun j hj=>World.putObj_heap_other (by omega)
 have eg:=e g (by omega)
 have hsz:(W.putObj l o').heap.size=W.heap.size:=World.putObj_size
 refine ⟨⟨by rw [hsz];exact hg2.1,fun j hj=>by rw [hsz];exact hg2.2 j ((ownG_same eg).1 hj)⟩,by rw [hsz];exact Nat.le_refl _,fun j _ ho=>(ownG_same eg).1 ho,fun j cs T f ec _ _=>e j (fun hj=>?_)⟩
 rw [hj,h] at ec
 cases ec
 cases hc
theorem pairs_stops (F:Fence) (n:Nat) (hf:F.fn 56) (hro:F.round=none) (hn:1≤n) (g g0 g1 n1 n2 c1 c2:Nat) (A1 A2:Option Addr) (r1 r2:Nat→R5) (w:World) (hl1:n1≤1000) (hl2:n2≤1000)
 (b0:w.cell? ⟨g0,0,none⟩=some (.slice A1 n1 c1)) (hb0:g0<w.heap.size) (hpq:PQ (SafeC g) g1 n1 n2 c2 A1 A2 r1 r2 w) (hgd:GoodC g w) :
 SeqStopsK F n Tryz.prog 56 #[.pointer (some ⟨g0,0,none⟩),.pointer (some ⟨g1,0,none⟩)] (fun x:{q:Nat // q<n1 * n2}=>#[.agg (r1 (x.1 / n2)).l.toArray,.agg (r2 (x.1 % n2)).l.toArray]) (KpC g)
  (fun xs=>xs.map (·.1)=List.range (n1 * n2)) (fun pre=>∃ k,pre.map (·.1)=List.range k) (n1 * n2) w:=fun l J Jx W hW hJ _ hY h0=>by
 have hs:∀ j,j<w.heap.size→W.heap[j]? = w.heap[j]? := fun j hj=>hW.block j hj
 have hg2:GoodC g W:=⟨Nat.lt_of_lt_of_le hgd.1 hW.size,fun j hj=>Nat.lt_of_lt_of_le (hgd.2 j ((ownG_same (hs g hgd.1)).1 hj)) hW.size⟩
 exact pairs1_in F n hf hro hn l g0 g1 n1 n2 c1 c2 A1 A2 r1 r2 (KpC g) (SafeC g) (GoodC g) hl1 hl2 (fun _ _ h=>h.alloc _) (fun _ _ _ h=>SafeC.new h _ _) (fun _ _ _ h k m=>SafeC.kp h k m) (fun _ _ _ h k=>k.alloc _ h) (fun _ _ h k=>(k h).1) (fun _ _ h=>h.lt) J Jx W hJ hY
  ((hW.cell (p:=⟨g0,0,none⟩) hb0).trans b0) (hpq.keep fun j h=>⟨hs j h.lt,by
    obtain ⟨⟨cs,T,f,e⟩,hn,ho⟩:=h
    exact ⟨⟨cs,T,f,(hs j (Array.getElem?_eq_some_iff.1 e).1).trans e⟩,hn,fun h2=>ho ((ownG_same (hs g hgd.1)).1 h2)⟩⟩) h0 hg2
open Go.RowKit
open Pm
def fixB (c:ByteArray):Nat→List ByteArray→List ByteArray
 | _,[]=>[]
 | 0,x::xs=>if stB x=true then (c++tlB x)::xs else x::fixB c 0 xs
 | k+1,x::xs=>if stB x=true then x::fixB c k xs else x::fixB c (k+1) xs
theorem fix_nil (c:ByteArray) (k:Nat):fixB c k []=[]:=by cases k<;>rfl
theorem fix_lit {c x:ByteArray} {k:Nat} {xs:List ByteArray} (hs:stB x=false):fixB c k (x::xs)=x::fixB c k xs:=by
 cases k<;>(conv=>lhs;unfold fixB)<;>rw [if_neg (by rw [hs];decide)]
theorem fix_zero {c x:ByteArray} {xs:List ByteArray} (hs:stB x=true):fixB c 0 (x::xs)=(c++tlB x)::xs:=by
 conv=>lhs;unfold fixB
 rw [if_pos hs]
theorem fix_succ {c x:ByteArray} {k:Nat} {xs:List ByteArray} (hs:stB x=true):fixB c (k+1) (x::xs)=x::fixB c k xs:=by
 conv=>lhs;unfold fixB
 rw [if_pos hs]
theorem cnt_lit {x:ByteArray} {xs:List ByteArray} (hs:stB x=false):countB stB (x::xs)=countB stB xs:=by rw [count_cons,if_neg (by rw [hs];decide)];omega
theorem cnt_star {x:ByteArray} {xs:List ByteArray} (hs:stB x=true):countB stB (x::xs)=countB stB xs+1:=by rw [count_cons,if_pos hs];omega
theorem fix_len (c:ByteArray):∀ (k:Nat) (xs:List ByteArray),(fixB c k xs).length=xs.length
 | k,[]=>by rw [fix_nil]
 | 0,x::xs=>by
  cases hs:stB x with
  | true=>rw [fix_zero hs];rfl
  | false=>rw [fix_lit hs,List.length_cons,fix_len c 0 xs];rfl
 | k+1,x::xs=>by
  cases hs:stB x with
  | true=>rw [fix_succ hs,List.length_cons,fix_len c k xs];rfl
  | false=>rw [fix_lit hs,List.length_cons,fix_len c (k+1) xs];rfl
theorem comp_pos {c:ByteArray} (hc:comp c.data.toList=true):0<c.size:=by
 rcases Nat.eq_zero_or_pos c.size with h|h
 ·rw [bytes_nil h] at hc;cases hc
 ·exact h
theorem st_fixed {c t:ByteArray} (hc:comp c.data.toList=true):stB (c++t)=false:=by rw [st_app (comp_pos hc)];exact comp_42 hc
theorem fix_count {c:ByteArray} (hc:comp c.data.toList=true):∀ (k:Nat) (xs:List ByteArray),k<countB stB xs→countB stB (fixB c k xs)+1=countB stB xs
 | k,[],h=>by simp [countB] at h
 | 0,x::xs,h=>by
  cases hs:stB x with
  | true=>rw [fix_zero hs,cnt_lit (st_fixed hc),cnt_star hs]
  | false=>rw [cnt_lit hs] at h;rw [fix_lit hs,cnt_lit hs,cnt_lit hs,fix_count hc 0 xs h]
 | k+1,x::xs,h=>by
  cases hs:stB x with
  | true=>rw [cnt_star hs] at h;rw [fix_succ hs,cnt_star hs,cnt_star hs,fix_count hc k xs (by omega)]
  | false=>rw [cnt_lit hs] at h;rw [fix_lit hs,cnt_lit hs,cnt_lit hs,fix_count hc (k+1) xs h]
theorem part_of_comp {x:ByteArray} (h:comp x.data.toList=true):partB x=true:=by
 unfold partB
 rw [h,Bool.or_true]
theorem fixed_comp {c x:ByteArray} (hc:comp c.data.toList=true) (hx:partB x=true) (hs:stB x=true):comp (c++tlB x).data.toList=true:=by
 rw [app_data]
 exact comp_app hc (star_tail hx hs)
theorem fix_part {c:ByteArray} (hc:comp c.data.toList=true):∀ (k:Nat) (xs:List ByteArray),(∀ x∈xs,partB x=true)→∀ x∈fixB c k xs,partB x=true
 | k,[],_=>by rw [fix_nil];intro x hx;cases hx
 | 0,x::xs,h=>by
  intro y hy
  cases hs:stB x with
  | true =>
   rw [fix_zero hs] at hy
   rcases List.mem_cons.1 hy with rfl|hy
   ·exact part_of_comp (fixed_comp hc (h x (by simp)) hs)
   ·exact h y (by simp [hy])
  | false =>
   rw [fix_lit hs] at hy
   rcases List.mem_cons.1 hy with rfl|hy
   ·exact h y (by simp)
   ·exact fix_part hc 0 xs (fun z hz=>h z (by simp [hz])) y hy
 | k+1,x::xs,h=>by
  intro y hy
  cases hs:stB x with
  | true =>
   rw [fix_succ hs] at hy
   rcases List.mem_cons.1 hy with rfl|hy
   ·exact h y (by simp)
   ·exact fix_part hc k xs (fun z hz=>h z (by simp [hz])) y hy
  | false =>
   rw [fix_lit hs] at hy
   rcases List.mem_cons.1 hy with rfl|hy
   ·exact h y (by simp)
   ·exact fix_part hc (k+1) xs (fun z hz=>h z (by simp [hz])) y hy
def insC (c:ByteArray):Nat→List ByteArray→List ByteArray
 | 0,cs=>c::cs
 | k+1,[]=>[c]
 | k+1,d::ds=>d::insC c k ds
theorem fix_fil {c:ByteArray} (hc:comp c.data.toList=true):∀ {k:Nat} {xs cs l:List ByteArray} {r:Bool},k<countB stB xs→Fil (fixB c k xs) r cs l→Fil xs r (insC c k cs) l
 | k,[],cs,l,r,h,_=>by simp [countB] at h
 | 0,x::xs,cs,l,r,h,hf=>by
  cases hs:stB x with
  | true =>
   rw [fix_zero hs,Fil.lit (st_fixed hc)] at hf
   obtain ⟨l',rfl,h2⟩:=hf
   exact (Fil.star hs).2 ⟨c,cs,l',rfl,hc,rfl,h2⟩
  | false =>
   rw [cnt_lit hs] at h
   rw [fix_lit hs,Fil.lit hs] at hf
   obtain ⟨l',rfl,h2⟩:=hf
   exact (Fil.lit hs).2 ⟨l',rfl,fix_fil hc h h2⟩
 | k+1,x::xs,cs,l,r,h,hf=>by
  cases hs:stB x with
  | true =>
   rw [cnt_star hs] at h
   rw [fix_succ hs,Fil.star hs] at hf
   obtain ⟨d,ds,l',rfl,h1,rfl,h2⟩:=hf
   exact (Fil.star hs).2 ⟨d,insC c k ds,l',rfl,h1,rfl,fix_fil hc (by omega) h2⟩
  | false =>
   rw [cnt_lit hs] at h
   rw [fix_lit hs,Fil.lit hs] at hf
   obtain ⟨l',rfl,h2⟩:=hf
   exact (Fil.lit hs).2 ⟨l',rfl,fix_fil hc h h2⟩
theorem fil_fix {c:ByteArray}:∀ {k:Nat} {xs ds l:List ByteArray} {r:Bool},comp c.data.toList=true→k<countB stB xs→Fil xs r ds l→ds[k]? = some c→Fil (fixB c k xs) r (ds.eraseIdx k) l
 | k,[],ds,l,r,hc,h,_,_=>by simp [countB] at h
 | 0,x::xs,ds,l,r,hc,h,hf,hk=>by
  cases hs:stB x with
  | true =>
   rw [Fil.star hs] at hf
   obtain ⟨d,ds',l',rfl,h1,rfl,h2⟩:=hf
   have:d=c:=by simpa using hk
   subst this
   rw [fix_zero hs,Fil.lit (st_fixed hc)]
   exact ⟨l',rfl,h2⟩
  | false =>
   rw [cnt_lit hs] at h
   rw [Fil.lit hs] at hf
   obtain ⟨l',rfl,h2⟩:=hf
   rw [fix_lit hs,Fil.lit hs]
   exact ⟨l',rfl,fil_fix hc h h2 hk⟩
 | k+1,x::xs,ds,l,r,hc,h,hf,hk=>by
  cases hs:stB x with
  | true =>
   rw [cnt_star hs] at h
   rw [Fil.star hs] at hf
   obtain ⟨d,ds',l',rfl,h1,rfl,h2⟩:=hf
   rw [fix_succ hs,Fil.star hs]
   exact ⟨d,ds'.eraseIdx k,l',rfl,h1,rfl,fil_fix hc (by omega) h2 (by simpa using hk)⟩
  | false =>
   rw [cnt_lit hs] at h
   rw [Fil.lit hs] at hf
   obtain ⟨l',rfl,h2⟩:=hf
   rw [fix_lit hs,Fil.lit hs]
   exact ⟨l',rfl,fil_fix hc h h2 hk⟩
open Go.RowKit
open Pm
def stp:List ByteArray→List ByteArray→Option (Nat×ByteArray×ByteArray)
 | x::xs,y::ys=>if x=y then (match stp xs ys with
  | some p=>some (if stB x=true then p.1+1 else p.1,p.2)
  | none=>none) else some (0,x,y)
 | _,_=>none
theorem stp_ne {x y:ByteArray} {xs ys:List ByteArray} (h:x≠y):stp (x::xs) (y::ys)=some (0,x,y):=by
 conv=>lhs;unfold stp
 rw [if_neg h]
theorem stp_eq (x:ByteArray) (xs ys:List ByteArray):stp (x::xs) (x::ys)=match stp xs ys with
 | some p=>some (if stB x=true then p.1+1 else p.1,p.2)
 | none=>none:=by
 conv=>lhs;unfold stp
 rw [if_pos rfl]
theorem stp_self:∀ xs:List ByteArray,stp xs xs=none
 | []=>rfl
 | x::xs=>by rw [stp_eq,stp_self xs]
theorem stp_none:∀ {xs ys:List ByteArray},xs.length=ys.length→stp xs ys=none→xs=ys
 | [],[],_,_=>rfl
 | [],y::ys,h,_=>by simp at h
 | x::xs,[],h,_=>by simp at h
 | x::xs,y::ys,h,hn=>by
  by_cases e:x=y
  ·subst e
   rw [stp_eq] at hn
   cases hs:stp xs ys with
   | none=>rw [stp_none (by simpa using h) hs]
   | some p=>rw [hs] at hn;cases hn
  ·rw [stp_ne e] at hn;cases hn
theorem stp_at:∀ {i:Nat} {xs ys:List ByteArray} {x y:ByteArray},xs.take i=ys.take i→xs[i]? = some x→ys[i]? = some y→x≠y→stp xs ys=some (countB stB (xs.take i),x,y)
 | i,[],ys,x,y,_,h,_,_=>by simp at h
 | i,a::xs,[],x,y,_,_,h,_=>by simp at h
 | 0,a::xs,b::ys,x,y,_,hx,hy,hne=>by
  have e1:a=x:=by simpa using hx
  have e2:b=y:=by simpa using hy
  subst e1 e2
  rw [stp_ne hne]
  rfl
 | i+1,a::xs,b::ys,x,y,ht,hx,hy,hne=>by
  rw [List.take_succ_cons,List.take_succ_cons] at ht
  obtain ⟨rfl,h2⟩:=List.cons.inj ht
  rw [stp_eq,stp_at h2 (by simpa using hx) (by simpa using hy) hne,List.take_succ_cons,count_cons]
  simp only
  split
  ·rw [Nat.add_comm]
  ·rw [Nat.zero_add]
theorem stp_le:∀ {xs ys:List ByteArray} {k:Nat} {x y:ByteArray},stp xs ys=some (k,x,y) →
 k+(if stB x=true then 1 else 0)≤countB stB xs∧k+(if stB y=true then 1 else 0)≤countB stB ys∧x∈xs∧y∈ys∧x≠y
 | [],ys,k,x,y,h=>by cases ys<;>cases h
 | a::xs,[],k,x,y,h=>by cases h
 | a::xs,b::ys,k,x,y,h=>by
  by_cases e:a=b
  ·subst e
   rw [stp_eq] at h
   cases hs:stp xs ys with
   | none=>rw [hs] at h;cases h
   | some p =>
    rw [hs] at h
    obtain ⟨j,x',y'⟩:=p
    simp only [Option.some.injEq,Prod.mk.injEq] at h
    obtain ⟨hk,rfl,rfl⟩:=h
    obtain ⟨h1,h2,h3,h4,h5⟩:=stp_le hs
    rw [count_cons,count_cons]
    refine ⟨?_,?_,by simp [h3],by simp [h4],h5⟩<;>(rw [←hk];split<;>omega)
  ·rw [stp_ne e] at h
   simp only [Option.some.injEq,Prod.mk.injEq] at h
   obtain ⟨rfl,rfl,rfl⟩:=h
   rw [count_cons,count_cons]
   exact ⟨by omega,by omega,by simp,by simp,e⟩
def detO (a b:ByteArray):Bool:=if stB a=true then (!stB b&&mpOk a b) else (stB b&&mpOk b a)
def detC (a b:ByteArray):ByteArray:=if stB a=true then (if stB b=true then ⟨#[]⟩ else mpCap a b) else mpCap b a
theorem det_good {x y:ByteArray} (hx:partB x=true) (hy:partB y=true) (h:detO x y=true) :
 comp (detC x y).data.toList=true∧((stB x=true∧stB y=false∧detC x y++tlB x=y)∨(stB x=false∧stB y=true∧detC x y++tlB y=x)):=by
 unfold detO at h
 cases hs:stB x with
 | true =>
  rw [if_pos hs,Bool.and_eq_true] at h
  have hsy:stB y=false:=by simpa using h.1
  have e:detC x y=mpCap x y:=by unfold detC;rw [if_pos hs,if_neg (by rw [hsy];decide)]
  obtain ⟨h1,h2⟩:=part_cap (part_name hy hsy) hs h.2
  rw [e]
  exact ⟨h1,.inl ⟨rfl,hsy,h2⟩⟩
 | false =>
  rw [if_neg (by rw [hs];decide),Bool.and_eq_true] at h
  have e:detC x y=mpCap y x:=by unfold detC;rw [if_neg (by rw [hs];decide)]
  obtain ⟨h1,h2⟩:=part_cap (part_name hx hs) h.1 h.2
  rw [e]
  exact ⟨h1,.inr ⟨rfl,h.1,h2⟩⟩
theorem cap_mk {x c:ByteArray} (hc:comp c.data.toList=true) (hs:stB x=true):mpOk x (c++tlB x)=true∧mpCap x (c++tlB x)=c:=by
 have hsf:Lib.hasSuffix (c++tlB x).data.toList (tlB x).data.toList=true:=by
  unfold Lib.hasSuffix
  rw [List.isSuffixOf_iff_suffix,app_data]
  exact List.suffix_append _ _
 have ht:Lib.trimSuffix (c++tlB x).data.toList (tlB x).data.toList=c.data.toList:=by
  unfold Lib.trimSuffix
  rw [if_pos hsf,app_data]
  simp
 refine ⟨?_,?_⟩
 ·unfold mpOk
  rw [if_pos hs,hsf,ht]
  cases h:c.data.toList with
  | nil=>rw [h] at hc;cases hc
  | cons a l=>rfl
 ·unfold mpCap
  rw [if_pos hs,ht,mkB_back]
theorem app_cancelL {x y c:ByteArray} (hx:stB x=true) (hy:stB y=true) (h:c++tlB x=c++tlB y):x=y:=by
 have e:(c++tlB x).data.toList=(c++tlB y).data.toList:=by rw [h]
 rw [app_data,app_data] at e
 have e2:=List.append_cancel_left e
 rw [←mkB_back x,← mkB_back y,star_head hx,star_head hy,e2]
theorem stp_fil:∀ {xs ys cs l:List ByteArray} {r:Bool} {k:Nat} {x y:ByteArray},stp xs ys=some (k,x,y)→Fil xs r cs l→Fil ys r cs l→detO x y=true∧cs[k]? = some (detC x y)
 | [],ys,cs,l,r,k,x,y,h,_,_=>by cases ys<;>cases h
 | a::xs,[],cs,l,r,k,x,y,h,_,_=>by cases h
 | a::xs,b::ys,cs,l,r,k,x,y,h,hf,hg=>by
  by_cases e:a=b
  ·subst e
   rw [stp_eq] at h
   cases hs:stp xs ys with
   | none=>rw [hs] at h;cases h
   | some p =>
    rw [hs] at h
    obtain ⟨j,x',y'⟩:=p
    simp only [Option.some.injEq,Prod.mk.injEq] at h
    obtain ⟨hk,rfl,rfl⟩:=h
    cases hst:stB a with
    | true =>
     rw [Fil.star hst] at hf hg
     obtain ⟨c,cs',l',rfl,h1,rfl,h2⟩:=hf
     obtain ⟨c2,cs2,l2,e1,k1,e2,k2⟩:=hg
     obtain ⟨rfl,rfl⟩:=List.cons.inj e1
     obtain ⟨_,rfl⟩:=List.cons.inj e2
     rw [if_pos hst] at hk
     subst hk
     have ih:=stp_fil hs h2 k2
     exact ⟨ih.1,by simpa using ih.2⟩
    | false =>
     rw [Fil.lit hst] at hf hg
     obtain ⟨l',rfl,h2⟩:=hf
     obtain ⟨l2,e2,k2⟩:=hg
     obtain ⟨_,rfl⟩:=List.cons.inj e2
     rw [if_neg (by rw [hst];decide)] at hk
     subst hk
     exact stp_fil hs h2 k2
  ·rw [stp_ne e] at h
   simp only [Option.some.injEq,Prod.mk.injEq] at h
   obtain ⟨rfl,rfl,rfl⟩:=h
   cases hst:stB a with
   | true =>
    rw [Fil.star hst] at hf
    obtain ⟨c,cs',l',rfl,h1,rfl,h2⟩:=hf
    cases hsb:stB b with
    | true =>
     rw [Fil.star hsb] at hg
     obtain ⟨c2,cs2,l2,e1,k1,e2,k2⟩:=hg
     obtain ⟨rfl,rfl⟩:=List.cons.inj e1
     obtain ⟨e3,_⟩:=List.cons.inj e2
     exact absurd (app_cancelL hst hsb e3) e
    | false =>
     rw [Fil.lit hsb] at hg
     obtain ⟨l2,e2,_⟩:=hg
     obtain ⟨e3,_⟩:=List.cons.inj e2
     subst e3
     obtain ⟨m1,m2⟩:=cap_mk h1 hst
     unfold detO detC
     rw [if_pos hst,if_pos hst,if_neg (by rw [hsb];decide),hsb,m1,m2]
     exact ⟨rfl,rfl⟩
   | false =>
    rw [Fil.lit hst] at hf
    obtain ⟨l',rfl,_⟩:=hf
    cases hsb:stB b with
    | true =>
     rw [Fil.star hsb] at hg
     obtain ⟨c2,cs2,l2,rfl,k1,e2,k2⟩:=hg
     obtain ⟨e3,_⟩:=List.cons.inj e2
     subst e3
     obtain ⟨m1,m2⟩:=cap_mk k1 hsb
     unfold detO detC
     rw [if_neg (by rw [hst];decide),if_neg (by rw [hst];decide),hsb,m1,m2]
     exact ⟨rfl,rfl⟩
    | false =>
     rw [Fil.lit hsb] at hg
     obtain ⟨l2,e2,_⟩:=hg
     exact absurd (List.cons.inj e2).1 e
def eqz:Nat→List ByteArray→List ByteArray→List ByteArray→List ByteArray×Bool
 | 0,_,_,_=>([],false)
 | n+1,l,f,s=>match stp f s with
  | none=>(l,true)
  | some p=>if detO p.2.1 p.2.2=true then eqz n (fixB (detC p.2.1 p.2.2) p.1 l) (fixB (detC p.2.1 p.2.2) p.1 f) (fixB (detC p.2.1 p.2.2) p.1 s) else ([],false)
theorem eqz_end {n:Nat} {l f s:List ByteArray} (h:stp f s=none):eqz (n+1) l f s=(l,true):=by
 conv=>lhs;unfold eqz
 rw [h]
theorem eqz_bad {n k:Nat} {l f s:List ByteArray} {x y:ByteArray} (h:stp f s=some (k,x,y)) (hd:detO x y=false):eqz (n+1) l f s=([],false):=by
 conv=>lhs;unfold eqz
 rw [h]
 simp only
 rw [if_neg (by rw [hd];decide)]
theorem eqz_step {n k:Nat} {l f s:List ByteArray} {x y:ByteArray} (h:stp f s=some (k,x,y)) (hd:detO x y=true):eqz (n+1) l f s=eqz n (fixB (detC x y) k l) (fixB (detC x y) k f) (fixB (detC x y) k s):=by
 conv=>lhs;unfold eqz
 rw [h]
 simp only
 rw [if_pos hd]
def ES (l f s:List ByteArray):Prop :=
 ((∀ x∈l,partB x=true)∧(∀ x∈f,partB x=true)∧∀ x∈s,partB x=true)∧countB stB l=countB stB f∧countB stB s=countB stB f∧f.length=s.length
theorem ES.lt {l f s:List ByteArray} {k:Nat} {x y:ByteArray} (h:ES l f s) (hs:stp f s=some (k,x,y)) (hd:detO x y=true) :
 comp (detC x y).data.toList=true∧k<countB stB f∧((stB x=true∧stB y=false∧detC x y++tlB x=y)∨(stB x=false∧stB y=true∧detC x y++tlB y=x)):=by
 obtain ⟨h1,h2,h3,h4,_⟩:=stp_le hs
 obtain ⟨d1,d2⟩:=det_good (h.1.2.1 x h3) (h.1.2.2 y h4) hd
 refine ⟨d1,?_,d2⟩
 rcases d2 with d2|d2
 ·rw [if_pos d2.1] at h1;omega
 ·rw [if_pos d2.2.1] at h2;have:=h.2.2.1;omega
theorem ES.fix {l f s:List ByteArray} {k:Nat} {c:ByteArray} (h:ES l f s) (hc:comp c.data.toList=true) (hk:k<countB stB f) :
 ES (fixB c k l) (fixB c k f) (fixB c k s)∧countB stB (fixB c k f)+1=countB stB f:=by
 obtain ⟨⟨h1,h2,h3⟩,h4,h5,h6⟩:=h
 have c1:=fix_count hc k l (by omega)
 have c2:=fix_count hc k f hk
 have c3:=fix_count hc k s (by omega)
 exact ⟨⟨⟨fix_part hc k l h1,fix_part hc k f h2,fix_part hc k s h3⟩,by omega,by omega,by rw [fix_len,fix_len,h6]⟩,c2⟩
theorem eqz_means {r:Bool} {L:List ByteArray}:∀ (n:Nat) (l f s:List ByteArray),countB stB f<n→ES l f s →
 (((eqz n l f s).2=true∧∃ cs,Fil (eqz n l f s).1 r cs L)↔∃ cs p,Fil l r cs L∧Fil f r cs p∧Fil s r cs p)
 | 0,l,f,s,h,_=>by omega
 | n+1,l,f,s,h,hE=>by
  cases hs:stp f s with
  | none =>
   have e:=stp_none hE.2.2.2 hs
   subst e
   rw [eqz_end hs]
   constructor
   ·rintro ⟨_,cs,hf⟩
    obtain ⟨p,hp⟩:=hf.kinds hE.2.1
    exact ⟨cs,p,hf,hp,hp⟩
   ·rintro ⟨cs,p,hf,_,_⟩
    exact ⟨rfl,cs,hf⟩
  | some p =>
   obtain ⟨k,x,y⟩:=p
   cases hd:detO x y with
   | false =>
    rw [eqz_bad hs hd]
    constructor
    ·rintro ⟨e,_⟩;cases e
    ·rintro ⟨cs,p,_,h1,h2⟩
     rw [(stp_fil hs h1 h2).1] at hd
     cases hd
   | true =>
    obtain ⟨hc,hk,_⟩:=hE.lt hs hd
    obtain ⟨hE2,hcnt⟩:=hE.fix hc hk
    rw [eqz_step hs hd,eqz_means n _ _ _ (by omega) hE2]
    constructor
    ·rintro ⟨cs,p,h1,h2,h3⟩
     exact ⟨insC (detC x y) k cs,p,fix_fil hc (by rw [hE.2.1];exact hk) h1,fix_fil hc hk h2,fix_fil hc (by rw [hE.2.2.1];exact hk) h3⟩
    ·rintro ⟨ds,p,h1,h2,h3⟩
     have hat:=(stp_fil hs h2 h3).2
     exact ⟨ds.eraseIdx k,p,fil_fix hc (by rw [hE.2.1];exact hk) h1 hat,fil_fix hc hk h2 hat,fil_fix hc (by rw [hE.2.2.1];exact hk) h3 hat⟩
theorem fil_length:∀ {xs cs l:List ByteArray},Fil xs true cs l→∃ init c,cs=init++[c]∧l.length=xs.length+(spB c.data.toList).length
 | [],cs,l,h=>by
  obtain ⟨c,rfl,rfl,_⟩:=h
  exact ⟨[],c,rfl,by simp⟩
 | x::xs,cs,l,h=>by
  cases hs:stB x with
  | true =>
   rw [Fil.star hs] at h
   obtain ⟨d,ds,l',rfl,_,rfl,h2⟩:=h
   obtain ⟨init,c,rfl,e⟩:=fil_length h2
   exact ⟨d::init,c,rfl,by simp [e];omega⟩
  | false =>
   rw [Fil.lit hs] at h
   obtain ⟨l',rfl,h2⟩:=h
   obtain ⟨init,c,rfl,e⟩:=fil_length h2
   exact ⟨init,c,rfl,by simp [e];omega⟩
theorem fil_eqlen {xs ys cs l:List ByteArray} {r:Bool} (h:Fil xs r cs l) (k:Fil ys r cs l):xs.length=ys.length:=by
 cases r with
 | false=>rw [h.len.2.2 rfl,k.len.2.2 rfl]
 | true =>
  obtain ⟨i1,c1,e1,h1⟩:=fil_length h
  obtain ⟨i2,c2,e2,h2⟩:=fil_length k
  rw [e1] at e2
  have e3:=List.append_inj_right' e2 rfl
  have e4:c1=c2:=by simpa using e3
  subst e4
  omega
def tails:List ByteArray→Nat
 | []=>0
 | x::xs=>(if stB x=true then (tlB x).size else 0)+tails xs
theorem app_size (a b:ByteArray):(a++b).size=a.size+b.size:=by
 rw [Lib.size_eq,Lib.size_eq,Lib.size_eq,app_data,List.length_append]
theorem fix_tails {c:ByteArray} (hc:comp c.data.toList=true):∀ {k:Nat} {xs:List ByteArray},k<countB stB xs→∃ e,tails xs=tails (fixB c k xs)+e∧∀ y∈fixB c k xs,y∈xs∨(stB y=false∧y.size=c.size+e)
 | k,[],h=>by simp [countB] at h
 | 0,x::xs,h=>by
  cases hs:stB x with
  | true =>
   refine ⟨(tlB x).size,?_,fun y hy=>?_⟩
   ·rw [fix_zero hs]
    unfold tails
    rw [if_pos hs,if_neg (by rw [st_fixed hc];decide)]
    omega
   ·rw [fix_zero hs] at hy
    rcases List.mem_cons.1 hy with rfl|hy
    ·exact .inr ⟨st_fixed hc,app_size _ _⟩
    ·exact .inl (by simp [hy])
  | false =>
   rw [cnt_lit hs] at h
   obtain ⟨e,h1,h2⟩:=fix_tails hc h
   refine ⟨e,?_,fun y hy=>?_⟩
   ·rw [fix_lit hs]
    unfold tails
    rw [h1,if_neg (by rw [hs];decide)]
    omega
   ·rw [fix_lit hs] at hy
    rcases List.mem_cons.1 hy with rfl|hy
    ·exact .inl (by simp)
    ·rcases h2 y hy with h3|h3
     ·exact .inl (by simp [h3])
     ·exact .inr h3
 | k+1,x::xs,h=>by
  cases hs:stB x with
  | true =>
   rw [cnt_star hs] at h
   obtain ⟨e,h1,h2⟩:=fix_tails hc (k:=k) (xs:=xs) (by omega)
   refine ⟨e,?_,fun y hy=>?_⟩
   ·rw [fix_succ hs]
    unfold tails
    rw [h1,if_pos hs]
    omega
   ·rw [fix_succ hs] at hy
    rcases List.mem_cons.1 hy with rfl|hy
    ·exact .inl (by simp)
    ·rcases h2 y hy with h3|h3
     ·exact .inl (by simp [h3])
     ·exact .inr h3
  | false =>
   rw [cnt_lit hs] at h
   obtain ⟨e,h1,h2⟩:=fix_tails hc h
   refine ⟨e,?_,fun y hy=>?_⟩
   ·rw [fix_lit hs]
    unfold tails
    rw [h1,if_neg (by rw [hs];decide)]
    omega
   ·rw [fix_lit hs] at hy
    rcases List.mem_cons.1 hy with rfl|hy
    ·exact .inl (by simp)
    ·rcases h2 y hy with h3|h3
     ·exact .inl (by simp [h3])
     ·exact .inr h3
def SZ (B:Nat) (l f s:List ByteArray):Prop :=
 ((∀ x∈f,stB x=false→x.size+tails f+tails s≤B)∧(∀ x∈s,stB x=false→x.size+tails f+tails s≤B))∧((∀ x∈f,stB x=true→x.size≤B)∧∀ x∈s,stB x=true→x.size≤B)∧(tails l≤B∧∀ x∈l,x.size≤B+B)
theorem SZ.le {B:Nat} {l f s:List ByteArray} (h:SZ B l f s):(∀ x∈l,x.size≤B+B)∧(∀ x∈f,x.size≤B)∧∀ x∈s,x.size≤B:=by
 refine ⟨h.2.2.2,fun x hx=>?_,fun x hx=>?_⟩
 ·cases hs:stB x with
  | true=>exact h.2.1.1 x hx hs
  | false=>have:=h.1.1 x hx hs;omega
 ·cases hs:stB x with
  | true=>exact h.2.1.2 x hx hs
  | false=>have:=h.1.2 x hx hs;omega
theorem SZ.fix {B k:Nat} {l f s:List ByteArray} {x y:ByteArray} (h:SZ B l f s) (hE:ES l f s) (hs:stp f s=some (k,x,y)) (hd:detO x y=true) :
 SZ B (fixB (detC x y) k l) (fixB (detC x y) k f) (fixB (detC x y) k s)∧(detC x y).size≤B:=by
 obtain ⟨hc,hk,hxy⟩:=hE.lt hs hd
 obtain ⟨_,_,mx,my,_⟩:=stp_le hs
 have hcs:(detC x y).size+tails f+tails s≤B:=by
  rcases hxy with ⟨h1,h2,h3⟩|⟨h1,h2,h3⟩
  ·have:=h.1.2 y my h2
   have e:y.size=(detC x y).size+(tlB x).size:=by rw [←app_size,h3]
   omega
  ·have:=h.1.1 x mx h1
   have e:x.size=(detC x y).size+(tlB y).size:=by rw [←app_size,h3]
   omega
 obtain ⟨el,l1,l2⟩:=fix_tails hc (k:=k) (xs:=l) (by rw [hE.2.1];exact hk)
 obtain ⟨ef,f1,f2⟩:=fix_tails hc (k:=k) (xs:=f) hk
 obtain ⟨es,s1,s2⟩:=fix_tails hc (k:=k) (xs:=s) (by rw [hE.2.2.1];exact hk)
 refine ⟨⟨⟨fun z hz hn=>?_,fun z hz hn=>?_⟩,⟨fun z hz hn=>?_,fun z hz hn=>?_⟩,?_,fun z hz=>?_⟩,by omega⟩
 ·rcases f2 z hz with h1|⟨_,h1⟩
  ·have:=h.1.1 z h1 hn;omega
  ·omega
 ·rcases s2 z hz with h1|⟨_,h1⟩
  ·have:=h.1.2 z h1 hn;omega
  ·omega
 ·rcases f2 z hz with h1|⟨h1,_⟩
  ·exact h.2.1.1 z h1 hn
  ·rw [hn] at h1;cases h1
 ·rcases s2 z hz with h1|⟨h1,_⟩
  ·exact h.2.1.2 z h1 hn
  ·rw [hn] at h1;cases h1
 ·have:=h.2.2.1;omega
 ·rcases l2 z hz with h1|⟨_,h1⟩
  ·exact h.2.2.2 z h1
  ·have:=h.2.2.1;omega
end Go.Proofs.YtelkmeiepliecaaGreatDoor
