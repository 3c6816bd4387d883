/-
  Part 8 of the proof.
-/
import Derived.Test.YtelkmeiepliecaaGreatDoorV07
set_option linter.unusedSimpArgs false
set_option linter.unusedVariables false
set_option maxHeartbeats 16000000
namespace Go.Proofs.YtelkmeiepliecaaGreatDoor
open Go.RowKit
open Pm
theorem bindInfo:(Tryz.prog.info? 202).map (fun i=>(i.zero,i.size,i.bytes))=some (some (.agg #[.slice none 0 0,.bool false]),2,32):=by kernel_rfl
def bvCells (p:Option Addr×Nat×Nat×Bool):List Value:=[.slice p.1 p.2.1 p.2.2.1,.bool p.2.2.2]
def bvAll (bv:List (Option Addr×Nat×Nat×Bool)):List Value:=bv.flatMap bvCells
theorem bvAll_at:∀ (bv:List (Option Addr×Nat×Nat×Bool)) (j:Nat) (p:Option Addr×Nat×Nat×Bool),bv[j]? = some p→(bvAll bv)[j * 2]? = some (.slice p.1 p.2.1 p.2.2.1)∧(bvAll bv)[j * 2+1]? = some (.bool p.2.2.2)
 | [],j,p,h=>by cases h
 | q::bv,0,p,h=>by
  simp at h
  subst h
  simp [bvAll,bvCells]
 | q::bv,j+1,p,h=>by
  have e:bvAll (q::bv)=.slice q.1 q.2.1 q.2.2.1::.bool q.2.2.2::bvAll bv:=by simp [bvAll,bvCells]
  have ih:=bvAll_at bv j p (by simpa using h)
  rw [e,show (j+1) * 2=j * 2+2 by omega]
  exact ⟨by simpa using ih.1,by simpa using ih.2⟩
def OB (w:World) (base:Nat) (v:Value) (bv:List (Option Addr×Nat×Nat×Bool)):Prop:=w.ownsRow base 202 2 v bv.length (bvAll bv)
theorem OB.nil (w:World) (base:Nat):OB w base (.slice none 0 0) []:=⟨by simp [bvAll],.inl ⟨rfl,rfl⟩⟩
theorem OB.own {w:World} {base:Nat} {v:Value} {bv:List (Option Addr×Nat×Nat×Bool)} (h:OB w base v bv):∀ k,v.ownBlock=some k→base≤k∧k<w.heap.size:=h.lt
theorem OB.below {w w':World} {base:Nat} {v:Value} {bv:List (Option Addr×Nat×Nat×Bool)} (h:OB w base v bv) (hb:Below w.heap.size w w'):OB w' base v bv:=by
 refine ⟨h.1,?_⟩
 rcases h.2 with ⟨rfl,hn⟩|⟨g,cap,cur,rfl,hbg,hh,hrest⟩
 ·exact .inl ⟨rfl,hn⟩
 ·refine .inr ⟨g,cap,cur,rfl,hbg,?_,hrest⟩
  rw [hb.block g ?_]
  ·exact hh
  ·rcases Nat.lt_or_ge g w.heap.size with h1|h1
   ·exact h1
   ·rw [Array.getElem?_eq_none h1] at hh;cases hh
theorem OB.other {w:World} {base:Nat} {v:Value} {bv:List (Option Addr×Nat×Nat×Bool)} (h:OB w base v bv) {p:Addr} (hp:v.ownBlock≠some p.block) (u:Value):OB (w.setCell p u) base v bv:=by
 refine ⟨h.1,?_⟩
 rcases h.2 with ⟨rfl,hn⟩|⟨g,cap,cur,rfl,hbg,hh,hrest⟩
 ·exact .inl ⟨rfl,hn⟩
 ·refine .inr ⟨g,cap,cur,rfl,hbg,?_,hrest⟩
  rw [heap_setCell_other _ _ _ _ (by intro e;exact hp (by rw [←e];rfl))]
  exact hh
theorem OB.read {w:World} {base:Nat} {v:Value} {bv:List (Option Addr×Nat×Nat×Bool)} (h:OB w base v bv) :
 ∃ A c,v=.slice A bv.length c∧bv.length≤c∧c≤9223372036854775807∧(0<bv.length→∃ g,A=some ⟨g,0,none⟩∧base≤g∧g<w.heap.size∧∀ j p,bv[j]? = some p→w.cell? ⟨g,j * 2,none⟩=some (.slice p.1 p.2.1 p.2.2.1)∧w.cell? ⟨g,j * 2+1,none⟩=some (.bool p.2.2.2)):=by
 obtain ⟨hl,h⟩:=h
 rcases h with ⟨rfl,hn⟩|⟨g,cap,cur,rfl,hbg,hh,hnc,hcm,hcs,htk⟩
 ·exact ⟨none,0,by rw [hn],by omega,by omega,fun h0=>by omega⟩
 ·refine ⟨_,_,rfl,hnc,by simpa [maxLen] using hcm,fun h0=>⟨g,rfl,hbg,?_,fun j p hj=>?_⟩⟩
  ·rcases Nat.lt_or_ge g w.heap.size with h1|h1
   ·exact h1
   ·rw [Array.getElem?_eq_none h1] at hh;cases hh
  ·have hjl:=(sI.1 hj).1
   have e:=bvAll_at bv j p hj
   rw [←htk,List.getElem?_take,List.getElem?_take,if_pos (by omega),if_pos (by omega)] at e
   rw [cell_of_row w g _ cur _ (0,0) hh,cell_of_row w g _ cur _ (0,0) hh]
   exact ⟨by simpa using e.1,by simpa using e.2⟩
theorem run_append_bind (w:World) (base:Nat) (v:Value) (bv:List (Option Addr×Nat×Nat×Bool)) (b c:Nat) (p:Option Addr×Nat×Nat×Bool) (ty:TypeId) (hown:OB w base v bv)
 (h0:w.cell? ⟨b,0,none⟩=some (.slice p.1 p.2.1 p.2.2.1)) (h1:w.cell? ⟨b,1,none⟩=some (.bool p.2.2.2)) (hlen:bv.length+1≤1000000) (hbase:base≤w.heap.size) :
 ∃ v' w',(Builtin.append_ #[167,167] ty #[v,.slice (some ⟨b,0,none⟩) 1 c]).run Tryz.prog w=.ok v' w'∧OB w' base v' (bv++[p])∧w.grownBy w' v.ownBlock ∧
  (v'.ownBlock=v.ownBlock∨v'.ownBlock=some w.heap.size):=by
 obtain ⟨i,hi,hz,hs,hb⟩:=info_parts bindInfo
 obtain ⟨v',w',hrun,h3,h4,_,h5⟩:=run_append_own_at (P:=Tryz.prog) w base 167 ty 202 i (.agg #[.slice none 0 0,.bool false]) 2 32 Tryz.underlying167 hi hz hs hb rfl (by omega) v bv.length (bvAll bv) hown ⟨b,0,none⟩ 1 c (bvCells p)
  (by simp [bvCells]) (fun j u hu=>by
   rcases j with _|_|j
   ·simp [bvCells] at hu;subst hu;exact h0
   ·simp [bvCells] at hu;subst hu;exact h1
   ·simp [bvCells] at hu) (by intro u hu;simp [bvCells] at hu;rcases hu with rfl|rfl<;>rfl) (by simp only [maxLen];omega) (by omega) hbase
 refine ⟨v',w',hrun,?_,h4,h5⟩
 unfold OB
 rw [List.length_append,show bvAll (bv++[p])=bvAll bv++bvCells p by simp [bvAll]]
 exact h3
theorem wp_append_bind {w:World} {o:Oper} {a:Act} {K:Act→World→Prop} {Q:Exit→Act→World→Prop} (s x:Operand)
 (ho:o.op=.call { callee:=.builtin .append,args:=#[s,x],argTypes:=#[167,167] })
 (base:Nat) (v:Value) (bv:List (Option Addr×Nat×Nat×Bool)) (b c:Nat) (p:Option Addr×Nat×Nat×Bool) (hs:a.eval s=v) (hx:a.eval x=.slice (some ⟨b,0,none⟩) 1 c) (hown:OB w base v bv)
 (h0:w.cell? ⟨b,0,none⟩=some (.slice p.1 p.2.1 p.2.2.1)) (h1:w.cell? ⟨b,1,none⟩=some (.bool p.2.2.2)) (hlen:bv.length+1≤1000000) (hbase:base≤w.heap.size)
 (h:∀ v' w',OB w' base v' (bv++[p])→w.grownBy w' v.ownBlock→(v'.ownBlock=v.ownBlock∨v'.ownBlock=some w.heap.size)→K (a.put o.dst v') w'):o.wp Tryz.prog a w K Q:=by
 obtain ⟨v',w',hrun,h2,h3,h4⟩:=run_append_bind w base v bv b c p o.type hown h0 h1 hlen hbase
 unfold Oper.wp execOp
 simp only [ho,resolve,invoke,builtin,Sem.run_bind,Sem.run_pure,Result.andThen_ok,List.map_toArray,List.map_cons,List.map_nil,hs,hx,hrun]
 exact h v' w' h2 h3 h4
theorem wpList_append_bind {w:World} {ops:Array Oper} {rest:List Oper} {o:Oper} {a:Act} {Q:Exit→Act→World→Prop} (hgd:o.guard=none) (s x:Operand)
 (ho:o.op=.call { callee:=.builtin .append,args:=#[s,x],argTypes:=#[167,167] })
 (base:Nat) (v:Value) (bv:List (Option Addr×Nat×Nat×Bool)) (b c:Nat) (p:Option Addr×Nat×Nat×Bool) (hs:a.eval s=v) (hx:a.eval x=.slice (some ⟨b,0,none⟩) 1 c) (hown:OB w base v bv)
 (h0:w.cell? ⟨b,0,none⟩=some (.slice p.1 p.2.1 p.2.2.1)) (h1:w.cell? ⟨b,1,none⟩=some (.bool p.2.2.2)) (hlen:bv.length+1≤1000000) (hbase:base≤w.heap.size)
 (h:∀ v' w',OB w' base v' (bv++[p])→w.grownBy w' v.ownBlock→(v'.ownBlock=v.ownBlock∨v'.ownBlock=some w.heap.size)→wpList Tryz.prog ops Q rest (a.put o.dst v') w'):wpList Tryz.prog ops Q (o::rest) a w :=
 wpList_plain hgd fun _ hK=>wp_append_bind s x ho base v bv b c p hs hx hown h0 h1 hlen hbase fun v' w' h2 h3 h4=>hK _ _ (h v' w' h2 h3 h4)
theorem step_append_bind {w:World} {ops:Array Oper} {o:Oper} {a:Act} {K:Act→World→Prop} {Q:Exit→Act→World→Prop} {E:Prop} (hgd:o.guard=none) (s x:Operand)
 (ho:o.op=.call { callee:=.builtin .append,args:=#[s,x],argTypes:=#[167,167] })
 (base:Nat) (v:Value) (bv:List (Option Addr×Nat×Nat×Bool)) (b c:Nat) (p:Option Addr×Nat×Nat×Bool) (hs:a.eval s=v) (hx:a.eval x=.slice (some ⟨b,0,none⟩) 1 c) (hown:OB w base v bv)
 (h0:w.cell? ⟨b,0,none⟩=some (.slice p.1 p.2.1 p.2.2.1)) (h1:w.cell? ⟨b,1,none⟩=some (.bool p.2.2.2)) (hlen:bv.length+1≤1000000) (hbase:base≤w.heap.size)
 (h:∀ v' w',OB w' base v' (bv++[p])→w.grownBy w' v.ownBlock→(v'.ownBlock=v.ownBlock∨v'.ownBlock=some w.heap.size)→K (a.put o.dst v') w') :
 if Region.wanted o (yielded ops a.tmps)=true then Oper.wp Tryz.prog o a w K Q else E:=by
 have hw:Region.wanted o (yielded ops a.tmps)=true:=by simp [Region.wanted,hgd]
 rw [if_pos hw]
 exact wp_append_bind s x ho base v bv b c p hs hx hown h0 h1 hlen hbase h
def BT (w:World) (A:Option Addr) (c:Nat) (bs:List (List ByteArray×Bool)):Prop :=
 bs.length≤c∧c≤9223372036854775807∧(0<bs.length→∃ b o,A=some ⟨b,o,none⟩∧b<w.heap.size∧∀ j p,bs[j]? = some p→∃ C n,w.cell? ⟨b,o+j * 2,none⟩=some (.slice C p.1.length n)∧w.cell? ⟨b,o+j * 2+1,none⟩=some (.bool p.2)∧RT w C n p.1)
theorem BT.below {w w':World} {A:Option Addr} {c:Nat} {bs:List (List ByteArray×Bool)} (h:BT w A c bs) (hb:Below w.heap.size w w'):BT w' A c bs :=
 ⟨h.1,h.2.1,fun h0=>by
  obtain ⟨b,o,e,hlt,hc⟩:=h.2.2 h0
  refine ⟨b,o,e,Nat.lt_of_lt_of_le hlt hb.size,fun j p hj=>?_⟩
  obtain ⟨C,n,h1,h2,h3⟩:=hc j p hj
  exact ⟨C,n,(hb.cell (p:=⟨b,o+j * 2,none⟩) hlt).trans h1,(hb.cell (p:=⟨b,o+j * 2+1,none⟩) hlt).trans h2,h3.below hb⟩⟩
theorem kept_bt (A:Option Addr) (c:Nat) (bs:List (List ByteArray×Bool)):Kept (fun w=>BT w A c bs):=fun w w' h hb=>h.below hb
theorem BT.of {w:World} {base:Nat} {v:Value} {bv:List (Option Addr×Nat×Nat×Bool)} {bs:List (List ByteArray×Bool)} (h:OB w base v bv) (hl:bv.length=bs.length)
 (hr:∀ (j:Nat) (p:Option Addr×Nat×Nat×Bool) (q:List ByteArray×Bool),bv[j]? = some p→bs[j]? = some q→p.2.1=q.1.length∧p.2.2.2=q.2∧RT w p.1 p.2.2.1 q.1) :
 ∃ A c,v=.slice A bs.length c∧BT w A c bs:=by
 obtain ⟨A,c,e,h1,h2,h3⟩:=h.read
 refine ⟨A,c,by rw [e,hl],by omega,h2,fun h0=>?_⟩
 obtain ⟨g,e2,_,hlt,hc⟩:=h3 (by omega)
 refine ⟨g,0,e2,hlt,fun j q hj=>?_⟩
 have hjl:=(sI.1 hj).1
 obtain ⟨p,hp⟩:∃ p,bv[j]? = some p:=⟨_,gE (by omega)⟩
 obtain ⟨k1,k2,k3⟩:=hr j p q hp hj
 obtain ⟨c1,c2⟩:=hc j p hp
 refine ⟨p.1,p.2.2.1,?_,?_,k3⟩
 ·rw [Nat.zero_add,c1,k1]
 ·rw [Nat.zero_add,c2,k2]
open Go.RowKit
theorem cells_new (w:World) (cs:List Value) (T:TypeId) {g:Nat} (hg:g=w.heap.size):∀ (k:Nat) (u:Value),cs[k]? = some u→(w.alloc (.cells cs.toArray T)).cell? ⟨g,k,none⟩=some u:=by
 subst hg
 intro k u hu
 rw [World.cell?_alloc_new]
 simpa using hu
def BX (w:World) (g:Nat) (cs:List Value):Prop:=(∀ (j:Nat) u,cs[j]? = some u→w.cell? ⟨g,j,none⟩=some u)∧(∀ i,w.frozen? ⟨g,i,none⟩=false)∧g<w.heap.size
theorem BX.new (w:World) (cs:List Value) (T:TypeId) {g:Nat} (hg:g=w.heap.size):BX (w.alloc (.cells cs.toArray T)) g cs:=by
 subst hg
 refine ⟨cells_new w cs T rfl,fun i=>?_,by simp⟩
 rw [frozen?_alloc_cells]
 simp [World.frozen?]
theorem cell_gb {w w':World} {g:Nat} {k:Option Nat} (hg:w.grownBy w' k) (hlt:g<w.heap.size) (hne:k≠some g) (i:Nat):w'.cell? ⟨g,i,none⟩=w.cell? ⟨g,i,none⟩:=World.cell?_of_block (hg.block g hlt (fun e=>hne e.symm))
theorem frozen_gb {w w':World} {g:Nat} {k:Option Nat} (hg:w.grownBy w' k) (hlt:g<w.heap.size) (hne:k≠some g) (i:Nat):w'.frozen? ⟨g,i,none⟩=w.frozen? ⟨g,i,none⟩:=World.frozen?_of_block (hg.block g hlt (fun e=>hne e.symm))
theorem BX.below {w w':World} {g:Nat} {cs:List Value} (h:BX w g cs) (hb:Below w.heap.size w w'):BX w' g cs :=
 ⟨fun j u hu=>(hb.cell (p:=⟨g,j,none⟩) h.2.2).trans (h.1 j u hu),fun i=>(hb.frozen (p:=⟨g,i,none⟩) h.2.2).trans (h.2.1 i),Nat.lt_of_lt_of_le h.2.2 hb.size⟩
theorem BX.set {w:World} {g:Nat} {cs:List Value} (h:BX w g cs) {j:Nat} (hj:j<cs.length) (y:Value):BX (w.setCell ⟨g,j,none⟩ y) g (cs.set j y):=by
 refine ⟨fun i u hu=>?_,fun i=>?_,by simpa [World.setCell] using h.2.2⟩
 ·by_cases e:i=j
  ·subst e
   rw [List.getElem?_set_self hj] at hu
   cases hu
   exact World.cell?_setCell_same _ _ _ (h.1 i _ (gE hj))
  ·rw [List.getElem?_set_ne (fun h=>e h.symm)] at hu
   rw [World.cell?_setCell_other _ _ _ _ (by intro e2;cases e2;exact e rfl)]
   exact h.1 i u hu
 ·rw [World.frozen?_setCell];exact h.2.1 i
theorem BX.other {w:World} {g:Nat} {cs:List Value} (h:BX w g cs) {p:Addr} (hp:p.block≠g) (y:Value):BX (w.setCell p y) g cs:=by
 refine ⟨fun i u hu=>?_,fun i=>?_,by simpa [World.setCell] using h.2.2⟩
 ·rw [World.cell?_setCell_other _ _ _ _ (by intro e;exact hp (by rw [e]))]
  exact h.1 i u hu
 ·rw [World.frozen?_setCell];exact h.2.1 i
theorem BX.grown {w w':World} {g:Nat} {cs:List Value} {k:Option Nat} (h:BX w g cs) (hg:w.grownBy w' k) (hk:k≠some g):BX w' g cs :=
 ⟨fun j u hu=>(cell_gb hg h.2.2 hk j).trans (h.1 j u hu),fun i=>(frozen_gb hg h.2.2 hk i).trans (h.2.1 i),Nat.lt_of_lt_of_le h.2.2 hg.size⟩
theorem gb_set {a w:World} {k:Option Nat} (h:a.grownBy w k) {p:Addr} (hp:k=some p.block∨a.heap.size≤p.block) (u:Value):a.grownBy (w.setCell p u) k :=
 ⟨h.os,h.tape,h.output,by simpa [World.setCell] using h.size,fun i hi hne=>(Below.heap_setCell w p u i (by
  rintro rfl
  rcases hp with hp|hp
  ·exact hne hp.symm
  ·omega)).trans (h.block i hi hne)⟩
theorem gb_below {a w w':World} {k:Option Nat} (h:a.grownBy w k) (hb:Below w.heap.size w w'):a.grownBy w' k :=
 ⟨hb.os.trans h.os,hb.tape.trans h.tape,hb.output.trans h.output,Nat.le_trans h.size hb.size,fun i hi hne=>(hb.block i (Nat.lt_of_lt_of_le hi h.size)).trans (h.block i hi hne)⟩
def BB (w:World) (l:List (Nat×List Value)) (w':World):Prop:=(∀ p∈l,BX w' p.1 p.2)∧Below w.heap.size w w'
theorem BB.kept (w:World) (l:List (Nat×List Value)):Kept (BB w l):=fun X Y h hb=>⟨fun p hp=>(h.1 p hp).below hb,go3 h.2 hb⟩
theorem BB.get {w w':World} {l:List (Nat×List Value)} (h:BB w l w') (i:Nat) {g:Nat} {cs:List Value} (hi:l[i]? = some (g,cs)):BX w' g cs:=h.1 (g,cs) (mG hi)
theorem BB.low {w w':World} {l:List (Nat×List Value)} (h:BB w l w'):Below w.heap.size w w':=h.2
theorem BB.nil (w:World):BB w [] w:=⟨(fun p hp=>by cases hp),Below.refl _ _⟩
theorem BB.push {w w':World} {l:List (Nat×List Value)} (h:BB w l w') (cs:List Value) (T:TypeId) {g:Nat} (hg:g=w'.heap.size):BB w (l++[(g,cs)]) (w'.alloc (.cells cs.toArray T)) :=
 ⟨fun p hp=>by
  rcases List.mem_append.1 hp with hp|hp
  ·exact (h.1 p hp).below (ba _ _)
  ·rw [List.mem_singleton.1 hp];exact BX.new w' cs T hg,below_al h.2 _⟩
theorem BB.at_ {w w':World} {l:List (Nat×List Value)} (h:BB w l w'):At (BB w l) w':=⟨BB.kept w l,h⟩
theorem BX.c2 {w:World} {g:Nat} {a b:Value} (h:BX w g [a,b]):w.cell? ⟨g,0,none⟩=some a∧w.cell? ⟨g,1,none⟩=some b:=⟨h.1 0 _ rfl,h.1 1 _ rfl⟩
theorem BX.c5 {w:World} {g:Nat} {a b c d e:Value} (h:BX w g [a,b,c,d,e]):w.cell? ⟨g,0,none⟩=some a∧w.cell? ⟨g,1,none⟩=some b∧w.cell? ⟨g,2,none⟩=some c∧w.cell? ⟨g,3,none⟩=some d∧w.cell? ⟨g,4,none⟩=some e:=⟨h.1 0 _ rfl,h.1 1 _ rfl,h.1 2 _ rfl,h.1 3 _ rfl,h.1 4 _ rfl⟩
theorem BX.c3 {w:World} {g:Nat} {a b c:Value} (h:BX w g [a,b,c]):w.cell? ⟨g,0,none⟩=some a∧w.cell? ⟨g,1,none⟩=some b∧w.cell? ⟨g,2,none⟩=some c:=⟨h.1 0 _ rfl,h.1 1 _ rfl,h.1 2 _ rfl⟩
theorem BX.c1 {w:World} {g:Nat} {a:Value} (h:BX w g [a]):w.cell? ⟨g,0,none⟩=some a:=h.1 0 _ rfl
end Go.Proofs.YtelkmeiepliecaaGreatDoor
