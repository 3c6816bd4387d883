/-
  Part 20 of the proof.
-/
import Derived.Test.YtelkmeiepliecaaGreatDoorU19
import Derived.Sort.Row
set_option linter.unusedSimpArgs false
set_option linter.unusedVariables false
set_option maxHeartbeats 16000000
namespace Go.Proofs.YtelkmeiepliecaaGreatDoor
open Go.RowKit
theorem step_append_so1 {α:Type} {P:Program} {S E:TypeId} (e:El α) (t:ElT P S E e.size) {w:World} {ops:Array Oper} {o:Oper} {a:Act} {K:Act→World→Prop} {Q:Exit→Act→World→Prop} {G:Prop} (hgd:o.guard=none) (s x:Operand)
 (ho:o.op=.call { callee:=.builtin .append,args:=#[s,x],argTypes:=#[S,S] })
 (base:Nat) (v:Value) (K':Nat→Prop) (xs:List α) (y:α) (r:List Value) (b c:Nat) (hs':a.eval s=v) (hx:a.eval x=.slice (some ⟨b,0,none⟩) 1 c) (h:SO e w base E v K' xs)
 (hr:e.R w (avO v K') y r) (hcells:∀ (i:Nat) (u:Value),r[i]? = some u→w.cell? ⟨b,i,none⟩=some u) (hb:b<w.heap.size) (hc1:1≤c) (hc2:c≤9223372036854775807) (hlen:xs.length+1≤1000000) (hbase:base≤w.heap.size)
 (hK:∀ v' w',SO e w' base E v' K' (xs++[y])→w.grownBy w' v.ownBlock→(v'.ownBlock=v.ownBlock∨v'.ownBlock=some w.heap.size)→K (a.put o.dst v') w') :
 if Region.wanted o (yielded ops a.tmps)=true then Oper.wp P o a w K Q else G:=by
 have hw:Region.wanted o (yielded ops a.tmps)=true:=by simp [Region.wanted,hgd]
 rw [if_pos hw]
 exact wp_append_so1 e t s x ho base v K' xs y r b c hs' hx h hr hcells hb hc1 hc2 hlen hbase hK
theorem NSB.set {w:World} {g:Nat} (h:NSB w g) (j:Nat) {u:Value} (hu:nsV u):NSB (w.setCell ⟨g,j,none⟩ u) g:=fun i x hc=>by
 by_cases e:i=j
 ·subst e
  cases hq:w.cell? ⟨g,i,none⟩ with
  | some v =>
   rw [World.cell?_setCell_same _ _ _ hq] at hc
   exact hu x (Option.some.inj hc)
  | none =>
   have:(w.setCell ⟨g,i,none⟩ u).cell? ⟨g,i,none⟩=none:=by
    rw [Go.Sort.setCell_eq]
    unfold Go.Sort.mapBlock World.cell? at *
    simp only at *
    rw [Array.getElem?_modify,if_pos rfl]
    revert hq
    cases hw:w.heap[g]? with
    | none=>intro _;rfl
    | some o =>
     cases o with
     | cells cur t fr =>
      intro hq
      simp only [Option.map_some,Go.Sort.onCells] at hq ⊢
      simp at hq ⊢
      exact hq
     | _=>intro hq;simp only [Option.map_some,Go.Sort.onCells]
   rw [this] at hc
   cases hc
 ·rw [World.cell?_setCell_other _ _ _ _ (by intro e2;cases e2;exact e rfl)] at hc
  exact h i x hc
theorem NSB.new (w:World) {cs:List Value} (T:TypeId) (hn:∀ u∈cs,nsV u) {g:Nat} (hg:g=w.heap.size):NSB (w.alloc (.cells cs.toArray T)) g:=by
 subst hg
 exact NSB.of (heap_alloc_new w _) (by simpa using hn)
theorem NSB.grown {w w':World} {g:Nat} {k:Option Nat} (h:NSB w g) (hl:g<w.heap.size) (hg:w.grownBy w' k) (hk:k≠some g):NSB w' g:=h.same (hg.block g hl (fun e=>hk e.symm))
theorem ns_slice {A:Option Addr} {n c:Nat}:nsV (.slice A n c):=fun x e=>by cases e
theorem ns_bool {b:Bool}:nsV (.bool b):=fun x e=>by cases e
theorem ns_int {n:Int}:nsV (.int .i64 n):=fun x e=>by cases e
theorem BX.drew {w:World} {g:Nat} {cs:List Value} (h:BX w g cs):BX w.drew g cs:=h.below (Below.refl _ _).drew
def BN (w:World) (l:List (Nat×List Value)) (w':World):Prop:=(∀ p∈l,BX w' p.1 p.2∧NSB w' p.1)∧Below w.heap.size w w'
theorem BN.kept (w:World) (l:List (Nat×List Value)):Kept (BN w l):=fun X Y h hb=>⟨fun p hp=>⟨(h.1 p hp).1.below hb,(h.1 p hp).2.below (h.1 p hp).1.2.2 hb⟩,go3 h.2 hb⟩
theorem BN.get {w w':World} {l:List (Nat×List Value)} (h:BN w l w') (i:Nat) {g:Nat} {cs:List Value} (hi:l[i]? = some (g,cs)):BX w' g cs:=(h.1 (g,cs) (mG hi)).1
theorem BN.ns {w w':World} {l:List (Nat×List Value)} (h:BN w l w') (i:Nat) {g:Nat} {cs:List Value} (hi:l[i]? = some (g,cs)):NSB w' g:=(h.1 (g,cs) (mG hi)).2
theorem BN.low {w w':World} {l:List (Nat×List Value)} (h:BN w l w'):Below w.heap.size w w':=h.2
theorem BN.nil (w:World):BN w [] w:=⟨(fun p hp=>by cases hp),Below.refl _ _⟩
theorem BN.at_ {w w':World} {l:List (Nat×List Value)} (h:BN w l w'):At (BN w l) w':=⟨BN.kept w l,h⟩
theorem BN.push {w w':World} {l:List (Nat×List Value)} (h:BN w l w') (cs:List Value) (T:TypeId) {g:Nat} (hg:g=w'.heap.size) (hn:∀ u∈cs,nsV u):BN w (l++[(g,cs)]) (w'.alloc (.cells cs.toArray T)) :=
 ⟨fun p hp=>by
  rcases List.mem_append.1 hp with hp|hp
  ·exact ⟨(h.1 p hp).1.below (ba _ _),(h.1 p hp).2.below (h.1 p hp).1.2.2 (ba _ _)⟩
  ·rw [List.mem_singleton.1 hp];exact ⟨BX.new w' cs T hg,NSB.new w' T hn hg⟩,below_al h.2 _⟩
theorem BN.grown {w w' w'':World} {l:List (Nat×List Value)} {k:Option Nat} (h:BN w l w') (hg:w'.grownBy w'' k) (hk:∀ j,k=some j→(∀ p∈l,p.1≠j)∧w.heap.size≤j):BN w l w'' :=
 ⟨fun p hp=>⟨(h.1 p hp).1.grown hg (fun e=>(hk p.1 e).1 p hp rfl),(h.1 p hp).2.grown (h.1 p hp).1.2.2 hg (fun e=>(hk p.1 e).1 p hp rfl)⟩,h.2.grown hg h.2.size (fun j hj=>(hk j hj).2)⟩
def BNX (w:World) (g:Nat) (cs:List Value):Prop:=BX w g cs∧NSB w g
theorem BNX.new (w:World) (cs:List Value) (T:TypeId) {g:Nat} (hg:g=w.heap.size) (hn:∀ u∈cs,nsV u):BNX (w.alloc (.cells cs.toArray T)) g cs:=⟨BX.new w cs T hg,NSB.new w T hn hg⟩
theorem BNX.below {w w':World} {g:Nat} {cs:List Value} (h:BNX w g cs) (hb:Below w.heap.size w w'):BNX w' g cs:=⟨h.1.below hb,h.2.below h.1.2.2 hb⟩
theorem BNX.drew {w:World} {g:Nat} {cs:List Value} (h:BNX w g cs):BNX w.drew g cs:=h.below (Below.refl _ _).drew
theorem BNX.grown {w w':World} {g:Nat} {cs:List Value} {k:Option Nat} (h:BNX w g cs) (hg:w.grownBy w' k) (hk:k≠some g):BNX w' g cs:=⟨h.1.grown hg hk,h.2.grown h.1.2.2 hg hk⟩
theorem gb_set3 {w:World} {g:Nat} (a b c:Value):w.grownBy (((w.setCell ⟨g,0,none⟩ a).setCell ⟨g,1,none⟩ b).setCell ⟨g,2,none⟩ c) (some g) :=
 gb_set (p:=⟨g,2,none⟩) (gb_set (p:=⟨g,1,none⟩) (gb_set (p:=⟨g,0,none⟩) (World.grownBy.refl w (some g)) (.inl rfl) a) (.inl rfl) b) (.inl rfl) c
theorem bb3 {a j:Nat} {x y z:List Value} (h:a+1+1<j):(∀ p∈[(a,x),(a+1,y),(a+1+1,z)],p.1≠j)∧a≤j:=⟨fun p hp=>by
 simp only [List.mem_cons,List.not_mem_nil,or_false] at hp
 rcases hp with rfl|rfl|rfl
 ·show a≠j;omega
 ·show a+1≠j;omega
 ·show a+1+1≠j;omega,by omega⟩
theorem BX.set2 {w:World} {g:Nat} {x y:Value} (h:BX w g [x,y]) (a b:Value):BX ((w.setCell ⟨g,0,none⟩ a).setCell ⟨g,1,none⟩ b) g [a,b] :=
 BX.set (cs:=[a,y]) (BX.set (cs:=[x,y]) h (j:=0) (by simp) a) (j:=1) (by simp) b
theorem BX.set3 {w:World} {g:Nat} {x y z:Value} (h:BX w g [x,y,z]) (a b c:Value):BX (((w.setCell ⟨g,0,none⟩ a).setCell ⟨g,1,none⟩ b).setCell ⟨g,2,none⟩ c) g [a,b,c] :=
 BX.set (cs:=[a,b,z]) (BX.set (cs:=[a,y,z]) (BX.set (cs:=[x,y,z]) h (j:=0) (by simp) a) (j:=1) (by simp) b) (j:=2) (by simp) c
theorem BX.set5 {w:World} {g:Nat} {x y z u v:Value} (h:BX w g [x,y,z,u,v]) (a b c d e:Value):BX (((((w.setCell ⟨g,0,none⟩ a).setCell ⟨g,1,none⟩ b).setCell ⟨g,2,none⟩ c).setCell ⟨g,3,none⟩ d).setCell ⟨g,4,none⟩ e) g [a,b,c,d,e] :=
 BX.set (cs:=[a,b,c,d,v]) (BX.set (cs:=[a,b,c,u,v]) (BX.set (cs:=[a,b,z,u,v]) (BX.set (cs:=[a,y,z,u,v]) (BX.set (cs:=[x,y,z,u,v]) h (j:=0) (by simp) a) (j:=1) (by simp) b) (j:=2) (by simp) c) (j:=3) (by simp) d) (j:=4) (by simp) e
theorem ch_set2 {w:World} {g:Nat} {K:Nat→Prop} (hk:K g) (hn:NSB w g) {a:Value} (ha:nsV a) (b:Value):Ch K w ((w.setCell ⟨g,0,none⟩ a).setCell ⟨g,1,none⟩ b) :=
 (Ch.set (p:=⟨g,0,none⟩) hk hn a).trans (Ch.set (p:=⟨g,1,none⟩) hk (hn.set 0 ha) b)
theorem ch_set3 {w:World} {g:Nat} {K:Nat→Prop} (hk:K g) (hn:NSB w g) {a b:Value} (ha:nsV a) (hb:nsV b) (c:Value):Ch K w (((w.setCell ⟨g,0,none⟩ a).setCell ⟨g,1,none⟩ b).setCell ⟨g,2,none⟩ c) :=
 (ch_set2 hk hn ha b).trans (Ch.set (p:=⟨g,2,none⟩) hk ((hn.set 0 ha).set 1 hb) c)
theorem RT.set3 {w:World} {A:Option Addr} {c g:Nat} {xs:List ByteArray} (h:RT w A c xs) (hn:NSB w g) {x y:Value} (hx:nsV x) (hy:nsV y) (z:Value):RT (((w.setCell ⟨g,0,none⟩ x).setCell ⟨g,1,none⟩ y).setCell ⟨g,2,none⟩ z) A c xs:=h.ch (ch_set3 (K:=fun _=>True) trivial hn hx hy z)
theorem BT.set3 {w:World} {A:Option Addr} {c g:Nat} {ps:List Pn} (h:BT w A c ps) (ha:∀ a,A=some a→a.block≠g) (hn:NSB w g) {x y:Value} (hx:nsV x) (hy:nsV y) (z:Value):BT (((w.setCell ⟨g,0,none⟩ x).setCell ⟨g,1,none⟩ y).setCell ⟨g,2,none⟩ z) A c ps:=h.ch (K:=fun j=>j=g) (fun _ a e=>ha a e) (ch_set3 (K:=fun j=>j=g) rfl hn hx hy z)
theorem ch_set5 {w:World} {g:Nat} {K:Nat→Prop} (hk:K g) (hn:NSB w g) {a b c d:Value} (ha:nsV a) (hb:nsV b) (hc:nsV c) (hd:nsV d) (e:Value) :
 Ch K w (((((w.setCell ⟨g,0,none⟩ a).setCell ⟨g,1,none⟩ b).setCell ⟨g,2,none⟩ c).setCell ⟨g,3,none⟩ d).setCell ⟨g,4,none⟩ e) :=
 ((ch_set3 hk hn ha hb c).trans (Ch.set (p:=⟨g,3,none⟩) hk (((hn.set 0 ha).set 1 hb).set 2 hc) d)).trans (Ch.set (p:=⟨g,4,none⟩) hk ((((hn.set 0 ha).set 1 hb).set 2 hc).set 3 hd) e)
theorem set3_other {w:World} {g h i:Nat} (a b c:Value) (hne:h≠g):(((w.setCell ⟨g,0,none⟩ a).setCell ⟨g,1,none⟩ b).setCell ⟨g,2,none⟩ c).cell? ⟨h,i,none⟩=w.cell? ⟨h,i,none⟩:=by
 rw [World.cell?_setCell_other _ _ _ _ (by intro e;cases e;exact hne rfl),World.cell?_setCell_other _ _ _ _ (by intro e;cases e;exact hne rfl),World.cell?_setCell_other _ _ _ _ (by intro e;cases e;exact hne rfl)]
theorem set5_other {w:World} {g h i:Nat} (a b c d e:Value) (hne:h≠g):(((((w.setCell ⟨g,0,none⟩ a).setCell ⟨g,1,none⟩ b).setCell ⟨g,2,none⟩ c).setCell ⟨g,3,none⟩ d).setCell ⟨g,4,none⟩ e).cell? ⟨h,i,none⟩=w.cell? ⟨h,i,none⟩:=by
 rw [World.cell?_setCell_other _ _ _ _ (by intro e;cases e;exact hne rfl),World.cell?_setCell_other _ _ _ _ (by intro e;cases e;exact hne rfl),set3_other a b c hne]
theorem gb_set5 {w:World} {g:Nat} (a b c d e:Value):w.grownBy (((((w.setCell ⟨g,0,none⟩ a).setCell ⟨g,1,none⟩ b).setCell ⟨g,2,none⟩ c).setCell ⟨g,3,none⟩ d).setCell ⟨g,4,none⟩ e) (some g) :=
 gb_set (p:=⟨g,4,none⟩) (gb_set (p:=⟨g,3,none⟩) (gb_set3 a b c) (.inl rfl) d) (.inl rfl) e
theorem bb2' {a j:Nat} {x y:List Value} (h:a+1<j):(∀ p∈[(a,x),(a+1,y)],p.1≠j)∧a≤j:=⟨fun p hp=>by
 simp only [List.mem_cons,List.not_mem_nil,or_false] at hp
 rcases hp with rfl|rfl
 ·show a≠j;omega
 ·show a+1≠j;omega,by omega⟩
theorem SO.chP {w w':World} {base:Nat} {T:TypeId} {v:Value} {K K2:Nat→Prop} {ps:List Pn} (h:SO elP w base T v K ps) (hc:Ch K2 w w') (hK:∀ b,v.ownBlock=some b→¬ K2 b):SO elP w' base T v K ps:=by
 obtain ⟨rows,h1,h2,h3⟩:=h
 exact SO.ch (K:=K2) (show SO elP w base T v K2 ps from ⟨rows,h1,h2.map fun _ _ h=>h,h3⟩) hc hK |> fun ⟨rows,h1,h2,h3⟩=>⟨rows,h1,h2.map fun _ _ h=>h,h3⟩
theorem SO.mono {α:Type} {e:El α} {w:World} {base:Nat} {T:TypeId} {v:Value} {K K':Nat→Prop} {xs:List α} (h:SO e w base T v K xs) (hk:∀ b,K' b→K b):SO e w base T v K' xs:=by
 obtain ⟨rows,h1,h2,h3⟩:=h
 exact ⟨rows,h1,h2.map fun _ _ h=>e.mono h fun b hb=>hb.elim .inl fun hb=>.inr (hk b hb),h3⟩
theorem SO.fresh {α:Type} {e:El α} {w:World} {base:Nat} {T:TypeId} {v:Value} {K:Nat→Prop} {xs:List α} (h:SO e w base T v K xs):SO e w base T v (fun b=>K b∨w.heap.size≤b) xs:=by
 obtain ⟨rows,h1,h2,h3⟩:=h
 exact ⟨rows,h1,h2.map fun _ _ h=>e.mono (e.fresh h) fun b hb=>hb.elim (fun h=>.inl (.inl h)) fun hb=>hb.elim (fun h=>.inl (.inr h)) .inr,h3⟩
theorem below_set3 {B g:Nat} {w w':World} (h:Below B w w') (hg:B≤g) (a b c:Value):Below B w (((w'.setCell ⟨g,0,none⟩ a).setCell ⟨g,1,none⟩ b).setCell ⟨g,2,none⟩ c) :=
 ((h.setCell (p:=⟨g,0,none⟩) hg a).setCell (p:=⟨g,1,none⟩) hg b).setCell (p:=⟨g,2,none⟩) hg c
theorem ns3 {a b c:Value} (ha:nsV a) (hb:nsV b) (hc:nsV c):∀ u∈[a,b,c],nsV u:=fun u hu=>by
 simp only [List.mem_cons,List.not_mem_nil,or_false] at hu
 rcases hu with rfl|rfl|rfl
 ·exact ha
 ·exact hb
 ·exact hc
theorem ns2 {a b:Value} (ha:nsV a) (hb:nsV b):∀ u∈[a,b],nsV u:=fun u hu=>by
 simp only [List.mem_cons,List.not_mem_nil,or_false] at hu
 rcases hu with rfl|rfl
 ·exact ha
 ·exact hb
theorem ns1 {a:Value} (ha:nsV a):∀ u∈[a],nsV u:=fun u hu=>by rw [List.mem_singleton.1 hu];exact ha
theorem ns5 {a b c d e:Value} (ha:nsV a) (hb:nsV b) (hc:nsV c) (hd:nsV d) (he:nsV e):∀ u∈[a,b,c,d,e],nsV u:=fun u hu=>by
 simp only [List.mem_cons,List.not_mem_nil,or_false] at hu
 rcases hu with rfl|rfl|rfl|rfl|rfl
 ·exact ha
 ·exact hb
 ·exact hc
 ·exact hd
 ·exact he
open Pm
abbrev Ln:=Int×Pn×Pn
abbrev St:=ByteArray×ByteArray×List Ln
def viewN:ByteArray:=⟨#[118,105,101,119]⟩
def rootV:ByteArray:=⟨#[47,47,118,105,101,119]⟩
def rootB:ByteArray:=⟨#[47,47]⟩
def idxS (l:List St) (s:ByteArray):Option Nat:=l.findIdx? fun t=>decide (t.1=s)
def parS (l:List St) (i:Nat):Option Nat:=match l[i]? with
 | some s=>if s.2.1.size=0 then none else idxS l s.2.1
 | none=>none
def abvF (l:List St):Nat→Nat→List Nat
 | 0,_=>[]
 | n+1,i=>match parS l i with
  | some p=>p::abvF l n p
  | none=>[]
def abvS (l:List St) (i:Nat):List Nat:=abvF l l.length i
def topS (l:List St) (i:Nat):Nat:=(abvS l i).getLastD i
theorem idxS_lt {l:List St} {s:ByteArray} {j:Nat} (h:idxS l s=some j):j<l.length:=by
 obtain ⟨hj,_⟩:=List.findIdx?_eq_some_iff_getElem.1 h
 exact hj
theorem idxS_name {l:List St} {s:ByteArray} {j:Nat} (h:idxS l s=some j):∃ t,l[j]? = some t∧t.1=s:=by
 obtain ⟨hj,h1,_⟩:=List.findIdx?_eq_some_iff_getElem.1 h
 exact ⟨_,gE hj,of_decide_eq_true h1⟩
theorem parS_lt {l:List St} {i j:Nat} (h:parS l i=some j):j<l.length:=by
 unfold parS at h
 split at h
 ·split at h
  ·cases h
  ·exact idxS_lt h
 ·cases h
theorem abvF_lt {l:List St}:∀ (n i:Nat),∀ p∈abvF l n i,p<l.length
 | 0,_,p,h=>by cases h
 | n+1,i,p,h=>by
  unfold abvF at h
  split at h
  ·rename_i q hq
   rcases List.mem_cons.1 h with rfl|h
   ·exact parS_lt hq
   ·exact abvF_lt n q p h
  ·cases h
theorem abvF_len {l:List St}:∀ (n i:Nat),(abvF l n i).length≤n
 | 0,_=>Nat.le_refl _
 | n+1,i=>by
  unfold abvF
  split
  ·rw [List.length_cons]
   exact Nat.succ_le_succ (abvF_len n _)
  ·exact Nat.zero_le _
def lineOk (p:Ln):Bool:=decide (checkP p.2.1.1 p.2.1.2=0)&&decide (p.2.1.1.getD 0 ⟨#[]⟩=viewN) &&
 (if p.1=1∨p.1=2∨p.1=4 then decide (p.2.2.1.length=0)&&!p.2.2.2
  else if p.1=3 then decide (ruleE p.2.1.1 p.2.1.2 p.2.2.1 p.2.2.2=0)&&!decide (p.2.2.1.getD 0 ⟨#[]⟩=viewN) else false)
def nameOk (s:ByteArray):Bool:=comp s.data.toList&&decide (s.size≤24)&&!decide (s=viewN)
def itsE (l:List St) (i:Nat):Int:=match l[i]? with
 | none=>0
 | some s=>if nameOk s.1=false then 81 else if (idxS l s.1).getD 0<i then 82 else if s.2.2.any (fun p=>!lineOk p)=true then 85 else if 12<s.2.2.length then 80 else 0
def misE (l:List St) (i:Nat):Int:=match l[i]? with
 | none=>0
 | some s=>if s.2.1.size≠0∧idxS l s.2.1=none then 83 else 0
def cycE (l:List St) (i:Nat):Int:=if (abvS l i).any (·==i)=true then 84 else 0
def depE (l:List St) (i:Nat):Int:=if 6<1+(abvS l i).length then 80 else 0
def impsL (ps:List Ln):List Pn:=(ps.filter fun p=>p.1==3).map fun p=>p.2.2
def impsI (l:List St) (i:Nat):List Pn:=match l[i]? with
 | some s=>impsL s.2.2
 | none=>[]
def ownT (l:List St) (i:Nat) (q:Pn):Bool:=match idxS l (q.1.getD 0 ⟨#[]⟩) with
 | some j=>topS l j==topS l i
 | none=>false
def badL (l:List St) (i:Nat):List Pn→List Ln→Bool
 | _,[]=>false
 | os,p::ps=>if p.1≠3 then badL l i os ps else ownT l i p.2.2 || os.any (metO p.2.2) || badL l i (os++[p.2.2]) ps
def badE2 (l:List St) (i:Nat):Int:=match l[i]? with
 | none=>0
 | some s=>if badL l i ((abvS l i).flatMap (impsI l)) s.2.2=true then 85 else 0
def stepE (l:List St) (k i:Nat):Int:=match k with
 | 0=>itsE l i
 | 1=>misE l i
 | 2=>cycE l i
 | 3=>depE l i
 | _=>badE2 l i
def rowE (l:List St) (k:Nat):Int:=(((List.range l.length).map (stepE l k)).find? (· != 0)).getD 0
def chkS (l:List St):Int:=if 16<l.length then 80 else (((List.range 5).map (rowE l)).find? (· != 0)).getD 0
def findE (l:List St) (name:ByteArray):Int:=if chkS l=0 then (match idxS l name with|some _=>0|none=>86) else chkS l
def decS (ps:List Ln) (c:ByteArray):Option Ln:=ps.reverse.find? fun p=>mt p.2.1 c
def ownK (k a:Int):Int:=if k=1∧a=1 then 1 else 2
def seeL (name:ByteArray) (c:ByteArray) (ab:Int×ByteArray) (o:Option Ln):Int×ByteArray:=match o with
 | none=>(0,⟨#[]⟩)
 | some p=>if ab.1=0∨p.1=4 then (0,⟨#[]⟩) else if ab.1=3 then (3,ab.2) else if p.1=3 then (3,fwdT p.2.1.1 p.2.1.2 p.2.2.1 p.2.2.2 c) else (ownK p.1 ab.1,rootB++name++c.extract 6 c.size)
def seeF (l:List St) (c:ByteArray):Nat→Nat→Int×ByteArray
 | 0,_=>(0,⟨#[]⟩)
 | n+1,i=>match l[i]? with
  | none=>(0,⟨#[]⟩)
  | some s=>seeL s.1 c (match parS l i with|some p=>seeF l c n p|none=>(1,⟨#[]⟩)) (decS s.2.2 c)
open Pm
def freshK {α:Type} (key:α→ByteArray) (l:List α) (i:Nat):Bool:=i==0 || decide ((l[i]?).map key≠(l[i-1]?).map key)
def ddI {α:Type} (key:α→ByteArray) (l:List α) (q:Nat):List α:=(List.range q).filterMap fun i=>if freshK key l i=true then l[i]? else none
def ddT {α:Type} (key:α→ByteArray) (l:List α):List α:=ddI key l l.length
section
variable {α:Type} {key:α→ByteArray}
theorem ddI_step (l:List α) (q:Nat) {y:α} (hy:l[q]? = some y):ddI key l (q+1)=ddI key l q++(if freshK key l q=true then [y] else []):=by
 unfold ddI
 rw [List.range_succ,List.filterMap_append]
 refine congrArg _ ?_
 by_cases h:freshK key l q=true
 ·simp [h,hy]
 ·simp [h]
theorem ddI_len (l:List α) (q:Nat):(ddI key l q).length≤q:=by
 unfold ddI
 refine Nat.le_trans (List.length_filterMap_le _ _) ?_
 rw [List.length_range]
 exact Nat.le_refl _
theorem ddI_mem {l:List α} {q:Nat} {y:α} (h:y∈ddI key l q):y∈l:=by
 unfold ddI at h
 obtain ⟨i,hi,hy⟩:=List.mem_filterMap.1 h
 split at hy
 ·exact mG hy
 ·cases hy
theorem ddI_all {l:List α}:∀ (q:Nat),q≤l.length→(∀ i,i<q→freshK key l i=true)→ddI key l q=l.take q
 | 0,_,_=>by simp [ddI]
 | q+1,hq,h=>by
  have hl:q<l.length:=by omega
  rw [ddI_step l q (gE hl),ddI_all q (by omega) (fun i hi=>h i (by omega)),if_pos (h q (by omega)),List.take_add_one,gE hl]
  rfl
theorem ddT_mem {l:List α} {y:α} (h:y∈ddT key l):y∈l:=ddI_mem h
theorem ddT_len (l:List α):(ddT key l).length≤l.length:=ddI_len l _
theorem ddI_has {l:List α}:∀ (i:Nat) (y:α),l[i]? = some y→∀ q,i<q→∃ z∈ddI key l q,key z=key y:=by
 intro i
 induction i with
 | zero =>
  intro y hy q hq
  refine ⟨y,List.mem_filterMap.2 ⟨0,List.mem_range.2 hq,?_⟩,rfl⟩
  simp [freshK,hy]
 | succ i ih =>
  intro y hy q hq
  by_cases hf:freshK key l (i+1)=true
  ·exact ⟨y,List.mem_filterMap.2 ⟨i+1,List.mem_range.2 hq,by rw [if_pos hf];exact hy⟩,rfl⟩
  ·obtain ⟨x,hx⟩:∃ x,l[i]? = some x:=⟨_,gE (by have:=(sI.1 hy).1;omega)⟩
   obtain ⟨z,hz,hk⟩:=ih x hx q (by omega)
   refine ⟨z,hz,hk.trans (Eq.symm ?_)⟩
   simpa [freshK,hx,hy] using hf
theorem ddT_has {l:List α} {y:α} (h:y∈l):∃ z∈ddT key l,key z=key y:=by
 obtain ⟨i,hi⟩:=List.mem_iff_getElem?.1 h
 exact ddI_has i y hi _ (sI.1 hi).1
end
theorem freshK_map {α:Type} (f:α→Pn) (l:List α) (i:Nat):freshK txt (l.map f) i=freshK (fun x=>txt (f x)) l i:=by
 unfold freshK
 rw [List.getElem?_map,List.getElem?_map,Option.map_map,Option.map_map]
 rfl
theorem ddI_map {α:Type} (f:α→Pn) (l:List α) (q:Nat):ddI txt (l.map f) q=(ddI (fun x=>txt (f x)) l q).map f:=by
 unfold ddI
 rw [List.map_filterMap]
 congr 1
 funext i
 rw [freshK_map]
 split
 ·rw [List.getElem?_map]
 ·rfl
theorem ddT_map {α:Type} (f:α→Pn) (l:List α):ddT txt (l.map f)=(ddT (fun x=>txt (f x)) l).map f:=by
 unfold ddT
 rw [List.length_map,ddI_map]
def leT (p q:Pn):Bool:=!decide ((txt q).data.toList<(txt p).data.toList)
def sortP (l:List Pn):List Pn:=l.mergeSort leT
theorem leT_trans (a b c:Pn):leT a b=true→leT b c=true→leT a c=true:=by
 unfold leT
 simp only [Bool.not_eq_true',decide_eq_false_iff_not,List.not_lt]
 exact fun h k=>List.le_trans h k
theorem leT_total (a b:Pn):(leT a b || leT b a)=true:=by
 unfold leT
 rw [Bool.or_eq_true]
 simp only [Bool.not_eq_true',decide_eq_false_iff_not,List.not_lt]
 exact List.le_total _ _
theorem leT_anti {a b:Pn} (ha:okPn a) (hb:okPn b) (h:leT a b=true) (k:leT b a=true):a=b:=by
 unfold leT at h k
 simp only [Bool.not_eq_true',decide_eq_false_iff_not,List.not_lt] at h k
 have e:=List.le_antisymm h k
 refine txt_inj ha hb ?_
 have:(txt a).data=(txt b).data:=Array.toList_inj.1 e
 exact ByteArray.ext this
theorem sortP_mem {l:List Pn} {p:Pn}:p∈sortP l↔p∈l:=(List.mergeSort_perm l leT).mem_iff
theorem sortP_len (l:List Pn):(sortP l).length=l.length:=(List.mergeSort_perm l leT).length_eq
theorem sortP_eq {l l':List Pn} (hok:∀ p∈l,okPn p) (hp:l'.Perm l) (hs:l'.Pairwise (fun a b=>leT a b=true)):l'=sortP l:=by
 have hp2:l'.Perm (sortP l):=hp.trans (List.mergeSort_perm l leT).symm
 refine List.Perm.eq_of_pairwise (le:=fun a b=>leT a b=true) (fun a b ha hb h k=>leT_anti (hok a (hp.mem_iff.1 ha)) (hok b (sortP_mem.1 hb)) h k) hs ?_ hp2
 exact List.pairwise_mergeSort (le:=leT) leT_trans leT_total l
def redH (b:Pn) (ps:List Pn):List Pn:=topH (ddT txt (sortP (redM b ps)))
theorem redD_mem {b:Pn} {ps:List Pn} {h:Pn} (hh:h∈ddT txt (sortP (redM b ps))):h∈redM b ps:=sortP_mem.1 (ddT_mem hh)
theorem redH_mem {b:Pn} {ps:List Pn} {h:Pn} (hh:h∈redH b ps):h∈redM b ps:=redD_mem (List.mem_filter.1 hh).1
theorem redH_ok {b:Pn} {ps:List Pn}:∀ h∈redH b ps,okPn h:=fun h hh=>redM_ok h (redH_mem hh)
theorem redH_len (b:Pn) (ps:List Pn):(redH b ps).length≤ps.length:=by
 unfold redH topH redM
 refine Nat.le_trans (List.length_filter_le _ _) (Nat.le_trans (ddT_len _) ?_)
 rw [sortP_len,List.length_map]
 exact List.length_filter_le _ _
theorem redH_mt {b:Pn} {ps:List Pn} {s:ByteArray} (hb:mt b s=true):(redH b ps).any (mt · s)=ps.any (mt · s):=by
 unfold redH
 rw [topH_mt (fun h hh=>redM_ok h (redD_mem hh)),← redM_mt (ps:=ps) hb,Bool.eq_iff_iff,List.any_eq_true,List.any_eq_true]
 constructor
 ·rintro ⟨h,hh,hs⟩
  exact ⟨h,redD_mem hh,hs⟩
 ·rintro ⟨h,hh,hs⟩
  obtain ⟨z,hz,hk⟩:=ddT_has (key:=txt) (sortP_mem.2 hh)
  have:=txt_inj (redM_ok z (redD_mem hz)) (redM_ok h hh) hk
  exact ⟨z,hz,by rw [this];exact hs⟩
theorem redH_nil (b:Pn):redH b []=[]:=List.eq_nil_of_length_eq_zero (Nat.le_zero.1 (redH_len b []))
end Go.Proofs.YtelkmeiepliecaaGreatDoor
