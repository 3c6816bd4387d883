/-
  Part 19 of the proof.
-/
import Derived.Test.YtelkmeiepliecaaGreatDoorU18
import Derived.Laws.AppendOwnNone
set_option linter.unusedSimpArgs false
set_option linter.unusedVariables false
set_option maxHeartbeats 16000000
namespace Go.Proofs.YtelkmeiepliecaaGreatDoor
open Go.RowKit Go.WideShapes
def RR (w:World) (A:Option Addr) (c size:Nat) (rows:List (List Value)):Prop :=
 rows.length≤c∧c≤9223372036854775807∧(0<rows.length→∃ b o,A=some ⟨b,o,none⟩∧b<w.heap.size∧∀ (j:Nat) (r:List Value),rows[j]? = some r→∀ (i:Nat) (u:Value),r[i]? = some u→w.cell? ⟨b,o+j * size+i,none⟩=some u)
theorem RR.nil (w:World) (A:Option Addr) (c size:Nat) (h:c≤9223372036854775807):RR w A c size []:=⟨Nat.zero_le _,h,fun h=>absurd h (Nat.lt_irrefl 0)⟩
theorem RR.below {w w':World} {A:Option Addr} {c size:Nat} {rows:List (List Value)} (h:RR w A c size rows) (hb:Below w.heap.size w w'):RR w' A c size rows :=
 ⟨h.1,h.2.1,fun h0=>by
  obtain ⟨b,o,e,hlt,hc⟩:=h.2.2 h0
  exact ⟨b,o,e,Nat.lt_of_lt_of_le hlt hb.size,fun j r hj i u hu=>(hb.cell (p:=⟨b,o+j * size+i,none⟩) hlt).trans (hc j r hj i u hu)⟩⟩
def OR (w:World) (base:Nat) (E:TypeId) (size:Nat) (v:Value) (rows:List (List Value)):Prop:=w.ownsRow base E size v rows.length rows.flatten∧∀ r∈rows,r.length=size
theorem OR.nil (w:World) (base:Nat) (E:TypeId) (size:Nat):OR w base E size (.slice none 0 0) []:=⟨⟨by simp,.inl ⟨rfl,rfl⟩⟩,fun r h=>by cases h⟩
theorem OR.own {w:World} {base:Nat} {E:TypeId} {size:Nat} {v:Value} {rows:List (List Value)} (h:OR w base E size v rows):∀ k,v.ownBlock=some k→base≤k∧k<w.heap.size:=h.1.lt
theorem OR.below {w w':World} {base:Nat} {E:TypeId} {size:Nat} {v:Value} {rows:List (List Value)} (h:OR w base E size v rows) (hb:Below w.heap.size w w'):OR w' base E size v rows:=by
 refine ⟨⟨h.1.1,?_⟩,h.2⟩
 rcases h.1.2 with ⟨rfl,hn⟩|⟨g,cap,cur,rfl,hbg,hh,hrest⟩
 ·exact .inl ⟨rfl,hn⟩
 ·refine .inr ⟨g,cap,cur,rfl,hbg,?_,hrest⟩
  rw [hb.block g ?_]
  ·exact hh
  ·rcases Nat.lt_or_ge g w.heap.size with h1|h1
   ·exact h1
   ·rw [Array.getElem?_eq_none h1] at hh;cases hh
theorem flat_at {size:Nat}:∀ {rows:List (List Value)},(∀ r∈rows,r.length=size)→∀ (j:Nat) (r:List Value),rows[j]? = some r→∀ (i:Nat) (u:Value),r[i]? = some u→rows.flatten[j * size+i]? = some u
 | [],_,j,r,h,i,u,hu=>by simp at h
 | q::rows,hs,0,r,h,i,u,hu=>by
  have:q=r:=by simpa using h
  subst this
  rw [List.flatten_cons,Nat.zero_mul,Nat.zero_add,List.getElem?_append_left (sI.1 hu).1]
  exact hu
 | q::rows,hs,j+1,r,h,i,u,hu=>by
  have hq:=hs q List.mem_cons_self
  have ih:=flat_at (fun x hx=>hs x (List.mem_cons_of_mem _ hx)) j r (by simpa using h) i u hu
  rw [List.flatten_cons,List.getElem?_append_right (by rw [hq,Nat.succ_mul];omega),hq,← ih]
  congr 1
  rw [Nat.succ_mul]
  omega
theorem flat_len {size:Nat}:∀ {rows:List (List Value)},(∀ r∈rows,r.length=size)→rows.flatten.length=rows.length * size
 | [],_=>by simp
 | q::rows,hs=>by
  rw [List.flatten_cons,List.length_append,hs q List.mem_cons_self,flat_len (fun x hx=>hs x (List.mem_cons_of_mem _ hx)),List.length_cons,Nat.succ_mul]
  omega
theorem OR.read {w:World} {base:Nat} {E:TypeId} {size:Nat} {v:Value} {rows:List (List Value)} (h:OR w base E size v rows):∃ A c,v=.slice A rows.length c∧RR w A c size rows:=by
 obtain ⟨⟨hl,h⟩,hs⟩:=h
 rcases h with ⟨rfl,hn⟩|⟨g,cap,cur,rfl,hbg,hh,hnc,hcm,hcs,htk⟩
 ·have:rows=[]:=List.eq_nil_of_length_eq_zero hn
  subst this
  exact ⟨none,0,rfl,RR.nil w none 0 size (by omega)⟩
 ·refine ⟨_,_,rfl,hnc,by simpa [maxLen] using hcm,fun h0=>⟨g,0,rfl,?_,fun j r hj i u hu=>?_⟩⟩
  ·rcases Nat.lt_or_ge g w.heap.size with h1|h1
   ·exact h1
   ·rw [Array.getElem?_eq_none h1] at hh;cases hh
  ·have e:=flat_at hs j r hj i u hu
   have hlt:j * size+i<rows.length * size:=by rw [←flat_len hs];exact (sI.1 e).1
   rw [←htk,List.getElem?_take,if_pos hlt] at e
   have:(⟨g,0+j * size+i,none⟩:Addr)=⟨g,j * size+i,none⟩:=by simp
   rw [this,cell_of_row w g _ cur _ (0,0) hh]
   simpa using e
theorem OR.kept {w w':World} {base:Nat} {E:TypeId} {size:Nat} {v:Value} {rows:List (List Value)} {k:Option Nat} (h:OR w base E size v rows) (hg:w.grownBy w' k) (hne:∀ j,k=some j→v.ownBlock≠some j):OR w' base E size v rows:=by
 refine ⟨?_,h.2⟩
 cases k with
 | none =>
  rcases h.1.2 with ⟨e,_⟩|⟨g,cap,cur,e,_⟩
  ·exact World.ownsRow.kept h.1 hg (.inl (by rw [e];rfl))
  ·exact World.ownsRow.kept h.1 hg (.inr (by rw [e];intro e2;cases e2))
 | some j=>exact World.ownsRow.kept h.1 hg (.inr (hne j rfl))
theorem flat_of {size:Nat} (hsz:0<size):∀ {rows:List (List Value)},(∀ r∈rows,r.length=size)→∀ (j:Nat) (u:Value),rows.flatten[j]? = some u→∃ r,rows[j / size]? = some r∧r[j % size]? = some u
 | [],_,j,u,h=>by simp at h
 | q::rows,hs,j,u,h=>by
  have hq:=hs q List.mem_cons_self
  rw [List.flatten_cons] at h
  rcases Nat.lt_or_ge j size with hlt|hge
  ·rw [List.getElem?_append_left (by omega)] at h
   refine ⟨q,?_,?_⟩
   ·rw [Nat.div_eq_of_lt hlt];rfl
   ·rw [Nat.mod_eq_of_lt hlt];exact h
  ·rw [List.getElem?_append_right (by omega),hq] at h
   obtain ⟨r,h1,h2⟩:=flat_of hsz (fun x hx=>hs x (List.mem_cons_of_mem _ hx)) (j-size) u h
   refine ⟨r,?_,?_⟩
   ·rw [Nat.div_eq_sub_div hsz hge]
    exact h1
   ·rw [Nat.mod_eq_sub_mod hge]
    exact h2
def NilC (A:Option Addr) (c:Nat):Prop:=A=none→c=0
theorem OR.bx {w:World} {base:Nat} {E:TypeId} {size:Nat} {v:Value} {rows:List (List Value)} (h:OR w base E size v rows) :
 (v=.slice none 0 0∧rows=[])∨∃ g c,v=.slice (some ⟨g,0,none⟩) rows.length c∧base≤g∧BX w g rows.flatten∧rows.length≤c∧c≤9223372036854775807:=by
 obtain ⟨hl,hr⟩:=h.1
 rcases hr with ⟨e2,hn⟩|⟨g,cap,cur,e2,hbg,hh,hnc,hcm,hcs,htk⟩
 ·exact .inl ⟨e2,List.eq_nil_of_length_eq_zero hn⟩
 ·refine .inr ⟨g,cap,e2,hbg,⟨fun j u hj=>?_,fun i=>?_,?_⟩,hnc,by simpa [maxLen] using hcm⟩
  ·have hlt:j<rows.length * size:=by rw [←hl];exact (sI.1 hj).1
   rw [←htk,List.getElem?_take,if_pos hlt] at hj
   rw [cell_of_row w g _ cur _ (0,0) hh]
   simpa using hj
  ·simp [World.frozen?,hh]
  ·rcases Nat.lt_or_ge g w.heap.size with h1|h1
   ·exact h1
   ·rw [Array.getElem?_eq_none h1] at hh;cases hh
theorem RR.of_bx {w:World} {g c size:Nat} {rows:List (List Value)} (h:BX w g rows.flatten) (hs:∀ r∈rows,r.length=size) (h1:rows.length≤c) (h2:c≤9223372036854775807):RR w (some ⟨g,0,none⟩) c size rows :=
 ⟨h1,h2,fun _=>⟨g,0,rfl,h.2.2,fun j r hj i u hu=>by rw [Nat.zero_add];exact h.1 _ u (flat_at hs j r hj i u hu)⟩⟩
theorem OR.readB {w:World} {base:Nat} {E:TypeId} {size:Nat} {v:Value} {rows:List (List Value)} (h:OR w base E size v rows):∃ A c,v=.slice A rows.length c∧RR w A c size rows∧NilC A c∧∀ a,A=some a→base≤a.block:=by
 rcases h.bx with ⟨e,hr⟩|⟨g,c,e,hg,hb,h1,h2⟩
 ·subst hr
  exact ⟨none,0,e,RR.nil w none 0 size (by omega),fun _=>rfl,fun a ha=>by cases ha⟩
 ·exact ⟨_,c,e,RR.of_bx hb h.2 h1 h2,(fun ha=>by cases ha),fun a ha=>by cases ha;exact hg⟩
def nsV (u:Value):Prop:=∀ x,u≠.string x
def NSB (w:World) (k:Nat):Prop:=∀ i x,w.cell? ⟨k,i,none⟩≠some (.string x)
def NSO (w:World) (v:Value):Prop:=∀ k,v.ownBlock=some k→NSB w k
theorem NSB.same {w w':World} {k:Nat} (h:NSB w k) (e:w'.heap[k]? = w.heap[k]?):NSB w' k:=fun i x hc=>h i x (by
 rw [←hc]
 exact (World.cell?_of_block (a:=⟨k,i,none⟩) e).symm)
theorem NSB.below {w w':World} {k:Nat} (h:NSB w k) (hk:k<w.heap.size) (hb:Below w.heap.size w w'):NSB w' k:=h.same (hb.block k hk)
theorem NSB.of {w:World} {g:Nat} {cs:Array Value} {t:TypeId} {fr:Nat×Nat} (hg:w.heap[g]? = some (.cells cs t fr)) (h:∀ u∈cs.toList,nsV u):NSB w g:=fun i x hc=>by
 rw [cell_of_row w g i cs t fr hg] at hc
 exact h _ (Array.mem_toList_iff.2 (Array.mem_of_getElem? hc)) x rfl
theorem NSB.cells {w:World} {g:Nat} {cs:Array Value} {t:TypeId} {fr:Nat×Nat} (h:NSB w g) (hg:w.heap[g]? = some (.cells cs t fr)):∀ u∈cs.toList,nsV u:=fun u hu x e=>by
 obtain ⟨i,hi⟩:=List.mem_iff_getElem?.1 hu
 refine h i x ?_
 rw [cell_of_row w g i cs t fr hg,← e]
 simpa using hi
theorem RT.grownS {w w':World} {A:Option Addr} {c:Nat} {xs:List ByteArray} {k:Option Nat} (h:RT w A c xs) (hg:w.grownBy w' k) (hn:∀ j,k=some j→NSB w j):RT w' A c xs :=
 ⟨h.1,h.2.1,fun h0=>by
  obtain ⟨b,o,e,hlt,hc⟩:=h.2.2 h0
  have hne:some b≠k:=fun e2=>by
   obtain ⟨x,hx⟩:∃ x,xs[0]? = some x:=⟨_,gE h0⟩
   exact hn b e2.symm _ x (hc 0 x hx)
  exact ⟨b,o,e,Nat.lt_of_lt_of_le hlt hg.size,fun j x hx=>(World.cell?_of_block (a:=⟨b,o+j,none⟩) (hg.block b hlt hne)).trans (hc j x hx)⟩⟩
theorem BT.grownS {w w':World} {A:Option Addr} {c:Nat} {ps:List (List ByteArray×Bool)} {k:Option Nat} (h:BT w A c ps) (hg:w.grownBy w' k) (hn:∀ j,k=some j→NSB w j) (ha:0<ps.length→∀ a,A=some a→k≠some a.block):BT w' A c ps :=
 ⟨h.1,h.2.1,fun h0=>by
  obtain ⟨b,o,e,hlt,hc⟩:=h.2.2 h0
  have hb:=hg.block b hlt (fun e2=>ha h0 _ e e2.symm)
  refine ⟨b,o,e,Nat.lt_of_lt_of_le hlt hg.size,fun j p hj=>?_⟩
  obtain ⟨C,n,h1,h2,h3⟩:=hc j p hj
  exact ⟨C,n,(World.cell?_of_block (a:=⟨b,o+j * 2,none⟩) hb).trans h1,(World.cell?_of_block (a:=⟨b,o+j * 2+1,none⟩) hb).trans h2,h3.grownS hg hn⟩⟩
theorem BT.lt {w:World} {A:Option Addr} {c:Nat} {ps:List (List ByteArray×Bool)} (h:BT w A c ps) (h0:0<ps.length):∀ a,A=some a→a.block<w.heap.size:=fun a e=>by
 obtain ⟨b,o,e2,hlt,_⟩:=h.2.2 h0
 rw [e] at e2
 cases e2
 exact hlt
structure Ch (K:Nat→Prop) (w w':World):Prop where
 size:w.heap.size≤w'.heap.size
 same:∀ b,b<w.heap.size→(¬ K b∨¬ NSB w b)→w'.heap[b]? = w.heap[b]?
theorem Ch.refl (K:Nat→Prop) (w:World):Ch K w w:=⟨Nat.le_refl _,fun _ _ _=>rfl⟩
theorem NSB.iff {w w':World} {b:Nat} (e:w'.heap[b]? = w.heap[b]?):NSB w' b↔NSB w b:=⟨fun h=>h.same e.symm,fun h=>h.same e⟩
theorem Ch.trans {K:Nat→Prop} {a b c:World} (h:Ch K a b) (k:Ch K b c):Ch K a c:=⟨Nat.le_trans h.size k.size,fun j hj hn=>by
 have e:=h.same j hj hn
 refine (k.same j (Nat.lt_of_lt_of_le hj h.size) ?_).trans e
 rcases hn with hn|hn
 ·exact .inl hn
 ·exact .inr (fun h2=>hn ((NSB.iff e).1 h2))⟩
theorem Ch.mono {K K':Nat→Prop} {a b:World} (h:Ch K a b) (hk:∀ j,K j→K' j):Ch K' a b:=⟨h.size,fun j hj hn=>h.same j hj (hn.elim (fun h=>.inl (fun h2=>h (hk j h2))) .inr)⟩
theorem Ch.of_below {K:Nat→Prop} {w w':World} (h:Below w.heap.size w w'):Ch K w w':=⟨h.size,fun j hj _=>h.block j hj⟩
theorem Ch.of_grown {K:Nat→Prop} {w w':World} {k:Option Nat} (h:w.grownBy w' k) (hk:∀ j,k=some j→K j∧NSB w j):Ch K w w':=⟨h.size,fun j hj hn=>h.block j hj (fun e=>by
 obtain ⟨h1,h2⟩:=hk j e.symm
 rcases hn with hn|hn
 ·exact hn h1
 ·exact hn h2)⟩
theorem Ch.set {K:Nat→Prop} {w:World} {p:Addr} (hk:K p.block) (hn:NSB w p.block) (u:Value):Ch K w (w.setCell p u) :=
 Ch.of_grown (k:=some p.block) (gb_set (World.grownBy.refl _ _) (.inl rfl) u) (fun j e=>by cases e;exact ⟨hk,hn⟩)
theorem RT.ch {w w':World} {A:Option Addr} {c:Nat} {xs:List ByteArray} {K:Nat→Prop} (h:RT w A c xs) (hc:Ch K w w'):RT w' A c xs :=
 ⟨h.1,h.2.1,fun h0=>by
  obtain ⟨b,o,e,hlt,hh⟩:=h.2.2 h0
  have hs:=hc.same b hlt (.inr fun hn=>by
   obtain ⟨x,hx⟩:∃ x,xs[0]? = some x:=⟨_,gE h0⟩
   exact hn _ x (hh 0 x hx))
  exact ⟨b,o,e,Nat.lt_of_lt_of_le hlt hc.size,fun j x hx=>(World.cell?_of_block (a:=⟨b,o+j,none⟩) hs).trans (hh j x hx)⟩⟩
theorem BT.ch {w w':World} {A:Option Addr} {c:Nat} {ps:List (List ByteArray×Bool)} {K:Nat→Prop} (h:BT w A c ps) (ha:0<ps.length→∀ a,A=some a→¬ K a.block) (hc:Ch K w w'):BT w' A c ps :=
 ⟨h.1,h.2.1,fun h0=>by
  obtain ⟨b,o,e,hlt,hh⟩:=h.2.2 h0
  have hb:=hc.same b hlt (.inl (ha h0 _ e))
  refine ⟨b,o,e,Nat.lt_of_lt_of_le hlt hc.size,fun j p hj=>?_⟩
  obtain ⟨C,n,h1,h2,h3⟩:=hh j p hj
  exact ⟨C,n,(World.cell?_of_block (a:=⟨b,o+j * 2,none⟩) hb).trans h1,(World.cell?_of_block (a:=⟨b,o+j * 2+1,none⟩) hb).trans h2,h3.ch hc⟩⟩
theorem BX.ch {w w':World} {g:Nat} {cs:List Value} {K:Nat→Prop} (h:BX w g cs) (hk:¬ K g) (hc:Ch K w w'):BX w' g cs:=by
 have hb:=hc.same g h.2.2 (.inl hk)
 exact ⟨fun j u hu=>(World.cell?_of_block (a:=⟨g,j,none⟩) hb).trans (h.1 j u hu),fun i=>(World.frozen?_of_block (a:=⟨g,i,none⟩) hb).trans (h.2.1 i),Nat.lt_of_lt_of_le h.2.2 hc.size⟩
structure El (α:Type) where
 size:Nat
 pos:0<size
 R:World→(Nat→Prop)→α→List Value→Prop
 len:∀ {w K x r},R w K x r→r.length=size
 one:∀ {w K x r},R w K x r→∀ u∈r,u.oneCell'=true
 ns:∀ {w K x r},R w K x r→∀ u∈r,nsV u
 below:∀ {w w' K x r},R w K x r→Below w.heap.size w w'→R w' K x r
 ch:∀ {w w' K x r},R w K x r→Ch K w w'→R w' K x r
 fresh:∀ {w K x r},R w K x r→R w (fun b=>K b∨w.heap.size≤b) x r
 mono:∀ {w K K' x r},R w K x r→(∀ b,K' b→K b)→R w K' x r
variable {α:Type}
def kN:Nat→Prop:=fun _=>False
def kL (n:Nat):Nat→Prop:=fun b=>b<n
def avO (v:Value) (K:Nat→Prop):Nat→Prop:=fun b=>v.ownBlock=some b∨K b
def Rel (e:El α) (w:World) (K:Nat→Prop) (xs:List α) (rows:List (List Value)):Prop :=
 rows.length=xs.length∧∀ (j:Nat) (x:α) (r:List Value),xs[j]? = some x→rows[j]? = some r→e.R w K x r
theorem Rel.map {e:El α} {w w':World} {K K':Nat→Prop} {xs:List α} {rows:List (List Value)} (h:Rel e w K xs rows) (f:∀ x r,e.R w K x r→e.R w' K' x r):Rel e w' K' xs rows:=⟨h.1,fun j x r hx hr=>f x r (h.2 j x r hx hr)⟩
theorem Rel.mem {e:El α} {w:World} {K:Nat→Prop} {xs:List α} {rows:List (List Value)} (h:Rel e w K xs rows) {r:List Value} (hr:r∈rows):∃ x,e.R w K x r:=by
 obtain ⟨j,hj⟩:=List.mem_iff_getElem?.1 hr
 exact ⟨_,h.2 j _ r (gE (by rw [←h.1];exact (sI.1 hj).1)) hj⟩
theorem Rel.len {e:El α} {w:World} {K:Nat→Prop} {xs:List α} {rows:List (List Value)} (h:Rel e w K xs rows):∀ r∈rows,r.length=e.size:=fun r hr=>by
 obtain ⟨x,hx⟩:=h.mem hr;exact e.len hx
theorem Rel.one {e:El α} {w:World} {K:Nat→Prop} {xs:List α} {rows:List (List Value)} (h:Rel e w K xs rows):∀ r∈rows,∀ u∈r,u.oneCell'=true:=fun r hr=>by
 obtain ⟨x,hx⟩:=h.mem hr;exact e.one hx
theorem Rel.ns {e:El α} {w:World} {K:Nat→Prop} {xs:List α} {rows:List (List Value)} (h:Rel e w K xs rows):∀ r∈rows,∀ u∈r,nsV u:=fun r hr=>by
 obtain ⟨x,hx⟩:=h.mem hr;exact e.ns hx
theorem Rel.app {e:El α} {w:World} {K:Nat→Prop} {xs ys:List α} {rows more:List (List Value)} (h:Rel e w K xs rows) (h2:Rel e w K ys more):Rel e w K (xs++ys) (rows++more):=by
 refine ⟨by rw [List.length_append,List.length_append,h.1,h2.1],fun j y q hy hq=>?_⟩
 rcases Nat.lt_or_ge j xs.length with hlt|hge
 ·rw [List.getElem?_append_left hlt] at hy
  rw [List.getElem?_append_left (by rw [h.1];exact hlt)] at hq
  exact h.2 j y q hy hq
 ·rw [List.getElem?_append_right hge] at hy
  rw [List.getElem?_append_right (by rw [h.1];exact hge),h.1] at hq
  exact h2.2 _ y q hy hq
theorem Rel.single {e:El α} {w:World} {K:Nat→Prop} {x:α} {r:List Value} (h:e.R w K x r):Rel e w K [x] [r]:=⟨rfl,fun j y q hy hq=>by
 cases j with
 | zero=>cases hy;cases hq;exact h
 | succ j=>simp at hy⟩
theorem Rel.nil (e:El α) (w:World) (K:Nat→Prop):Rel e w K [] []:=⟨rfl,fun j x r hx=>by simp at hx⟩
def SV (e:El α) (w:World) (K:Nat→Prop) (A:Option Addr) (c:Nat) (xs:List α):Prop:=∃ rows,RR w A c e.size rows∧Rel e w K xs rows∧(0<xs.length→∀ a,A=some a→¬ K a.block)
def SO (e:El α) (w:World) (base:Nat) (T:TypeId) (v:Value) (K:Nat→Prop) (xs:List α):Prop:=∃ rows,OR w base T e.size v rows∧Rel e w (avO v K) xs rows∧NSO w v
theorem SV.nil (e:El α) (w:World) (K:Nat→Prop) (A:Option Addr) (c:Nat) (h:c≤9223372036854775807):SV e w K A c []:=⟨[],RR.nil w A c _ h,Rel.nil _ _ _,fun h=>absurd h (Nat.lt_irrefl 0)⟩
theorem SV.below {e:El α} {w w':World} {K:Nat→Prop} {A:Option Addr} {c:Nat} {xs:List α} (h:SV e w K A c xs) (hb:Below w.heap.size w w'):SV e w' K A c xs:=by
 obtain ⟨rows,h1,h2,h3⟩:=h
 exact ⟨rows,h1.below hb,h2.map fun _ _ h=>e.below h hb,h3⟩
theorem SV.lenc {e:El α} {w:World} {K:Nat→Prop} {A:Option Addr} {c:Nat} {xs:List α} (h:SV e w K A c xs):xs.length≤c:=by
 obtain ⟨rows,h1,h2,_⟩:=h
 rw [←h2.1];exact h1.1
theorem SV.capc {e:El α} {w:World} {K:Nat→Prop} {A:Option Addr} {c:Nat} {xs:List α} (h:SV e w K A c xs):c≤9223372036854775807:=by
 obtain ⟨rows,h1,h2,_⟩:=h
 exact h1.2.1
theorem SV.at_ {e:El α} {w:World} {K:Nat→Prop} {A:Option Addr} {c:Nat} {xs:List α} (h:SV e w K A c xs) {j:Nat} {x:α} (hx:xs[j]? = some x) :
 ∃ b o r,A=some ⟨b,o,none⟩∧b<w.heap.size∧(∀ (i:Nat) (u:Value),r[i]? = some u→w.cell? ⟨b,o+j * e.size+i,none⟩=some u)∧e.R w K x r:=by
 obtain ⟨rows,h1,h2,_⟩:=h
 have hj:=(sI.1 hx).1
 obtain ⟨b,o,ea,hlt,hc⟩:=h1.2.2 (by rw [h2.1];omega)
 obtain ⟨r,hr⟩:∃ r,rows[j]? = some r:=⟨_,gE (by rw [h2.1];exact hj)⟩
 exact ⟨b,o,r,ea,hlt,hc j r hr,h2.2 j x r hx hr⟩
theorem SV.lt {e:El α} {w:World} {K:Nat→Prop} {A:Option Addr} {c:Nat} {xs:List α} (h:SV e w K A c xs) (h0:0<xs.length):∀ a,A=some a→a.block<w.heap.size:=fun a ea=>by
 obtain ⟨b,o,r,eb,hlt,_⟩:=h.at_ (gE h0)
 rw [ea] at eb
 cases eb
 exact hlt
theorem SV.mono {e:El α} {w:World} {K K':Nat→Prop} {A:Option Addr} {c:Nat} {xs:List α} (h:SV e w K A c xs) (hk:∀ b,K' b→K b):SV e w K' A c xs:=by
 obtain ⟨rows,h1,h2,h3⟩:=h
 exact ⟨rows,h1,h2.map fun _ _ h=>e.mono h hk,fun h0 a ea hb=>h3 h0 a ea (hk _ hb)⟩
theorem SV.weak {e:El α} {w:World} {K:Nat→Prop} {A:Option Addr} {c:Nat} {xs:List α} (h:SV e w K A c xs):SV e w kN A c xs:=h.mono fun _ h=>h.elim
theorem SV.fresh {e:El α} {w:World} {K:Nat→Prop} {A:Option Addr} {c:Nat} {xs:List α} (h:SV e w K A c xs):SV e w (fun b=>K b∨w.heap.size≤b) A c xs:=by
 have hl:=h.lt
 obtain ⟨rows,h1,h2,h3⟩:=h
 refine ⟨rows,h1,h2.map fun _ _ h=>e.fresh h,fun h0 a ea hb=>?_⟩
 rcases hb with hb|hb
 ·exact h3 h0 a ea hb
 ·have:=hl h0 a ea
  omega
theorem SV.ch {e:El α} {w w':World} {K:Nat→Prop} {A:Option Addr} {c:Nat} {xs:List α} (h:SV e w K A c xs) (hc:Ch K w w'):SV e w' K A c xs:=by
 obtain ⟨rows,h1,h2,h3⟩:=h
 refine ⟨rows,⟨h1.1,h1.2.1,fun h0=>?_⟩,h2.map fun _ _ h=>e.ch h hc,h3⟩
 obtain ⟨b,o,ea,hlt,hh⟩:=h1.2.2 h0
 have hb:=hc.same b hlt (.inl (h3 (by rw [←h2.1];exact h0) _ ea))
 exact ⟨b,o,ea,Nat.lt_of_lt_of_le hlt hc.size,fun j r hj i u hu=>(World.cell?_of_block (a:=⟨b,o+j * e.size+i,none⟩) hb).trans (hh j r hj i u hu)⟩
theorem SO.nil (e:El α) (w:World) (base:Nat) (T:TypeId) (K:Nat→Prop):SO e w base T (.slice none 0 0) K []:=⟨[],OR.nil w base T _,Rel.nil _ _ _,fun k h=>by cases h⟩
theorem SO.own {e:El α} {w:World} {base:Nat} {T:TypeId} {v:Value} {K:Nat→Prop} {xs:List α} (h:SO e w base T v K xs):∀ k,v.ownBlock=some k→base≤k∧k<w.heap.size:=by
 obtain ⟨rows,h1,_⟩:=h
 exact h1.own
theorem SO.nso {e:El α} {w:World} {base:Nat} {T:TypeId} {v:Value} {K:Nat→Prop} {xs:List α} (h:SO e w base T v K xs):NSO w v:=by
 obtain ⟨rows,_,_,h1⟩:=h
 exact h1
theorem SO.below {e:El α} {w w':World} {base:Nat} {T:TypeId} {v:Value} {K:Nat→Prop} {xs:List α} (h:SO e w base T v K xs) (hb:Below w.heap.size w w'):SO e w' base T v K xs:=by
 obtain ⟨rows,h1,h2,h3⟩:=h
 exact ⟨rows,h1.below hb,h2.map fun _ _ h=>e.below h hb,fun k hk=>(h3 k hk).below (h1.own k hk).2 hb⟩
theorem SO.read {e:El α} {w:World} {base:Nat} {T:TypeId} {v:Value} {K:Nat→Prop} {xs:List α} (h:SO e w base T v K xs) (hK:∀ b,base≤b→¬ K b):∃ A c,v=.slice A xs.length c∧SV e w K A c xs∧NilC A c∧∀ a,A=some a→base≤a.block:=by
 obtain ⟨rows,h1,h2,h3⟩:=h
 obtain ⟨A,c,ev,hr,hn,hb⟩:=h1.readB
 exact ⟨A,c,by rw [ev,h2.1],⟨rows,hr,h2.map fun _ _ h=>e.mono h fun b hb=>.inr hb,fun _ a ea=>hK _ (hb a ea)⟩,hn,hb⟩
theorem SO.shape {e:El α} {w:World} {base:Nat} {T:TypeId} {v:Value} {K:Nat→Prop} {xs:List α} (h:SO e w base T v K xs):∃ A c,v=.slice A xs.length c:=by
 obtain ⟨rows,h1,h2,h3⟩:=h
 obtain ⟨A,c,ev,_⟩:=h1.read
 exact ⟨A,c,by rw [ev,h2.1]⟩
theorem SO.baseN {e:El α} {w:World} {base base':Nat} {T:TypeId} {v:Value} {K:Nat→Prop} {xs:List α} (h:SO e w base T v K xs) (hb:base'≤base):SO e w base' T v K xs:=by
 obtain ⟨rows,⟨⟨h1,h2⟩,h3⟩,h4⟩:=h
 refine ⟨rows,⟨⟨h1,?_⟩,h3⟩,h4⟩
 rcases h2 with h2|⟨g,cap,cur,ev,hbg,hrest⟩
 ·exact .inl h2
 ·exact .inr ⟨g,cap,cur,ev,Nat.le_trans hb hbg,hrest⟩
theorem SO.ch {e:El α} {w w':World} {base:Nat} {T:TypeId} {v:Value} {K:Nat→Prop} {xs:List α} (h:SO e w base T v K xs) (hc:Ch K w w') (hK:∀ b,v.ownBlock=some b→¬ K b):SO e w' base T v K xs:=by
 obtain ⟨rows,h1,h2,h3⟩:=h
 have hown:=h1.own
 refine ⟨rows,⟨⟨h1.1.1,?_⟩,h1.2⟩,h2.map fun _ _ h=>e.ch h (hc.mono fun b hb=>.inr hb),fun k hk=>(h3 k hk).same (hc.same k (hown k hk).2 (.inl (hK k hk)))⟩
 rcases h1.1.2 with h2|⟨g,cap,cur,ev,hbg,hg,hrest⟩
 ·exact .inl h2
 ·exact .inr ⟨g,cap,cur,ev,hbg,(hc.same g (hown g (by rw [ev];rfl)).2 (.inl (hK g (by rw [ev];rfl)))).trans hg,hrest⟩
section
variable {P:Program} {S E:TypeId} {i:TypeInfo} {z:Value} {size bytes:Nat}
theorem run_append_ns (hu:P.underlying S=some (.slice E)) (hi:P.info? E=some i) (hz:i.zero=some z) (hs:i.size=size) (hby:i.bytes=bytes) (hzs:z.cells.size=size) (hsz:0<size) (hzn:∀ u∈z.cells.toList,nsV u)
 (w:World) (base n:Nat) (v:Value) (xs:List Value) (ty:TypeId) (hown:w.ownsRow base E size v n xs) (hns:NSO w v)
 (a:Addr) (m c:Nat) (news:List Value) (hl:news.length=m * size) (hnews:∀ j u,news[j]? = some u→w.cell? (a.add j)=some u) (h1:∀ u∈news,u.oneCell'=true) (hnn:∀ u∈news,nsV u)
 (h63:n+m≤maxLen) (hbytes:(n+m) * bytes≤140737488355328) (hbase:base≤w.heap.size) :
 ∃ v' w',(Builtin.append_ #[S,S] ty #[v,.slice (some a) m c]).run P w=.ok v' w'∧w'.ownsRow base E size v' (n+m) (xs++news)∧w.grownBy w' v.ownBlock∧(v'.ownBlock=v.ownBlock∨v'.ownBlock=some w.heap.size)∧NSO w' v'∧(v'=.slice none 0 0↔v=.slice none 0 0∧m=0):=by
 obtain ⟨v',w',hrun,h3,h4,h6,h5⟩:=run_append_own_at (P:=P) w base S ty E i z size bytes hu hi hz hs hby hzs hsz v n xs hown a m c news hl hnews h1 h63 hbytes hbase
 refine ⟨v',w',hrun,h3,h4,h5,?_,h6⟩
 subst hs
 subst hby
 have hzc:∀ q:Nat,∀ u∈(Builtin.zeroCells z.cells q).toList,nsV u:=fun q u hu=>by
  unfold Builtin.zeroCells at hu
  rw [Array.toList_map] at hu
  obtain ⟨j,hj,rfl⟩:=List.mem_map.1 hu
  have hp:j % z.cells.size<z.cells.size:=Nat.mod_lt _ (by omega)
  rw [getElem!_pos z.cells _ hp]
  exact hzn _ (by simp)
 have hnx:∀ u∈xs,nsV u:=by
  rcases hown.2 with ⟨rfl,rfl⟩|⟨g,cap,cur,rfl,hbg,hg,hnc,hcm,hcs,htake⟩
  ·intro u hu
   have:xs=[]:=List.eq_nil_of_length_eq_zero (by simpa using hown.1)
   rw [this] at hu;cases hu
  ·intro u hu
   rw [←htake] at hu
   exact (hns g rfl).cells hg u (List.mem_of_mem_take hu)
 have fresh:∀ (W:World) (cs:Array Value) (q:Nat),(∀ u∈cs.toList,nsV u)→NSB ((W.alloc (.cells cs E))) W.heap.size:=fun W cs q h=>NSB.of (heap_alloc_new W _) h
 have hsmall:n+m≤9223372036854775807:=by simp only [maxLen] at h63;omega
 rcases hown.2 with ⟨rfl,rfl⟩|⟨g,cap,cur,rfl,hbg,hg,hnc,hcm,hcs,htake⟩
 ·by_cases hm:m=0
  ·have:=(h6.2 ⟨rfl,hm⟩)
   subst this
   intro k hk;cases hk
  ·have hr:=run_append_nil (P:=P) w S ty E i z hu hi hz a m c news hl hnews (by omega) (by omega) (by have hb:=hbytes;simp only [Nat.zero_add] at hb;omega)
   rw [hrun] at hr
   cases hr
   intro k hk
   cases hk
   refine fresh w.drew _ 0 fun u hu=>?_
   simp only [Array.toList_append,List.mem_append] at hu
   rcases hu with hu|hu
   ·exact hnn u hu
   ·exact hzc _ u hu
 ·by_cases hroom:n+m≤cap
  ·have hfit:n * i.size+news.length≤cur.size:=by rw [hl,hcs,← Nat.add_mul];exact Nat.mul_le_mul_right _ hroom
   have hr:=run_append_room (P:=P) w S ty E i hu hi g n cap cur hg a m c news hl hnews h1 hroom hfit
   rw [hrun] at hr
   cases hr
   intro k hk
   cases hk
   refine NSB.of (setRow_heap w g cur _ E _ hg) fun u hu=>?_
   simp only [List.append_assoc,List.mem_append] at hu
   rcases hu with hu|hu|hu
   ·exact (hns g rfl).cells hg u (List.mem_of_mem_take hu)
   ·exact hnn u hu
   ·exact (hns g rfl).cells hg u (List.mem_of_mem_drop hu)
  ·have holds:∀ j u,xs[j]? = some u→w.cell? ((⟨g,0,none⟩:Addr).add j)=some u:=hown.cells (g:=g) rfl
   have hr:=run_append_grow (P:=P) w S ty E i z hu hi hz ⟨g,0,none⟩ n cap xs hown.1 holds a m c news hl hnews (by omega) (by omega) (growslice_fits (by omega) hbytes)
   rw [hrun] at hr
   cases hr
   intro k hk
   cases hk
   refine fresh w.drew _ 0 fun u hu=>?_
   simp only [Array.toList_append,List.mem_append] at hu
   rcases hu with (hu|hu)|hu
   ·exact hnx u hu
   ·exact hnn u hu
   ·exact hzc _ u hu
end
structure ElT (P:Program) (S E:TypeId) (size:Nat):Prop where
 hu:P.underlying S=some (.slice E)
 inf:∃ (i:TypeInfo) (z:Value),P.info? E=some i∧i.zero=some z∧i.size=size∧i.bytes≤1000∧z.cells.size=size∧∀ u∈z.cells.toList,nsV u
theorem run_append_noneC {P:Program} {w:World} (base:Nat) (t ty e:TypeId) (i:TypeInfo) (size:Nat) (ht:P.underlying t=some (.slice e)) (hi:P.info? e=some i) (v:Value) (n:Nat) (xs:List Value) (hown:w.ownsRow base e size v n xs) (c:Nat) :
 (Builtin.append_ #[t,t] ty #[v,.slice none 0 c]).run P w=.ok v w:=by
 rcases hown.2 with ⟨rfl,rfl⟩|⟨g,cap,cur,rfl,hbg,hg,hnc,hcm,hcs,htk⟩
 ·simp [Builtin.append_,run_underlying ht,sizeOf,typeInfo,hi,Builtin.lenOf,Builtin.firstCells]
 ·simp [Builtin.append_,run_underlying ht,sizeOf,typeInfo,hi,Builtin.lenOf,Builtin.firstCells,hnc,storeCells]
theorem run_append_so {P:Program} {S E:TypeId} (e:El α) (t:ElT P S E e.size) (w:World) (base:Nat) (v:Value) (K:Nat→Prop) (xs ys:List α) (A:Option Addr) (c:Nat) (ty:TypeId) (h:SO e w base E v K xs)
 (more:List (List Value)) (hm:RR w A c e.size more) (hr:Rel e w (avO v K) ys more) (hlen:xs.length+ys.length≤1000000) (hbase:base≤w.heap.size) :
 ∃ v' w',(Builtin.append_ #[S,S] ty #[v,.slice A ys.length c]).run P w=.ok v' w'∧SO e w' base E v' K (xs++ys)∧w.grownBy w' v.ownBlock∧(v'.ownBlock=v.ownBlock∨v'.ownBlock=some w.heap.size)∧(ys≠[]→v'≠.slice none 0 0):=by
 obtain ⟨rows,h1,h2,h3⟩:=h
 obtain ⟨i,z,hi,hz,hs,hby,hzs,hzn⟩:=t.inf
 have flen:=flat_len hr.len
 have hml:=hr.1
 have hbb:(rows.length+more.length) * i.bytes≤140737488355328:=by
  have:(rows.length+more.length) * i.bytes≤1000000 * 1000:=Nat.mul_le_mul (by rw [h2.1,hr.1];exact hlen) hby
  omega
 rw [←hml]
 have back:∀ (w':World) (v':Value),w.grownBy w' v.ownBlock→(v'.ownBlock=v.ownBlock∨v'.ownBlock=some w.heap.size)→Rel e w' (avO v' K) (xs++ys) (rows++more):=fun w' v' hg ho=>by
  have hc:Ch (fun b=>avO v K b∨w.heap.size≤b) w w':=Ch.of_grown hg (fun j hj=>⟨.inl (.inl hj),h3 j hj⟩)
  refine ((h2.app hr).map fun x r hx=>e.ch (e.fresh hx) hc).map fun x r hx=>e.mono hx fun b hb=>?_
  rcases hb with hb|hb
  ·rcases ho with ho|ho
   ·rw [ho] at hb;exact .inl (.inl hb)
   ·rw [ho] at hb
    have e3:=Option.some.inj hb
    exact .inr (by omega)
  ·exact .inl (.inr hb)
 have hone:=hr.one
 have hnsr:=hr.ns
 have fin:∀ (a:Addr),A=some a→(∀ (j:Nat) (u:Value),more.flatten[j]? = some u→w.cell? (a.add j)=some u) →
  ∃ v' w',(Builtin.append_ #[S,S] ty #[v,.slice A more.length c]).run P w=.ok v' w'∧SO e w' base E v' K (xs++ys)∧w.grownBy w' v.ownBlock∧(v'.ownBlock=v.ownBlock∨v'.ownBlock=some w.heap.size)∧(ys≠[]→v'≠.slice none 0 0):=fun a ha hc=>by
  subst ha
  obtain ⟨v',w',hrun,k3,k4,k5,k6,k7⟩:=run_append_ns (P:=P) t.hu hi hz hs rfl hzs e.pos hzn w base rows.length v rows.flatten ty h1.1 h3 a more.length c more.flatten flen hc
   (fun u hu=>by obtain ⟨r,hr,hur⟩:=List.mem_flatten.1 hu;exact hone r hr u hur) (fun u hu=>by obtain ⟨r,hr,hur⟩:=List.mem_flatten.1 hu;exact hnsr r hr u hur) (by simp only [maxLen];rw [h2.1,hr.1];omega) hbb hbase
  refine ⟨v',w',hrun,⟨rows++more,⟨?_,fun q hq=>?_⟩,back w' v' k4 k5,k6⟩,k4,k5,fun hy e3=>?_⟩
  ·rw [List.length_append,List.flatten_append]
   exact k3
  ·rcases List.mem_append.1 hq with hq|hq
   ·exact h1.2 q hq
   ·exact hr.len q hq
  ·have:=(k7.1 e3).2
   rw [hr.1] at this
   exact hy (List.eq_nil_of_length_eq_zero this)
 by_cases h0:0<more.length
 ·obtain ⟨b,o,rfl,hlt,hc⟩:=hm.2.2 h0
  refine fin ⟨b,o,none⟩ rfl (fun j u hj=>?_)
  obtain ⟨r,hr1,hur⟩:=flat_of e.pos hr.len j u hj
  have:=hc _ r hr1 _ u hur
  rw [add_plain]
  have e1:j / e.size * e.size+j % e.size=j:=by rw [Nat.mul_comm];exact Nat.div_add_mod j e.size
  rw [Nat.add_assoc,e1] at this
  exact this
 ·have hnil:more=[]:=List.eq_nil_of_length_eq_zero (by omega)
  subst hnil
  have hy:ys=[]:=List.eq_nil_of_length_eq_zero (by rw [←hml];rfl)
  subst hy
  cases A with
  | some a=>exact fin a rfl (fun j u hj=>by simp at hj)
  | none =>
   refine ⟨v,w,run_append_noneC (P:=P) (w:=w) base S ty E i e.size t.hu hi v rows.length rows.flatten h1.1 c,by rw [List.append_nil];exact ⟨rows,h1,h2,h3⟩,World.grownBy.refl _ _,.inl rfl,fun hy=>absurd rfl hy⟩
theorem wp_append_so {P:Program} {S E:TypeId} (e:El α) (t:ElT P S E e.size) {w:World} {o:Oper} {a:Act} {K:Act→World→Prop} {Q:Exit→Act→World→Prop} (s x:Operand)
 (ho:o.op=.call { callee:=.builtin .append,args:=#[s,x],argTypes:=#[S,S] })
 (base:Nat) (v:Value) (L:Nat→Prop) (xs ys:List α) (A:Option Addr) (n c:Nat) (hnl:n=ys.length) (hs':a.eval s=v) (hx:a.eval x=.slice A n c) (h:SO e w base E v L xs)
 (more:List (List Value)) (hm:RR w A c e.size more) (hr:Rel e w (avO v L) ys more) (hlen:xs.length+ys.length≤1000000) (hbase:base≤w.heap.size)
 (hK:∀ v' w',SO e w' base E v' L (xs++ys)→w.grownBy w' v.ownBlock→(v'.ownBlock=v.ownBlock∨v'.ownBlock=some w.heap.size)→K (a.put o.dst v') w'):o.wp P a w K Q:=by
 subst hnl
 obtain ⟨v',w',hrun,h2,h3,h4,_⟩:=run_append_so e t w base v L xs ys A c o.type h more hm hr hlen hbase
 unfold Oper.wp execOp
 simp only [ho,resolve,invoke,builtin,Sem.run_bind,Sem.run_pure,Result.andThen_ok,List.map_toArray,List.map_cons,List.map_nil,hs',hx,hrun]
 exact hK v' w' h2 h3 h4
theorem wp_append_so1 {P:Program} {S E:TypeId} (e:El α) (t:ElT P S E e.size) {w:World} {o:Oper} {a:Act} {K:Act→World→Prop} {Q:Exit→Act→World→Prop} (s x:Operand)
 (ho:o.op=.call { callee:=.builtin .append,args:=#[s,x],argTypes:=#[S,S] })
 (base:Nat) (v:Value) (L:Nat→Prop) (xs:List α) (y:α) (r:List Value) (b c:Nat) (hs':a.eval s=v) (hx:a.eval x=.slice (some ⟨b,0,none⟩) 1 c) (h:SO e w base E v L xs)
 (hr:e.R w (avO v L) y r) (hcells:∀ (i:Nat) (u:Value),r[i]? = some u→w.cell? ⟨b,i,none⟩=some u) (hb:b<w.heap.size) (hc1:1≤c) (hc2:c≤9223372036854775807) (hlen:xs.length+1≤1000000) (hbase:base≤w.heap.size)
 (hK:∀ v' w',SO e w' base E v' L (xs++[y])→w.grownBy w' v.ownBlock→(v'.ownBlock=v.ownBlock∨v'.ownBlock=some w.heap.size)→K (a.put o.dst v') w'):o.wp P a w K Q :=
 wp_append_so e t s x ho base v L xs [y] (some ⟨b,0,none⟩) 1 c rfl hs' hx h [r] ⟨hc1,hc2,fun _=>⟨b,0,rfl,hb,fun j q hj i u hu=>by
  cases j with
  | zero =>
   cases hj
   simpa using hcells i u hu
  | succ j=>simp at hj⟩⟩ (Rel.single hr) hlen hbase hK
theorem wpList_append_so1 {P:Program} {S E:TypeId} (e:El α) (t:ElT P S E e.size) {w:World} {ops:Array Oper} {rest:List Oper} {o:Oper} {a:Act} {Q:Exit→Act→World→Prop} (hgd:o.guard=none) (s x:Operand)
 (ho:o.op=.call { callee:=.builtin .append,args:=#[s,x],argTypes:=#[S,S] })
 (base:Nat) (v:Value) (L:Nat→Prop) (xs:List α) (y:α) (r:List Value) (b c:Nat) (hs':a.eval s=v) (hx:a.eval x=.slice (some ⟨b,0,none⟩) 1 c) (h:SO e w base E v L xs)
 (hr:e.R w (avO v L) y r) (hcells:∀ (i:Nat) (u:Value),r[i]? = some u→w.cell? ⟨b,i,none⟩=some u) (hb:b<w.heap.size) (hc1:1≤c) (hc2:c≤9223372036854775807) (hlen:xs.length+1≤1000000) (hbase:base≤w.heap.size)
 (hK:∀ v' w',SO e w' base E v' L (xs++[y])→w.grownBy w' v.ownBlock→(v'.ownBlock=v.ownBlock∨v'.ownBlock=some w.heap.size)→wpList P ops Q rest (a.put o.dst v') w'):wpList P ops Q (o::rest) a w :=
 wpList_plain hgd fun _ hK'=>wp_append_so1 e t s x ho base v L xs y r b c hs' hx h hr hcells hb hc1 hc2 hlen hbase fun v' w' h2 h3 h4=>hK' _ _ (hK v' w' h2 h3 h4)
theorem wpList_append_so {P:Program} {S E:TypeId} (e:El α) (t:ElT P S E e.size) {w:World} {ops:Array Oper} {rest:List Oper} {o:Oper} {a:Act} {Q:Exit→Act→World→Prop} (hgd:o.guard=none) (s x:Operand)
 (ho:o.op=.call { callee:=.builtin .append,args:=#[s,x],argTypes:=#[S,S] })
 (base:Nat) (v:Value) (L:Nat→Prop) (xs ys:List α) (A:Option Addr) (n c:Nat) (hnl:n=ys.length) (hs':a.eval s=v) (hx:a.eval x=.slice A n c) (h:SO e w base E v L xs)
 (more:List (List Value)) (hm:RR w A c e.size more) (hr:Rel e w (avO v L) ys more) (hlen:xs.length+ys.length≤1000000) (hbase:base≤w.heap.size)
 (hK:∀ v' w',SO e w' base E v' L (xs++ys)→w.grownBy w' v.ownBlock→(v'.ownBlock=v.ownBlock∨v'.ownBlock=some w.heap.size)→wpList P ops Q rest (a.put o.dst v') w'):wpList P ops Q (o::rest) a w :=
 wpList_plain hgd fun _ hK'=>wp_append_so e t s x ho base v L xs ys A n c hnl hs' hx h more hm hr hlen hbase fun v' w' h2 h3 h4=>hK' _ _ (hK v' w' h2 h3 h4)
def elP:El Pn where
 size:=2
 pos:=by decide
 R w _ p r:=∃ C n,r=[.slice C p.1.length n,.bool p.2]∧RT w C n p.1
 len h:=by obtain ⟨C,n,rfl,_⟩:=h;rfl
 one h u hu:=by
  obtain ⟨C,n,rfl,_⟩:=h
  simp only [List.mem_cons,List.not_mem_nil,or_false] at hu
  rcases hu with rfl|rfl<;>rfl
 ns h u hu:=by
  obtain ⟨C,n,rfl,_⟩:=h
  simp only [List.mem_cons,List.not_mem_nil,or_false] at hu
  rcases hu with rfl|rfl<;>(intro x e;cases e)
 below h hb:=by obtain ⟨C,n,e,h⟩:=h;exact ⟨C,n,e,h.below hb⟩
 ch h hc:=by obtain ⟨C,n,e,h⟩:=h;exact ⟨C,n,e,h.ch hc⟩
 fresh h:=h
 mono h _:=h
theorem SV.bt {w:World} {A:Option Addr} {c:Nat} {ps:List Pn} {K:Nat→Prop} (h:SV elP w K A c ps):BT w A c ps:=by
 refine ⟨h.lenc,h.capc,fun h0=>?_⟩
 obtain ⟨b,o,_,e,hlt,_⟩:=h.at_ (gE h0)
 refine ⟨b,o,e,hlt,fun j p hj=>?_⟩
 obtain ⟨b',o',r,e',_,hc,C,n,rfl,hr⟩:=h.at_ hj
 rw [e] at e'
 cases e'
 exact ⟨C,n,hc 0 _ rfl,hc 1 _ rfl,hr⟩
theorem list_ofR {α:Type} (n:Nat) (P:Nat→α→Prop) (h:∀ j,j<n→∃ a,P j a):∃ l:List α,l.length=n∧∀ j a,l[j]? = some a→P j a:=by
 induction n with
 | zero=>exact ⟨[],rfl,fun j a h=>by simp at h⟩
 | succ n ih =>
  obtain ⟨l,hl,hP⟩:=ih (fun j hj=>h j (by omega))
  obtain ⟨a,ha⟩:=h n (by omega)
  refine ⟨l++[a],by simp [hl],fun j b hb=>?_⟩
  rcases Nat.lt_or_ge j l.length with hlt|hge
  ·rw [List.getElem?_append_left hlt] at hb
   exact hP j b hb
  ·rw [List.getElem?_append_right hge] at hb
   have hj:j-l.length=0:=by
    rcases Nat.eq_zero_or_pos (j-l.length) with e|e
    ·exact e
    ·rw [List.getElem?_eq_none (by simp;omega)] at hb;cases hb
   rw [hj] at hb
   have e1:a=b:=by simpa using hb
   have e2:j=n:=by omega
   rw [e2,← e1]
   exact ha
theorem SV.of {e:El α} {w:World} {K:Nat→Prop} {A:Option Addr} {c:Nat} {xs:List α} (h1:xs.length≤c) (h2:c≤9223372036854775807)
 (h:0<xs.length→∃ b o,A=some ⟨b,o,none⟩∧b<w.heap.size∧∀ j x,xs[j]? = some x→∃ r,e.R w K x r∧∀ (i:Nat) (u:Value),r[i]? = some u→w.cell? ⟨b,o+j * e.size+i,none⟩=some u) (hk:0<xs.length→∀ a,A=some a→¬ K a.block):SV e w K A c xs:=by
 by_cases h0:0<xs.length
 ·obtain ⟨b,o,ea,hlt,hc⟩:=h h0
  obtain ⟨rows,hl,hP⟩:=list_ofR xs.length (fun j r=>∃ x,xs[j]? = some x∧e.R w K x r∧∀ (i:Nat) (u:Value),r[i]? = some u→w.cell? ⟨b,o+j * e.size+i,none⟩=some u) (fun j hj=>by
   obtain ⟨r,hr,hh⟩:=hc j _ (gE hj)
   exact ⟨r,_,gE hj,hr,hh⟩)
  refine ⟨rows,⟨by rw [hl];exact h1,h2,fun _=>⟨b,o,ea,hlt,fun j r hj i u hu=>?_⟩⟩,⟨hl,fun j x r hx hr=>?_⟩,hk⟩
  ·obtain ⟨x,_,_,hh⟩:=hP j r hj
   exact hh i u hu
  ·obtain ⟨y,hy,hh,_⟩:=hP j r hr
   rw [hx] at hy
   cases hy
   exact hh
 ·have:xs=[]:=List.eq_nil_of_length_eq_zero (by omega)
  subst this
  exact SV.nil e w K A c h2
theorem BT.sv {w:World} {A:Option Addr} {c:Nat} {ps:List Pn} {K:Nat→Prop} (h:BT w A c ps) (hk:0<ps.length→∀ a,A=some a→¬ K a.block):SV elP w K A c ps :=
 SV.of h.1 h.2.1 (fun h0=>by
  obtain ⟨b,o,e,hlt,hc⟩:=h.2.2 h0
  refine ⟨b,o,e,hlt,fun j p hj=>?_⟩
  obtain ⟨C,n,h1,h2,h3⟩:=hc j p hj
  exact ⟨_,⟨C,n,rfl,h3⟩,fun i u hu=>by
   match i,hu with
   | 0,hu=>cases hu;exact h1
   | 1,hu=>cases hu;exact h2
   | i+2,hu=>simp at hu⟩) hk
theorem elPT:ElT Tryz.prog 46 45 2:=⟨Tryz.underlying46,by
 have h:(Tryz.prog.info? 45).map (fun i=>(i.zero,i.size,i.bytes))=some (some (.agg #[.slice none 0 0,.bool false]),2,32):=by kernel_rfl
 obtain ⟨i0,hi,hz,hs,hb⟩:=info_parts h
 refine ⟨i0,_,hi,hz,hs,by omega,rfl,fun u hu=>?_⟩
 simp only [Value.cells,List.mem_cons,List.not_mem_nil,or_false] at hu
 rcases hu with rfl|rfl<;>(intro x e;cases e)⟩
end Go.Proofs.YtelkmeiepliecaaGreatDoor
