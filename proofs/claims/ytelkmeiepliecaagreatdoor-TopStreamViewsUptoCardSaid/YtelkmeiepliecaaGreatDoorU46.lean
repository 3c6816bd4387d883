/-
  Part 46 of the proof.
-/
import Derived.Test.YtelkmeiepliecaaGreatDoorU45
import Derived.Test.YtelkmeiepliecaaGreatDoorU44
import Derived.Sort.CutIn
set_option linter.unusedSimpArgs false
set_option linter.unusedVariables false
set_option maxHeartbeats 16000000
namespace Go.Proofs.YtelkmeiepliecaaGreatDoor
open Pm
open Go.RowKit Go.WideShapes
theorem anc_first {l:List St} (hg:GoodS l) {i:Nat} {L:List Nat} {p:Nat} (h:abvS l i=p::L) (hi:i<l.length):parS l i=some p∧∃ sp,l[p]? = some sp∧(namesS l (abvS l i))[0]? = some sp.1:=by
 have hn:∃ n,l.length=n+1:=⟨l.length-1,by omega⟩
 obtain ⟨n,hn⟩:=hn
 have e1:abvS l i=match parS l i with|some p=>p::abvF l n p|none=>[]:=by
  unfold abvS
  rw [hn]
  rfl
 have hp:parS l i=some p:=by
  cases hp:parS l i with
  | none=>rw [e1,hp] at h;cases h
  | some q =>
   rw [e1,hp] at h
   cases h
   rfl
 have hpl:=parS_lt hp
 refine ⟨hp,l[p],gE hpl,?_⟩
 rw [h]
 unfold namesS
 simp [gE hpl]
theorem find_of {l:List St} (hg:GoodS l) (hc:chkS l=0) {p:Nat} {sp:St} (h:l[p]? = some sp):findE l sp.1=0∧idxS l sp.1=some p:=by
 have h1:=(hg.nm p sp h).2
 refine ⟨?_,h1⟩
 unfold findE
 rw [if_pos hc,h1]
theorem viewT_ok {l:List St} {A:Option Addr} {c0:Nat} {name:ByteArray} {W:World} {i:Nat} {ps:List Pc} (h:STR W A c0 l) (hl:l.length≤100) (hz:SzS l) (hm:ML W) (hn:name.size≤9223372036854775807) (hf:findE l name=0) (hi:idxS l name=some i) (hv:vwF l l.length i=some ps) :
 Calls Tryz.prog 8 #[.slice A l.length c0,.string name] W fun e w'=>∃ B d,e=.returned (.tuple #[.slice B ps.length d,.int .i64 0])∧SV elE w' kN B d (ps.map entF)∧Below W.heap.size W w' :=
 (ViewS_any A c0 l name W h hl hz hm hn).mono fun e w' k=>k.1 ps (by unfold vewF;rw [if_pos hf,hi];dsimp only;rw [hv])
theorem viewT_no {l:List St} {A:Option Addr} {c0:Nat} {name:ByteArray} {W:World} {i:Nat} (h:STR W A c0 l) (hl:l.length≤100) (hz:SzS l) (hm:ML W) (hn:name.size≤9223372036854775807) (hf:findE l name=0) (hi:idxS l name=some i) (hv:vwF l l.length i=none) :
 Calls Tryz.prog 8 #[.slice A l.length c0,.string name] W fun e w'=>e=.returned (.tuple #[.slice none 0 0,.int .i64 80])∧Below W.heap.size W w' :=
 (ViewS_any A c0 l name W h hl hz hm hn).mono fun e w' k=>by
  have e1:vewF l name=(none,80):=by unfold vewF;rw [if_pos hf,hi];dsimp only;rw [hv]
  have:=k.2 (by rw [e1])
  rw [e1] at this
  exact this
theorem locT {l:List St} {A:Option Addr} {c0:Nat} {name c:ByteArray} {W:World} {i:Nat} (h:STR W A c0 l) (hl:l.length≤100) (hz:SzS l) (hm:ML W) (hn:name.size≤9223372036854775807) (hc:c.size≤1000) (hf:findE l name=0) (hi:idxS l name=some i) :
 Calls Tryz.prog 14 #[.slice A l.length c0,.string name,.string c] W fun e w'=>e=.returned (.tuple #[.int .i64 (locP l i c).1,.string (locP l i c).2,.int .i64 0])∧Below W.heap.size W w' :=
 (locate_any A c0 l name c W h hl hz hm hn hc).mono fun e w' k=>by
  have e1:locF l name c=((locP l i c).1,(locP l i c).2,0):=by
   unfold locF locP
   rw [if_pos hf,hi]
   dsimp only
   split<;>rfl
  have:=k
  unfold RetLc at this
  rw [e1] at this
  exact this
theorem ancT_some {l:List St} {A:Option Addr} {c0:Nat} {name:ByteArray} {W:World} {i:Nat} {pn:ByteArray} (h:STR W A c0 l) (hl:l.length≤100) (hz:SzS l) (hm:ML W) (hn:name.size≤9223372036854775807) (hf:findE l name=0) (hi:idxS l name=some i) (hp:(namesS l (abvS l i))[0]? = some pn) :
 Calls Tryz.prog 7 #[.slice A l.length c0,.string name] W fun e w'=>∃ b o n d,0<n∧n≤d∧d≤9223372036854775807∧e=.returned (.tuple #[.slice (some ⟨b,o,none⟩) n d,.int .i64 0])∧(w'.cell? ⟨b,o,none⟩=some (.string pn)∧b<w'.heap.size)∧Below W.heap.size W w' :=
 (ancestors_any A c0 l name W h hl hz hm hn).mono fun e w' k=>by
  obtain ⟨i',U,d,hi',rfl,hr,hb⟩:=k.1 hf
  rw [hi] at hi'
  cases hi'
  have h0:0<(namesS l (abvS l i)).length:=(sI.1 hp).1
  have hnl:(namesS l (abvS l i)).length=(abvS l i).length:=by unfold namesS;rw [List.length_map]
  obtain ⟨b,o,rfl,hlt,hc⟩:=hr.2.2 h0
  refine ⟨b,o,_,d,by omega,?_,hr.2.1,rfl,⟨?_,hlt⟩,hb⟩
  ·have:=hr.1;omega
  ·have:=hc 0 pn hp
   rw [Nat.add_zero] at this
   exact this
theorem ancT_nil {l:List St} {A:Option Addr} {c0:Nat} {name:ByteArray} {W:World} {i:Nat} (h:STR W A c0 l) (hl:l.length≤100) (hz:SzS l) (hm:ML W) (hn:name.size≤9223372036854775807) (hf:findE l name=0) (hi:idxS l name=some i) (hp:abvS l i=[]) :
 Calls Tryz.prog 7 #[.slice A l.length c0,.string name] W fun e w'=>∃ U d,e=.returned (.tuple #[.slice U 0 d,.int .i64 0])∧Below W.heap.size W w' :=
 (ancestors_any A c0 l name W h hl hz hm hn).mono fun e w' k=>by
  obtain ⟨i',U,d,hi',rfl,hr,hb⟩:=k.1 hf
  rw [hi] at hi'
  cases hi'
  rw [hp]
  exact ⟨U,d,rfl,hb⟩
theorem ancT_bad {l:List St} {A:Option Addr} {c0:Nat} {name:ByteArray} {W:World} (h:STR W A c0 l) (hl:l.length≤100) (hz:SzS l) (hm:ML W) (hn:name.size≤9223372036854775807) (hf:findE l name≠0) :
 Calls Tryz.prog 7 #[.slice A l.length c0,.string name] W fun e w'=>∃ n:Int,n≠0∧e=.returned (.tuple #[.slice none 0 0,.int .i64 n])∧Below W.heap.size W w' :=
 (ancestors_any A c0 l name W h hl hz hm hn).mono fun e w' k=>⟨_,hf,(k.2 hf).1,(k.2 hf).2⟩
open Go.RowKit Go.Shelf
attribute [local go_sem] Oper.semAt_some
theorem sv2 {w:World} {K:Nat→Prop} {A B:Option Addr} {c d:Nat} {m n:List En} {g:Nat} (h:SV elE w K A c m) (k:SV elE w K B d n) (hb:BX w g [.slice A m.length c,.slice B n.length d]) (hk:¬ K g) {e:Nat} (hd:2≤e) (hd2:e≤9223372036854775807):SV elM w K (some ⟨g,0,none⟩) e [m,n] :=
 ⟨[[.slice A m.length c],[.slice B n.length d]],RR.of_bx hb (fun r hr=>by
  rcases List.mem_cons.1 hr with rfl|hr
  ·rfl
  ·rw [List.mem_singleton.1 hr];rfl) hd hd2,(Rel.single (x:=m) (e:=elM) (w:=w) (K:=K) ⟨A,c,rfl,h⟩).app (Rel.single (x:=n) (e:=elM) (w:=w) (K:=K) ⟨B,d,rfl,k⟩),fun _ a ea=>by cases ea;exact hk⟩
theorem cells_of {W:World} {a:Addr} {u:Value} (h0:W.cell? a=some u):∃ cs T f,W.heap[a.block]? = some (.cells cs T f):=by
 unfold World.cell? at h0
 cases hh:W.heap[a.block]? with
 | none=>rw [hh] at h0;cases h0
 | some ob =>
  rw [hh] at h0
  cases ob with
  | cells cs T f=>exact ⟨cs,T,f,rfl⟩
  | _=>cases h0
def GB (s g:Nat) (cs:List Value) (V:World):Prop:=BX V g cs∧NSB V g∧s≤g
theorem GB.kept (s g:Nat) (cs:List Value):Kept (GB s g cs):=fun X Y h hb=>⟨h.1.below hb,h.2.1.below h.1.2.2 hb,h.2.2⟩
section
variable {P:Program} {ops:Array Oper} {Q:Exit→Act→World→Prop} {md:Region.Mode} {S:World→Prop}
theorem al_newH {s:Nat} {fuel:Nat} {listed:Array Bool} {a:Act} {V:World} {cs:List Value} {T:TypeId} (hn:∀ u∈cs,nsV u) (hs:s≤V.heap.size) (h:At (GB s V.heap.size cs) (V.alloc (.cells cs.toArray T))→wpAnyH P md ops Q S fuel listed a (V.alloc (.cells cs.toArray T))):wpAnyH P md ops Q S fuel listed a (V.alloc (.cells cs.toArray T)) :=
 h ⟨GB.kept _ _ _,BX.new V _ _ rfl,NSB.new V _ hn rfl,hs⟩
theorem al_newD {s:Nat} {fuel:Nat} {listed:Array Bool} {a:Act} {V:World} {cs:List Value} {T:TypeId} (hn:∀ u∈cs,nsV u) (hs:s≤V.heap.size) (h:At (GB s V.heap.size cs) (V.alloc (.cells cs.toArray T))→wpAnyH P md ops Q S fuel listed a (V.alloc (.cells cs.toArray T)).drew):wpAnyH P md ops Q S fuel listed a (V.alloc (.cells cs.toArray T)).drew :=
 h ⟨GB.kept _ _ _,BX.new V _ _ rfl,NSB.new V _ hn rfl,hs⟩
end
theorem R5s.imp {Safe Safe2:Nat→World→Prop} {W:World} {A:Option Addr} {n:Nat} {r:Nat→R5} (h:R5s Safe W A n r) (hk:∀ j,Safe j W→Safe2 j W):R5s Safe2 W A n r:=fun j hj=>by
 obtain ⟨b,o,e,hs,k⟩:=h j hj
 exact ⟨b,o,e,hk b hs,k⟩
theorem SV.r5w {w w2:World} {A0:Option Addr} {c0 g:Nat} {m:List En} (h:SV elE w kN A0 c0 m) (hb:Below w.heap.size w w2) (hg:w.heap.size≤g) (ho:∀ j,¬ ownG g w2 j) :
 ∃ r:Nat→R5,R5s (SafeC g) w2 A0 m.length r∧∀ j e,m[j]? = some e→∃ A c B d H n,r j=Go.Proofs.YtelkmeiepliecaaGreatDoor.r5 e A c B d H n∧EG w e A c B d H n:=by
 obtain ⟨r,h1,h2⟩:=h.r5 (fun b W=>b<w.heap.size∧∃ cs T f,W.heap[b]? = some (.cells cs T f)) (fun b hc=>by
  obtain ⟨cs,T,f,e⟩:=hc
  exact ⟨(Array.getElem?_eq_some_iff.1 e).1,cs,T,f,e⟩)
 refine ⟨r,(h1.keep (W':=w2) fun j hj=>⟨hb.block j hj.1,hj.1,?_⟩).imp fun j hj=>⟨hj.2,by have:=hj.1;omega,ho j⟩,h2⟩
 obtain ⟨cs,T,f,e⟩:=hj.2
 exact ⟨cs,T,f,(hb.block j hj.1).trans e⟩
theorem BNX.same {w w':World} {g:Nat} {cs:List Value} (h:BNX w g cs) (e:w'.heap[g]? = w.heap[g]?):BNX w' g cs:=⟨h.1.same e,h.2.same e⟩
open Pm
open Go.RowKit Go.WideShapes
theorem viewT_any {l:List St} {A:Option Addr} {c0:Nat} {name:ByteArray} {W:World} (h:STR W A c0 l) (hl:l.length≤100) (hz:SzS l) (hm:ML W) (hn:name.size≤9223372036854775807) :
 Calls Tryz.prog 8 #[.slice A l.length c0,.string name] W fun e w'=>∃ (B:Option Addr) (n d:Nat) (k:Int),e=.returned (.tuple #[.slice B n d,.int .i64 k])∧Below W.heap.size W w' :=
 (ViewS_any A c0 l name W h hl hz hm hn).mono fun e w' k=>by
  cases hv:(vewF l name).1 with
  | some ps =>
   obtain ⟨B,d,h1,_,h3⟩:=k.1 ps hv
   exact ⟨B,_,d,0,h1,h3⟩
  | none =>
   obtain ⟨h1,h3⟩:=k.2 hv
   exact ⟨none,0,0,_,h1,h3⟩
theorem invT_ok {m:List En} {A:Option Addr} {c:Nat} {W:World} (h:SV elE W kN A c m) (ok:okM m) (hm:ML W) (hi:invE m=0) :
 Calls Tryz.prog 11 #[.slice A m.length c] W fun e w'=>∃ B d,e=.returned (.tuple #[.slice B (invC m).1.length d,.int .i64 0])∧SV elE w' kN B d (invC m).1∧Below W.heap.size W w' :=
 (inverse_any m kN A c W h ok hm).mono fun e w' k=>by
  obtain ⟨B,d,h1,h2,_,h4⟩:=k.1 hi
  exact ⟨B,d,h1,h2.weak,h4⟩
theorem invT_any {m:List En} {A:Option Addr} {c:Nat} {W:World} (h:SV elE W kN A c m) (ok:okM m) (hm:ML W) :
 Calls Tryz.prog 11 #[.slice A m.length c] W fun e w'=>∃ (B:Option Addr) (n d:Nat),e=.returned (.tuple #[.slice B n d,.int .i64 (invE m)])∧Below W.heap.size W w' :=
 (inverse_any m kN A c W h ok hm).mono fun e w' k=>by
  by_cases hi:invE m=0
  ·obtain ⟨B,d,h1,h2,_,h4⟩:=k.1 hi
   rw [hi]
   exact ⟨B,_,d,h1,h4⟩
  ·exact ⟨none,0,0,(k.2 hi).1,(k.2 hi).2⟩
end Go.Proofs.YtelkmeiepliecaaGreatDoor
