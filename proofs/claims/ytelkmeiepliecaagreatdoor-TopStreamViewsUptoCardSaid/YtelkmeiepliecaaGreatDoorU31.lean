/-
  Part 31 of the proof.
-/
import Derived.Test.YtelkmeiepliecaaGreatDoorU30
import Derived.Deep.LoopGhost
import Derived.Maps.OwnSet
import Derived.DeepKeys4
import Derived.Carry
set_option linter.unusedSimpArgs false
set_option linter.unusedVariables false
set_option maxHeartbeats 16000000
namespace Go.Proofs.YtelkmeiepliecaaGreatDoor
open Go.RowKit
open Pm
theorem app_size (a b:ByteArray):(a++b).size=a.size+b.size:=by
 rw [Lib.size_eq,Lib.size_eq,Lib.size_eq,app_data,List.length_append]
open Go.RowKit
open Pm
def RetPO (w:World) (xs:List ByteArray) (r:Bool) (e:Ending) (w':World):Prop :=
 ∃ g d base,e=.returned (.agg #[.slice (some ⟨g,0,none⟩) xs.length d,.bool r])∧(w.heap.size≤base∧OT w' base (.slice (some ⟨g,0,none⟩) xs.length d) xs)∧Below w.heap.size w w'
theorem OT.box {w:World} {base:Nat} {v:Value} {xs:List ByteArray} (h:OT w base v xs) {g:Nat} (hg:g<base) (a b:Value):OT ((w.setCell ⟨g,0,none⟩ a).setCell ⟨g,1,none⟩ b) base v xs :=
 (h.other (p:=⟨g,0,none⟩) hg a).other (p:=⟨g,1,none⟩) hg b
theorem pcopy_own (A:Option Addr) (c:Nat) (xs:List ByteArray) (r:Bool) (w:World) (h:RT w A c xs) (h0:0<xs.length) (hl:xs.length≤100000) :
 Calls Tryz.prog 54 #[.agg #[.slice A xs.length c,.bool r]] w (RetPO w xs r):=by
 have HI:=PV.enter h r 45
 have HCL:Hid (∀ w',At (PV w A c xs r) w'→Calls Tryz.prog 85 #[.slice A xs.length c] w' fun e w''=>∃ g d base,e=.returned (.slice (some ⟨g,0,none⟩) xs.length d)∧(w.heap.size+1<base∧OT w'' base (.slice (some ⟨g,0,none⟩) xs.length d) xs)∧Below w'.heap.size w' w''):=lh (fun w' h =>
  (clone_any A c xs w' (PV.x h) h0 hl).mono fun e w'' ⟨g,d,a1,a2,a3⟩=>⟨g,d,_,a1,⟨(PV.res h).2.2.2.2,a2⟩,a3⟩)
 have h1:=h.1
 have h2:=h.2.1
 clear h
 have HR:=lh True.intro
 go_enter Tryz.func54,Tryz.ntmps54
 go_wp2_with fail
 go_region_held3 (fun w'=>w'.cell? ⟨w.heap.size,0,none⟩=some (.slice A xs.length c)∧w'.cell? ⟨w.heap.size,1,none⟩=some (.bool r))
  (first|(refine PV.cells (HI.go ?_)<;>(repeat (first|exact Below.refl _ _|apply Below.drew|apply below_drewN|apply below_al))<;>done)|go_keep)
  ((go_at_call 85;refine (HCL.out _ (HI.go bB)).mono ?_;rintro e w3 ⟨g,d,base,rfl,⟨hbs,ho⟩,hb⟩;replace HI:=HI.go2 bB hb;have HO:=lh ho;obtain ⟨q1,q2,q3,q4,q5⟩:=PV.res HI;obtain ⟨a1,a2⟩:=PV.cells HI;clear ho hb))
 all_goals go_wp2_with fail
 all_goals
  refine bodyPost_ret (v:=.agg #[.slice (some ⟨g,0,none⟩) xs.length d,.bool r]) (by simp [results,Tryz.results54,go_sem,q1,q2,q3,q4]) rfl ⟨g,d,base,rfl,⟨by omega,HO.out.box hbs _ _⟩,below_box (PV.b HI) (by omega) _ _⟩
open Go.RowKit
open Pm
end Go.Proofs.YtelkmeiepliecaaGreatDoor
namespace Go.Proofs.YtelkmeiepliecaaGreatDoor
open Go.RowKit
open Pm
open Go.RowKit
open Pm
end Go.Proofs.YtelkmeiepliecaaGreatDoor
namespace Go.Proofs.YtelkmeiepliecaaGreatDoor
open Go.RowKit
open Pm
open Go.RowKit
open Pm
end Go.Proofs.YtelkmeiepliecaaGreatDoor
namespace Go.Proofs.YtelkmeiepliecaaGreatDoor
open Go.RowKit
def prI {α:Type} (a b:List α) (q:Nat):Option (α×α):=match a[q / b.length]?,b[q % b.length]? with
 | some e,some f=>some (e,f)
 | _,_=>none
theorem prI_some {α:Type} {a b:List α} {q:Nat} (h:q<a.length * b.length):∃ e f,a[q / b.length]? = some e∧b[q % b.length]? = some f∧prI a b q=some (e,f):=by
 have hb:0<b.length:=Nat.pos_of_ne_zero fun e=>by rw [e,Nat.mul_zero] at h;omega
 have h1:q / b.length<a.length:=(Nat.div_lt_iff_lt_mul hb).2 h
 have h2:q % b.length<b.length:=Nat.mod_lt _ hb
 refine ⟨a[q / b.length],b[q % b.length],gE h1,gE h2,?_⟩
 unfold prI
 rw [gE h1,gE h2]
def prC {α β:Type} (g:β→α→α→β) (a b:List α) (s:β) (qs:List Nat):β:=qs.foldl (fun s q=>match prI a b q with|some x=>g s x.1 x.2|none=>s) s
theorem prC_snoc {α β:Type} {g:β→α→α→β} {a b:List α} {s:β} {qs:List Nat} {q:Nat} {e f:α} (h:prI a b q=some (e,f)):prC g a b s (qs++[q])=g (prC g a b s qs) e f:=by
 unfold prC
 rw [List.foldl_append,List.foldl_cons,List.foldl_nil,h]
def prA {α:Type} (p:α→α→Bool) (a b:List α):Bool:=(List.range (a.length * b.length)).any fun q=>match prI a b q with|some x=>p x.1 x.2|none=>false
theorem prA_yes {α:Type} {p:α→α→Bool} {a b:List α} {q:Nat} {e f:α} (hq:q<a.length * b.length) (h:prI a b q=some (e,f)) (hp:p e f=true):prA p a b=true :=
 List.any_eq_true.2 ⟨q,List.mem_range.2 hq,by rw [h];exact hp⟩
theorem prA_no {α:Type} {p:α→α→Bool} {a b:List α} (h:∀ q e f,q<a.length * b.length→prI a b q=some (e,f)→p e f=false):prA p a b=false:=by
 unfold prA
 rw [List.any_eq_false]
 intro q hq
 obtain ⟨e,f,_,_,h1⟩:=prI_some (List.mem_range.1 hq)
 rw [h1]
 show ¬ p e f=true
 rw [h q e f (List.mem_range.1 hq) h1]
 decide
theorem prC_ind {α β:Type} {g:β→α→α→β} {a b:List α} {P:β→Prop} (hg:∀ s e f,P s→P (g s e f)):∀ (qs:List Nat) (s:β),P s→P (prC g a b s qs)
 | [],s,h=>h
 | q::qs,s,h=>by
  unfold prC
  rw [List.foldl_cons]
  refine prC_ind hg qs _ ?_
  split
  ·exact hg _ _ _ h
  ·exact h
def chO' (e f:En):Bool:=chO e.1.1 e.1.2 e.2.1.1 e.2.1.2 f.1.1 f.1.2 f.2.1.1 f.2.1.2
def chN (e f:En):Int:=chE e.1.1 e.1.2 e.2.1.1 e.2.1.2 f.1.1 f.1.2 f.2.1.1 f.2.1.2
def chPL (e f:En):Pn:=(chL e.1.1 e.1.2 e.2.1.1 e.2.1.2 f.1.1 f.1.2 f.2.1.1 f.2.1.2,chLr e.1.1 e.1.2 e.2.1.1 e.2.1.2 f.1.1 f.1.2 f.2.1.1 f.2.1.2)
def chPR (e f:En):Pn:=(chR e.1.1 e.1.2 e.2.1.1 e.2.1.2 f.1.1 f.1.2 f.2.1.1 f.2.1.2,chRr e.1.1 e.1.2 e.2.1.1 e.2.1.2 f.1.1 f.1.2 f.2.1.1 f.2.1.2)
def chH (e f:En):List Pn:=e.2.2++nrsR e.2.1 e.1 f.2.2
def cmpB (e f:En):Bool:=chN e f != 0 || (chO' e f&&(nrsE e.2.1 e.1 f.2.2 || rdE (chPL e f) (chH e f)))
def cmpS (s:List En×Bool) (e f:En):List En×Bool:=if chO' e f=true then putC s (chPL e f) (chPR e f) (chH e f) else s
def cmpC (a b:List En) (qs:List Nat):List En×Bool:=prC cmpS a b ([],false) qs
def cmpL (a b:List En):List En×Bool:=cmpC a b (List.range (a.length * b.length))
def cmpE (a b:List En):Int:=if chkMs [a,b]=0 then (if prA cmpB a b=true then 72 else if (cmpL a b).2=true then 72 else 0) else chkMs [a,b]
theorem cmpC_len (a b:List En) (qs:List Nat):(cmpC a b qs).1.length≤32:=prC_ind (P:=fun s:List En×Bool=>s.1.length≤32) (fun s e f h=>by
 unfold cmpS
 split
 ·exact putC_len h
 ·exact h) qs _ (Nat.zero_le _)
def r5 (e:En) (A:Option Addr) (c:Nat) (B:Option Addr) (d:Nat) (H:Option Addr) (h:Nat):R5:=⟨A,e.1.1.length,c,e.1.2,B,e.2.1.1.length,d,e.2.1.2,H,e.2.2.length,h⟩
theorem SV.r5 {w:World} {K:Nat→Prop} {A0:Option Addr} {c0:Nat} {m:List En} (h:SV elE w K A0 c0 m) (Safe:Nat→World→Prop) (hs:∀ b,(∃ cs T f,w.heap[b]? = some (.cells cs T f))→Safe b w) :
 ∃ r:Nat→R5,R5s Safe w A0 m.length r∧∀ j e,m[j]? = some e→∃ A c B d H n,r j=Go.Proofs.YtelkmeiepliecaaGreatDoor.r5 e A c B d H n∧EG w e A c B d H n:=by
 have key:∀ j,∃ x:R5,∀ e,m[j]? = some e→∃ b o A c B d H n,x=Go.Proofs.YtelkmeiepliecaaGreatDoor.r5 e A c B d H n∧A0=some ⟨b,o,none⟩∧Safe b w∧w.cell? ⟨b,o+j * 5,none⟩=some (.slice A e.1.1.length c)∧w.cell? ⟨b,o+j * 5+1,none⟩=some (.bool e.1.2)∧w.cell? ⟨b,o+j * 5+2,none⟩=some (.slice B e.2.1.1.length d)∧w.cell? ⟨b,o+j * 5+3,none⟩=some (.bool e.2.1.2)∧w.cell? ⟨b,o+j * 5+4,none⟩=some (.slice H e.2.2.length n)∧EG w e A c B d H n:=fun j=>by
  cases hj:m[j]? with
  | none=>exact ⟨⟨none,0,0,false,none,0,0,false,none,0,0⟩,fun e he=>by cases he⟩
  | some e =>
   obtain ⟨b,o,A,c,B,d,H,n,ea,k0,k1,k2,k3,k4,k5,_⟩:=h.en hj
   refine ⟨Go.Proofs.YtelkmeiepliecaaGreatDoor.r5 e A c B d H n,fun f hf=>?_⟩
   cases hf
   refine ⟨b,o,A,c,B,d,H,n,rfl,ea,hs b ?_,k0,k1,k2,k3,k4,k5⟩
   unfold World.cell? at k0
   cases hb:w.heap[b]? with
   | none=>rw [hb] at k0;cases k0
   | some ob =>
    rw [hb] at k0
    cases ob with
    | cells cs T f=>exact ⟨cs,T,f,rfl⟩
    | _=>cases k0
 refine ⟨fun j=>Classical.choose (key j),fun j hj=>?_,fun j e he=>?_⟩
 ·obtain ⟨b,o,A,c,B,d,H,n,e1,ea,hsf,k0,k1,k2,k3,k4,_⟩:=Classical.choose_spec (key j) _ (gE hj)
  refine ⟨b,o,ea,hsf,?_⟩
  dsimp only
  rw [e1]
  exact ⟨k0,k1,k2,k3,k4⟩
 ·obtain ⟨b,o,A,c,B,d,H,n,e1,_,_,_,_,_,_,_,k5⟩:=Classical.choose_spec (key j) e he
  exact ⟨A,c,B,d,H,n,e1,k5⟩
open Go.RowKit Go.WideShapes
def RH (v:Value):Option (DataW Value×List MemPlace):=some (.held v,[])
theorem grown_below {w w':World} (hb:Below w.heap.size w w'):w.grownBy w' none:=⟨hb.os,hb.tape,hb.output,hb.size,fun i hi _=>hb.block i hi⟩
theorem strKeyed:Maps.Keyed Tryz.prog 9:=Maps.string_keyed Tryz.underlying9
theorem keyOf_str {f:ByteArray} (h:f.size≤9223372036854775807):keyOf Tryz.prog 9 (.string f)=some (.string f.data.toList):=WideMaps.keyOf_string_mk Tryz.underlying9 h
theorem KS_inj {f g:ByteArray} (hf:f.size≤9223372036854775807) (hg:g.size≤9223372036854775807) (h:(Lit.string f.data.toList)=.string g.data.toList):f=g:=by
 have:=strKeyed.inj (keyOf_str hf) (h▸keyOf_str hg)
 simpa using this
theorem KS_key {f:ByteArray} (hf:f.size≤9223372036854775807):WideAt.IsKeyLit (.string f.data.toList):=strKeyed.key (keyOf_str hf)
def SPv (w:World) (b:Nat) (M:ByteArray→Option Value) (cnt:Nat):Prop :=
 ∃ (n:Nat) (D:DataW Value),w.ownsMap Tryz.prog 9 RH b n D∧n≤100000∧Maps.size D=cnt ∧
  ∀ f,f.size≤9223372036854775807→Maps.has D (Lit.string f.data.toList)=(M f).isSome∧∀ z,D.atKey (Lit.string f.data.toList) z=match M f with|some v=>.held v|none=>z
theorem SPv.grown {w w':World} {b:Nat} {M:ByteArray→Option Value} {cnt:Nat} {row:Option Nat} (h:SPv w b M cnt) (hg:w.grownBy w' row) (hne:some b≠row):SPv w' b M cnt:=by
 obtain ⟨n,D,h1,h2⟩:=h
 exact ⟨n,D,h1.kept hg hne,h2⟩
theorem SPv.lt {w:World} {b:Nat} {M:ByteArray→Option Value} {cnt:Nat} (h:SPv w b M cnt):b<w.heap.size:=by
 obtain ⟨n,D,h1,_⟩:=h
 exact h1.lt
theorem SPv.below {w w':World} {b:Nat} {M:ByteArray→Option Value} {cnt:Nat} (h:SPv w b M cnt) (hb:Below w.heap.size w w'):SPv w' b M cnt:=h.grown (grown_below hb) (by simp)
theorem SPv.made (w:World):SPv (w.alloc (.map #[] 0)) w.heap.size (fun _=>none) 0 :=
 ⟨0,.map [],World.ownsMap_made _ _ _ _,by omega,rfl,fun f hf=>⟨rfl,fun z=>rfl⟩⟩
section
variable {w:World} {ops:Array Oper} {rest:List Oper} {o:Oper} {a:Act} {Q:Exit→Act→World→Prop}
theorem SPv.put {e t:TypeId} {b:Nat} {M:ByteArray→Option Value} {cnt:Nat} (h:SPv w b M cnt) (ht:Tryz.prog.underlying t=some (.map 9 e)) {f:ByteArray} (hf:f.size≤9223372036854775807) (val:Value) (hn:cnt<1000) :
 ∃ w',(Instr.mapUpdate t (.map (some b)) (.string f) val).run Tryz.prog w=.ok () w'∧SPv w' b (fun g=>if g=f then some val else M g) (if (M f).isSome then cnt else cnt+1)∧w.grownBy w' (some b):=by
 obtain ⟨n,D,h1,h2,h3,h4⟩:=h
 obtain ⟨es,clock,hb,F,hs,hD⟩:=h1
 have hes:es.size≤1000:=by
  have:Maps.size D=es.size:=by rw [hD];simp [Maps.size,length_sorted]
  omega
 have h1':w.ownsMap Tryz.prog 9 RH b 1000 D:=⟨es,clock,hb,F,hes,hD⟩
 obtain ⟨w',hrun,hown,hg⟩:=h1'.update strKeyed ht (by simp [maxLen]) (keyOf_str hf) (show RH val=some (.held val,[]) from rfl)
 have hT:Maps.Tidy D:=h1'.tidy strKeyed
 refine ⟨w',hrun,⟨_,_,hown,by omega,?_,fun g hg'=>?_⟩,hg⟩
 ·rw [Maps.size_put hT,(h4 f hf).1,h3]
 ·by_cases e:g=f
  ·subst e
   dsimp only
   rw [if_pos rfl]
   exact ⟨by rw [Maps.has_put_same hT.isMap (KS_key hg')];rfl,fun z=>by rw [Maps.atKey_put_same hT.isMap (KS_key hg')]⟩
  ·dsimp only
   rw [if_neg e]
   have hne:Lit.string g.data.toList≠Lit.string f.data.toList:=fun h=>e (KS_inj hg' hf h)
   rw [Maps.has_put_other hne]
   refine ⟨(h4 g hg').1,fun z=>?_⟩
   rw [Maps.atKey_put_other hne]
   exact (h4 g hg').2 z
theorem SPv.look {e t:TypeId} {b:Nat} {M:ByteArray→Option Value} {cnt:Nat} (h:SPv w b M cnt) (ht:Tryz.prog.underlying t=some (.map 9 e)) {z:Value} (hz:(zeroValue e).run Tryz.prog w=.ok z w) {f:ByteArray} (hf:f.size≤9223372036854775807) :
 (Instr.lookup t (.map (some b)) (.string f) true).run Tryz.prog w=.ok (.tuple #[(M f).getD z,.bool (M f).isSome]) w:=by
 obtain ⟨n,D,h1,h2,h3,h4⟩:=h
 obtain ⟨v,ps,hrun,hv⟩:=h1.look_ok strKeyed ht hz (show RH z=some (.held z,[]) from rfl) (keyOf_str hf)
 rw [hrun,(h4 f hf).1]
 have hat:=(h4 f hf).2 (.held z)
 unfold RH at hv
 rw [hat] at hv
 have hv:=congrArg Prod.fst (Option.some.inj hv)
 cases hM:M f with
 | none=>rw [hM] at hv;simp only at hv;cases hv;rfl
 | some u=>rw [hM] at hv;simp only at hv;cases hv;rfl
theorem SPv.look0 {e t:TypeId} {b:Nat} {M:ByteArray→Option Value} {cnt:Nat} (h:SPv w b M cnt) (ht:Tryz.prog.underlying t=some (.map 9 e)) {z:Value} (hz:(zeroValue e).run Tryz.prog w=.ok z w) {f:ByteArray} (hf:f.size≤9223372036854775807) :
 (Instr.lookup t (.map (some b)) (.string f) false).run Tryz.prog w=.ok ((M f).getD z) w:=by
 obtain ⟨n,D,h1,h2,h3,h4⟩:=h
 obtain ⟨v,ps,hrun,hv⟩:=h1.lookup strKeyed ht hz (show RH z=some (.held z,[]) from rfl) (keyOf_str hf)
 rw [hrun]
 have hat:=(h4 f hf).2 (.held z)
 unfold RH at hv
 rw [hat] at hv
 have hv:=congrArg Prod.fst (Option.some.inj hv)
 cases hM:M f with
 | none=>rw [hM] at hv;simp only at hv;cases hv;rfl
 | some u=>rw [hM] at hv;simp only at hv;cases hv;rfl
end
def lnV (p:Ln) (B:Option Addr) (d:Nat) (A:Option Addr) (c:Nat):List Value:=[.int .i64 p.1,.slice B p.2.1.1.length d,.bool p.2.1.2,.slice A p.2.2.1.length c,.bool p.2.2.2]
theorem lnV_ns (p:Ln) (B:Option Addr) (d:Nat) (A:Option Addr) (c:Nat):∀ u∈lnV p B d A c,nsV u:=ns5 ns_int ns_slice ns_bool ns_slice ns_bool
def elL:El Ln where
 size:=5
 pos:=by decide
 R w K p r:=∃ B d A c,r=lnV p B d A c∧RT w B d p.2.1.1∧RT w A c p.2.2.1
 len k:=by obtain ⟨B,d,A,c,rfl,_⟩:=k;rfl
 one k u hu:=by
  obtain ⟨B,d,A,c,rfl,_⟩:=k
  simp only [lnV,List.mem_cons,List.not_mem_nil,or_false] at hu
  rcases hu with rfl|rfl|rfl|rfl|rfl<;>rfl
 ns k:=by obtain ⟨B,d,A,c,rfl,_⟩:=k;exact lnV_ns _ _ _ _ _
 below k hb:=by obtain ⟨B,d,A,c,e,k1,k2⟩:=k;exact ⟨B,d,A,c,e,k1.below hb,k2.below hb⟩
 ch k hc:=by obtain ⟨B,d,A,c,e,k1,k2⟩:=k;exact ⟨B,d,A,c,e,k1.ch hc,k2.ch hc⟩
 fresh k:=k
 mono k _:=k
theorem SV.ln {w:World} {K:Nat→Prop} {A0:Option Addr} {c0:Nat} {m:List Ln} (h:SV elL w K A0 c0 m) {j:Nat} {p:Ln} (hx:m[j]? = some p) :
 ∃ b o B d A c,A0=some ⟨b,o,none⟩∧b<w.heap.size∧w.cell? ⟨b,o+j * 5,none⟩=some (.int .i64 p.1)∧w.cell? ⟨b,o+j * 5+1,none⟩=some (.slice B p.2.1.1.length d)∧w.cell? ⟨b,o+j * 5+2,none⟩=some (.bool p.2.1.2)∧w.cell? ⟨b,o+j * 5+3,none⟩=some (.slice A p.2.2.1.length c)∧w.cell? ⟨b,o+j * 5+4,none⟩=some (.bool p.2.2.2)∧RT w B d p.2.1.1∧RT w A c p.2.2.1:=by
 obtain ⟨b,o,r,ea,hlt,hc,B,d,A,c,rfl,k1,k2⟩:=h.at_ hx
 exact ⟨b,o,B,d,A,c,ea,hlt,hc 0 _ rfl,hc 1 _ rfl,hc 2 _ rfl,hc 3 _ rfl,hc 4 _ rfl,k1,k2⟩
def STR (w:World) (A:Option Addr) (c:Nat) (l:List St):Prop :=
 l.length≤c∧c≤9223372036854775807∧(0<l.length→∃ b o,A=some ⟨b,o,none⟩∧b<w.heap.size∧∀ (j:Nat) (s:St),l[j]? = some s→∃ P n,w.cell? ⟨b,o+j * 3,none⟩=some (.string s.1)∧w.cell? ⟨b,o+j * 3+1,none⟩=some (.string s.2.1)∧w.cell? ⟨b,o+j * 3+2,none⟩=some (.slice P s.2.2.length n)∧SV elL w kN P n s.2.2)
theorem STR.below {w w':World} {A:Option Addr} {c:Nat} {l:List St} (h:STR w A c l) (hb:Below w.heap.size w w'):STR w' A c l :=
 ⟨h.1,h.2.1,fun h0=>by
  obtain ⟨b,o,e,hlt,hc⟩:=h.2.2 h0
  refine ⟨b,o,e,Nat.lt_of_lt_of_le hlt hb.size,fun j s hj=>?_⟩
  obtain ⟨P,n,k1,k2,k3,k4⟩:=hc j s hj
  exact ⟨P,n,(hb.cell (p:=⟨b,_,none⟩) hlt).trans k1,(hb.cell (p:=⟨b,_,none⟩) hlt).trans k2,(hb.cell (p:=⟨b,_,none⟩) hlt).trans k3,k4.below hb⟩⟩
theorem STR.at_ {w:World} {A:Option Addr} {c:Nat} {l:List St} (h:STR w A c l) {j:Nat} {s:St} (hx:l[j]? = some s) :
 ∃ b o P n,A=some ⟨b,o,none⟩∧b<w.heap.size∧w.cell? ⟨b,o+j * 3,none⟩=some (.string s.1)∧w.cell? ⟨b,o+j * 3+1,none⟩=some (.string s.2.1)∧w.cell? ⟨b,o+j * 3+2,none⟩=some (.slice P s.2.2.length n)∧SV elL w kN P n s.2.2:=by
 have hj:=(sI.1 hx).1
 obtain ⟨b,o,e,hlt,hc⟩:=h.2.2 (by omega)
 obtain ⟨P,n,k1,k2,k3,k4⟩:=hc j s hx
 exact ⟨b,o,P,n,e,hlt,k1,k2,k3,k4⟩
def idxV (l:List St) (s:ByteArray):Option Value:=(idxS l s).map fun j=>.int .i64 j
theorem zeroInt (w:World):(zeroValue 3).run Tryz.prog w=.ok (.int .i64 0) w:=by kernel_rfl
def FO (w:World) (g m:Nat) (A:Option Addr) (c:Nat) (l:List St):Prop:=BX w g [.slice A l.length c,.map (some m)]∧STR w A c l∧∃ cnt,SPv w m (idxV l) cnt
theorem FO.below {w w':World} {g m:Nat} {A:Option Addr} {c:Nat} {l:List St} (h:FO w g m A c l) (hb:Below w.heap.size w w'):FO w' g m A c l:=⟨h.1.below hb,h.2.1.below hb,h.2.2.imp fun _ h=>h.below hb⟩
theorem kept_fo (g m:Nat) (A:Option Addr) (c:Nat) (l:List St):Kept (fun w=>FO w g m A c l):=fun w w' h hb=>h.below hb
def LK (w:World) (m:Nat) (s:ByteArray) (o:Option Nat):Prop:=(Instr.lookup 64 (.map (some m)) (.string s) true).run Tryz.prog w=.ok (.tuple #[.int .i64 ((o.getD 0:Nat):Int),.bool o.isSome]) w ∧
 (Instr.lookup 64 (.map (some m)) (.string s) false).run Tryz.prog w=.ok (.int .i64 ((o.getD 0:Nat):Int)) w
theorem SPv.lk {w:World} {m:Nat} {l:List St} {cnt:Nat} (h:SPv w m (idxV l) cnt) {s:ByteArray} (hs:s.size≤9223372036854775807):LK w m s (idxS l s):=by
 have h1:=h.look Tryz.underlying64 (zeroInt w) hs
 have h2:=h.look0 Tryz.underlying64 (zeroInt w) hs
 unfold idxV at h1 h2
 unfold LK
 cases hi:idxS l s with
 | none=>rw [hi] at h1 h2;exact ⟨h1,h2⟩
 | some j=>rw [hi] at h1 h2;exact ⟨h1,h2⟩
theorem FO.lk {w:World} {g m:Nat} {A:Option Addr} {c:Nat} {l:List St} (h:FO w g m A c l) {s:ByteArray} (hs:s.size≤9223372036854775807):LK w m s (idxS l s):=by
 obtain ⟨cnt,h1⟩:=h.2.2
 exact h1.lk hs
theorem idxS_snoc {l:List St} {k:Nat} {t:St} (ht:l[k]? = some t) (s:ByteArray):idxS (l.take (k+1)) s=match idxS (l.take k) s with
 | some j=>some j
 | none=>if t.1=s then some k else none:=by
 have hk:=(sI.1 ht).1
 unfold idxS
 rw [List.take_add_one,ht,Option.toList_some,List.findIdx?_append]
 cases hi:List.findIdx? (fun t=>decide (t.1=s)) (l.take k) with
 | some j=>rfl
 | none =>
  simp only [Option.none_or,List.findIdx?_cons,List.findIdx?_nil,List.length_take]
  by_cases e:t.1=s
  ·simp [e,Nat.min_eq_left (Nat.le_of_lt hk)]
  ·simp [e]
open Pm
open Go.RowKit Go.WideShapes
theorem run_makeMapI (w:World):(Instr.makeMap 64 none).run Tryz.prog w=.ok (.map (some w.heap.size)) (w.alloc (.map #[] 0)):=by
 simp [Instr.makeMap,run_underlying Tryz.underlying64,Result.andThen]
def NmOk (l:List St):Prop:=∀ s∈l,s.1.size≤5000∧s.2.1.size≤5000
theorem NmOk.at_ {l:List St} (h:NmOk l) {i:Nat} {s:St} (hs:l[i]? = some s):s.1.size≤9223372036854775807∧s.2.1.size≤9223372036854775807:=by
 have:=h s (mG hs)
 omega
theorem idxV_old {l:List St} {k j:Nat} {t:St} (ht:l[k]? = some t) (h:idxS (l.take k) t.1=some j):idxV (l.take (k+1))=idxV (l.take k):=by
 funext x
 unfold idxV
 rw [idxS_snoc ht]
 cases hi:idxS (l.take k) x with
 | some i=>rfl
 | none =>
  by_cases e:t.1=x
  ·rw [←e,h] at hi;cases hi
  ·simp only [if_neg e]
theorem idxV_new {l:List St} {k:Nat} {t:St} (ht:l[k]? = some t) (h:idxS (l.take k) t.1=none):(fun g=>if g=t.1 then some (.int .i64 (k:Int)) else idxV (l.take k) g)=idxV (l.take (k+1)):=by
 funext x
 unfold idxV
 rw [idxS_snoc ht]
 by_cases e:x=t.1
 ·subst e
  rw [if_pos rfl,h]
  simp
 ·rw [if_neg e]
  cases hi:idxS (l.take k) x with
  | some i=>rfl
  | none=>simp [show ¬ t.1=x from fun h=>e h.symm]
theorem idxV_none {l:List St} {s:ByteArray} (h:idxS l s=none):(idxV l s).isSome=false:=by
 unfold idxV
 rw [h]
 rfl
set_option maxRecDepth 100000 in
theorem newForest_any (A:Option Addr) (c:Nat) (l:List St) (w:World) (h:STR w A c l) (hl:l.length≤100) (hn:NmOk l) :
 Calls Tryz.prog 50 #[.slice A l.length c] w fun e w'=>e=.returned (.pointer (some ⟨w.heap.size+1,0,none⟩))∧FO w' (w.heap.size+1) w.heap.size A c l∧Below w.heap.size w w':=by
 have q1:=h.1
 have q2:=h.2.1
 have HL:=lh h
 have HNM:=lh hn
 have hmm:=run_makeMapI
 clear h hn
 go_enter Tryz.func50,Tryz.ntmps50
 go_wp2_with fail
 clear hmm
 go_loopw [14] (fun s wr=>∃ k:Nat,k≤l.length∧s=.int .i64 k∧Hid (BX wr (w.heap.size+1) [.slice A l.length c,.map (some w.heap.size)]∧(∃ cnt,cnt≤k∧SPv wr w.heap.size (idxV (l.take k)) cnt)∧Below w.heap.size w wr)) (fun s _=>l.length-(intOf s).toNat)
 case atStart =>
  refine ⟨0,Nat.zero_le _,rfl,lh ⟨BX.new _ [_,_] _ (by simp),⟨0,Nat.le_refl _,(SPv.made w).below (ba _ _)⟩,bB⟩⟩
 case round =>
  obtain ⟨k,hk,rfl,HQ0⟩:=hrel
  by_cases hlt:k<l.length
  ·obtain ⟨s,hs⟩:∃ s,l[k]? = some s:=⟨_,gE hlt⟩
   obtain ⟨b,o,P,n,rfl,hbw,x0,x1,x2,-⟩:=(HL.out.below HQ0.out.2.2).at_ hs
   obtain ⟨cnt,hcnt,hsp⟩:=HQ0.out.2.1
   have hsz:=(HNM.out.at_ hs).1
   have hg1:=HQ0.out.1.2.2
   have hm1:=hsp.lt
   have hml:w.heap.size<wr.heap.size+1:=by omega
   have hgl:w.heap.size+1<wr.heap.size+1:=by omega
   have HQ:At (fun W=>BX W (w.heap.size+1) [.slice (some ⟨b,o,none⟩) l.length c,.map (some w.heap.size)]∧BX W wr.heap.size [.string s.1,.string s.2.1,.slice P s.2.2.length n]∧SPv W w.heap.size (idxV (l.take k)) cnt∧Below w.heap.size w W) (wr.alloc (.cells #[.string s.1,.string s.2.1,.slice P s.2.2.length n] 54)) :=
    ⟨fun X Y h hb=>⟨h.1.below hb,h.2.1.below hb,h.2.2.1.below hb,go3 h.2.2.2 hb⟩,HQ0.out.1.below (ba _ _),BX.new wr _ _ rfl,hsp.below (ba _ _),go3 HQ0.out.2.2 (ba _ _)⟩
   clear HQ0 hsp
   cases hi:idxS (l.take k) s.1 with
   | some j =>
    have HV:=lh (idxV_old hs hi)
    have HK:Hid (∀ W,(BX W (w.heap.size+1) [.slice (some ⟨b,o,none⟩) l.length c,.map (some w.heap.size)]∧BX W wr.heap.size [.string s.1,.string s.2.1,.slice P s.2.2.length n]∧SPv W w.heap.size (idxV (l.take k)) cnt∧Below w.heap.size w W)→W.cell? ⟨w.heap.size+1,1,none⟩=some (.map (some w.heap.size))∧W.cell? ⟨wr.heap.size,0,none⟩=some (.string s.1)∧(Instr.lookup 64 (.map (some w.heap.size)) (.string s.1) true).run Tryz.prog W=.ok (.tuple #[.int .i64 (j:Int),.bool true]) W):=lh (fun W h=>⟨h.1.c2.2,h.2.1.c3.1,by
     have:=(h.2.2.1.lk hsz).1
     rw [hi] at this
     exact this⟩)
    clear hs hi
    go_wp2_with fail
    go_region_held3 (fun W=>W.cell? ⟨w.heap.size+1,1,none⟩=some (.map (some w.heap.size))∧W.cell? ⟨wr.heap.size,0,none⟩=some (.string s.1)∧(Instr.lookup 64 (.map (some w.heap.size)) (.string s.1) true).run Tryz.prog W=.ok (.tuple #[.int .i64 (j:Int),.bool true]) W)
     (exact HK.out _ (HQ.go (by repeat (first|with_reducible exact Below.refl _ _|with_reducible apply Below.drew|with_reducible apply below_drewN|with_reducible apply below_al))).out) (fail)
    all_goals
     go_wp2_with fail
     go_roundw
     case rel=>exact ⟨k+1,by omega,by go_num,lh ⟨(HQ.go bB).out.1,⟨cnt,by omega,by rw [HV.out];exact (HQ.go bB).out.2.2.1⟩,(HQ.go bB).out.2.2.2⟩⟩
     case measure=>simp [intOf];omega
   | none =>
    have HV:=lh (idxV_new hs hi)
    have HN:=lh (idxV_none hi)
    have HK:Hid (∀ W,(BX W (w.heap.size+1) [.slice (some ⟨b,o,none⟩) l.length c,.map (some w.heap.size)]∧BX W wr.heap.size [.string s.1,.string s.2.1,.slice P s.2.2.length n]∧SPv W w.heap.size (idxV (l.take k)) cnt∧Below w.heap.size w W)→W.cell? ⟨w.heap.size+1,1,none⟩=some (.map (some w.heap.size))∧W.cell? ⟨wr.heap.size,0,none⟩=some (.string s.1)∧(Instr.lookup 64 (.map (some w.heap.size)) (.string s.1) true).run Tryz.prog W=.ok (.tuple #[.int .i64 0,.bool false]) W):=lh (fun W h=>⟨h.1.c2.2,h.2.1.c3.1,by
     have:=(h.2.2.1.lk hsz).1
     rw [hi] at this
     exact this⟩)
    clear hs hi
    go_wp2_with fail
    go_region_held3 (fun W=>W.cell? ⟨w.heap.size+1,1,none⟩=some (.map (some w.heap.size))∧W.cell? ⟨wr.heap.size,0,none⟩=some (.string s.1)∧(Instr.lookup 64 (.map (some w.heap.size)) (.string s.1) true).run Tryz.prog W=.ok (.tuple #[.int .i64 0,.bool false]) W)
     (exact HK.out _ (HQ.go (by repeat (first|with_reducible exact Below.refl _ _|with_reducible apply Below.drew|with_reducible apply below_drewN|with_reducible apply below_al))).out) (fail)
    go_wp2_with fail
    have hz:=HQ.out.2.1.2.2
    obtain ⟨y0,y1⟩:=HQ.out.1.c2
    obtain ⟨z0,-,-⟩:=HQ.out.2.1.c3
    have HQ2:=(HQ.go (show Below _ _ ((wr.alloc (.cells #[.string s.1,.string s.2.1,.slice P s.2.2.length n] 54)).drew.drew) from bB)).out
    obtain ⟨w5,hrun,hs5,hg5⟩:=HQ2.2.2.1.put Tryz.underlying64 hsz (.int .i64 (k:Int)) (by omega)
    have HS5:=lh hs5
    have HB5:=lh (HQ2.1.grown hg5 (fun e=>by have:=Option.some.inj e;omega))
    have HL5:=lh (HQ2.2.2.2.grown hg5 HQ2.2.2.2.size (fun j hj=>by have:=Option.some.inj hj;omega))
    clear hs5 hg5 HQ2
    go_region
    all_goals
     go_wp2_with fail
     go_roundw
     case rel =>
      have h5:=HS5.out
      rw [HV.out,HN.out] at h5
      exact ⟨k+1,by omega,by go_num,lh ⟨HB5.out,⟨cnt+1,by omega,h5⟩,HL5.out⟩⟩
     case measure=>simp [intOf];omega
  ·obtain rfl:k=l.length:=by omega
   have hq:=HQ0.out.2.1
   rw [List.take_length] at hq
   have HP:=lh hq
   clear hq
   go_wp2_with fail
   go_ret
   obtain ⟨cnt,_,hq⟩:=HP.out
   exact ⟨rfl,⟨HQ0.out.1,HL.out.below HQ0.out.2.2,cnt,hq⟩,HQ0.out.2.2⟩
end Go.Proofs.YtelkmeiepliecaaGreatDoor
