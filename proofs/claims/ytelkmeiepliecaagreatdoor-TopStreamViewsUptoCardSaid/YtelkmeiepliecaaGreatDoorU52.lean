/-
  TopStreamViews holds for arguments whose bulk is at most 1048576: going from a client path through a stream's view to its storage, to the parent's storage and back ends at the same client path, exactly for the client paths that the stream shares.
-/
import Derived.Test.YtelkmeiepliecaaGreatDoorU51
import Derived.Deep.Slices
import Derived.Deep.Strs
import Derived.Lib.SmallJoins
import Derived.Test.YtelkmeiepliecaaGreatDoorCards
import Derived.Test.YtelkmeiepliecaaGreatDoorTie
set_option linter.unusedSimpArgs false
set_option linter.unusedVariables false
set_option maxHeartbeats 16000000
namespace Go.Proofs.YtelkmeiepliecaaGreatDoor
open Go.ChangeShapes Go.WideShapes Go.ChangeAt Go.RowKit
namespace bulks
theorem one_le {H:Type} (d:DataW H):1≤Rows.uptoBulk d:=by
 cases d with
 | lit l=>cases l<;>simp [Rows.uptoBulk]
 | nil=>simp [Rows.uptoBulk]
 | ptr d=>simp [Rows.uptoBulk]
 | slice elems spare=>simp [Rows.uptoBulk]
 | agg parts=>simp [Rows.uptoBulk]
 | iface t d=>simp [Rows.uptoBulk]
 | map entries=>simp [Rows.uptoBulk]
 | held h=>simp [Rows.uptoBulk]
theorem part_le {H:Type} {d:DataW H} {l:List (DataW H)} (h:d∈l):Rows.uptoBulk d≤Rows.uptoBulkAll l:=by
 induction l with
 | nil=>cases h
 | cons x r ih =>
  simp only [Rows.uptoBulkAll]
  cases List.mem_cons.1 h with
  | inl e=>subst e;omega
  | inr e=>have:=ih e;omega
theorem length_le {H:Type} (l:List (DataW H)):l.length≤Rows.uptoBulkAll l:=by
 induction l with
 | nil=>simp [Rows.uptoBulkAll]
 | cons x r ih=>have:=one_le x;simp only [Rows.uptoBulkAll,List.length_cons];omega
theorem slice_elems {H:Type} (elems spare:List (DataW H)):Rows.uptoBulkAll elems+1≤Rows.uptoBulk (.slice elems spare):=by
 simp only [Rows.uptoBulk]
 omega
theorem agg_part {H:Type} {d:DataW H} {l:List (DataW H)} (h:d∈l) {B:Nat} (hb:Rows.uptoBulk (.agg l)≤B):Rows.uptoBulk d≤B:=by
 have:=part_le h
 simp only [Rows.uptoBulk] at hb
 omega
theorem string_eq {H:Type} (bytes:List UInt8):Rows.uptoBulk (DataW.lit (H:=H) (.string bytes))=bytes.length+1:=by
 simp [Rows.uptoBulk]
end bulks
theorem listN_of {α:Type} (n:Nat) (Q:Nat→α→Prop) (h:∀ i,i<n→∃ x,Q i x):∃ xs:List α,xs.length=n∧∀ i x,xs[i]? = some x→Q i x:=list_ofR n Q h
theorem open_slice_bulk {α H:Type} {enc:TypeId×Value→H} {P:Program} {W:World} {base:Nat} {t e:TypeId} {u:Value} {fuel:Nat} {x:DataW H×List MemPlace} {size Bd:Nat} (rel:List Value→α→Prop) (Qw:α→Prop)
 (ht:P.underlying t=some (.slice e)) (ce:P.cellsOf e=size) (hsz:0<size)
 (hf:DataW.trod enc P W base (fun _=>true) true fuel t [u]=some x) (hlt:∀ y∈x.2,y.block<W.heap.size)
 (one:∀ (n:Nat) (cs:List Value) (y:DataW H×List MemPlace),DataW.trod enc P W base (fun _=>true) true n e cs=some y→cs.length=size→(∀ z∈y.2,z.block<W.heap.size) →
  ∃ a:α,rel cs a∧(Rows.uptoBulk y.1≤Bd→Qw a)) :
 ∃ (ms:List α) (A:Option Addr) (c:Nat),u=.slice A ms.length c∧ms.length≤c∧c≤9223372036854775807 ∧
  (0<ms.length→∃ b o,A=some ⟨b,o,none⟩∧b<W.heap.size∧∀ (j:Nat) (a:α),ms[j]? = some a→∃ cs,rel cs a∧∀ (i:Nat) (v:Value),cs[i]? = some v→W.cell? ⟨b,o+j * size+i,none⟩=some v) ∧
  (Rows.uptoBulk x.1≤Bd→ms.length≤Bd∧∀ a∈ms,Qw a):=by
 rcases Go.Deep.open_slice ht hf with ⟨hcs,_⟩|⟨a,l,c,m,n,D,Pl,hcs,hba,hl,hm,hmm,hx,hi⟩
 ·obtain rfl:u=.slice none 0 0:=by simpa using hcs
  exact ⟨[],none,0,rfl,Nat.le_refl _,by omega,fun h=>absurd h (Nat.lt_irrefl 0),fun _=>⟨by simp,fun a ha=>by cases ha⟩⟩
 ·obtain rfl:u=.slice (some a) l c:=by simpa using hcs
  have hlm:l≤m:=by rw [hmm];simp;omega
  obtain ⟨b,off,spot⟩:=a
  rw [ce] at hi
  have one':∀ i,i<l→∃ q:α,spot=none∧MemPlace.cell b (off+i * size)∈x.2∧(∃ cs,rel cs q∧∀ (j:Nat) (v:Value),cs[j]? = some v→W.cell? ⟨b,off+i * size+j,none⟩=some v)∧(Rows.uptoBulk (D i)≤Bd→Qw q):=by
   intro i hil
   have hspot:spot=none:=by
    obtain ⟨cs',hc,_⟩:=hi 0 (by omega)
    obtain ⟨_,hcl,hat⟩:=World.cells?_some hc
    simpa [Addr.add] using World.cell?_spot ((hat 0 (by omega)).trans (gE (by omega)))
   subst hspot
   obtain ⟨cs',hc,ht'⟩:=hi i (by omega)
   obtain ⟨_,hcl,hat⟩:=World.cells?_some hc
   have hin:∀ y∈Pl i,y∈x.2:=fun y hy=>by
    rw [hx]
    exact List.mem_append_right _ (List.mem_flatMap.2 ⟨i,List.mem_range.2 (by omega),hy⟩)
   obtain ⟨q,hq,hQ⟩:=one _ cs' (D i,Pl i) ht' (by rw [hcl]) (fun z hz=>hlt z (hin z hz))
   refine ⟨q,rfl,?_,⟨cs',hq,fun j v hj=>?_⟩,hQ⟩
   ·rw [hx,ce]
    refine List.mem_append_left _ (MemPlace.mem_row.2 ⟨i * size,?_,by simp [Addr.add]⟩)
    exact Nat.mul_lt_mul_of_pos_right (by omega) hsz
   ·have hjl:j<cs'.length:=(sI.1 hj).1
    have k0:=hat j (by omega)
    rw [add_plain,add_plain] at k0
    exact k0.trans hj
  obtain ⟨ms,hal,has⟩:=listN_of l _ one'
  refine ⟨ms,some ⟨b,off,spot⟩,c,by rw [hal],by omega,by simpa [maxLen] using hm,fun hn=>?_,fun hb=>?_⟩
  ·obtain ⟨q,hq⟩:∃ q,ms[0]? = some q:=⟨_,gE hn⟩
   obtain ⟨rfl,hin,_⟩:=has 0 q hq
   exact ⟨b,off,rfl,hlt _ hin,fun j a hj=>(has j a hj).2.2.1⟩
  ·rw [hx] at hb
   have h1:=Nat.le_trans (bulks.slice_elems ((List.range l).map D) _) hb
   refine ⟨?_,fun q hq=>?_⟩
   ·have:=bulks.length_le ((List.range l).map D)
    rw [List.length_map,List.length_range] at this
    omega
   ·obtain ⟨i,hq⟩:=List.getElem?_of_mem hq
    have hil:=(sI.1 hq).1
    refine (has i q hq).2.2.2 ?_
    have:=bulks.part_le (List.mem_map.2 ⟨i,List.mem_range.2 (by omega),rfl⟩:D i∈(List.range l).map D)
    omega
theorem fcInt:Tryz.prog.cellsOf 3=1:=by kernel_rfl
theorem fcStr:Tryz.prog.cellsOf 9=1:=by kernel_rfl
theorem fcBool:Tryz.prog.cellsOf 4=1:=by kernel_rfl
theorem fcSs:Tryz.prog.cellsOf 25=1:=by kernel_rfl
theorem fcPat:Tryz.prog.cellsOf 45=2:=by kernel_rfl
theorem fcSps:Tryz.prog.cellsOf 52=1:=by kernel_rfl
section
variable {H:Type} {enc:TypeId×Value→H} {W:World} {base:Nat}
def relP (W:World) (cs:List Value) (p:Pn):Prop:=∃ A c,cs=[.slice A p.1.length c,.bool p.2]∧RT W A c p.1
def bdP (p:Pn):Prop:=p.1.length≤1048576∧∀ x∈p.1,x.size≤1048576
set_option maxRecDepth 100000 in
theorem open_pat {m:Nat} {cs:List Value} {y:DataW H×List MemPlace} (h:DataW.trod enc Tryz.prog W base (fun _=>true) true m 45 cs=some y) (hl:cs.length=2) (hlt:∀ z∈y.2,z.block<W.heap.size) :
 ∃ p:Pn,relP W cs p∧(Rows.uptoBulk y.1≤1048576→bdP p):=by
 obtain ⟨xs,n,_,hx,_,hlen,hf⟩:=DataW.trod_struct Tryz.underlying45 h
 have hlen:xs.length=2:=hlen
 match xs,hlen,cs,hl with
 | [y0,y1],_,[u0,u1],_ =>
  have g0:=hf 0 _ rfl
  change DataW.trod enc Tryz.prog W base (fun _=>true) true n 25 (List.take (Tryz.prog.cellsOf 25) _)=_ at g0
  rw [fcSs] at g0
  have g0:DataW.trod enc Tryz.prog W base (fun _=>true) true n 25 [u0]=some y0:=g0
  have g1:=hf 1 _ rfl
  change DataW.trod enc Tryz.prog W base (fun _=>true) true n 4 (List.take (Tryz.prog.cellsOf 4) _)=_ at g1
  rw [fcBool] at g1
  have g1:DataW.trod enc Tryz.prog W base (fun _=>true) true n 4 [u1]=some y1:=g1
  obtain ⟨r,hs1,hy1⟩:=DataW.trod_bool Tryz.underlying4 g1
  obtain rfl:u1=.bool r:=by simpa using hs1
  obtain ⟨ms,A,c,rfl,e1,e2,e3,e4⟩:=open_slice_bulk (size:=1) (Bd:=1048576) (fun cs (x:ByteArray)=>cs=[.string x]) (fun x:ByteArray=>x.size≤1048576) Tryz.underlying25 (by kernel_rfl) (by decide) g0
   (fun z hz=>hlt z (by rw [hx];exact List.mem_flatMap.2 ⟨y0,by simp,hz⟩)) (fun k cs y hy hl _=>by
    match cs,hl with
    | [u],_ =>
     obtain ⟨s,hs,hy0,_⟩:=DataW.trod_string Tryz.underlying9 hy
     obtain rfl:u=.string s:=by simpa using hs
     refine ⟨s,rfl,fun hb=>?_⟩
     rw [hy0,bulks.string_eq,Array.length_toList] at hb
     have:s.data.size=s.size:=rfl
     omega)
  refine ⟨(ms,r),⟨A,c,rfl,e1,e2,fun h0=>?_⟩,fun hb=>?_⟩
  ·obtain ⟨b,o,e,hlt',hc⟩:=e3 h0
   refine ⟨b,o,e,hlt',fun j x hj=>?_⟩
   obtain ⟨cs,rfl,hcc⟩:=hc j x hj
   have:=hcc 0 _ rfl
   simpa using this
  ·rw [hx] at hb
   exact e4 (bulks.agg_part (by simp) hb)
def relL (W:World) (cs:List Value) (p:Ln):Prop:=elL.R W kN p cs
def bdL (p:Ln):Prop:=p.2.1.1.length≤1048576∧p.2.2.1.length≤1048576∧(∀ x∈p.2.1.1,x.size≤1048576)∧∀ x∈p.2.2.1,x.size≤1048576
set_option maxRecDepth 100000 in
theorem open_line {m:Nat} {cs:List Value} {y:DataW H×List MemPlace} (h:DataW.trod enc Tryz.prog W base (fun _=>true) true m 51 cs=some y) (hl:cs.length=5) (hlt:∀ z∈y.2,z.block<W.heap.size) :
 ∃ p:Ln,relL W cs p∧(Rows.uptoBulk y.1≤1048576→bdL p):=by
 obtain ⟨xs,n,_,hx,_,hlen,hf⟩:=DataW.trod_struct Tryz.underlying51 h
 have hlen:xs.length=3:=hlen
 match xs,hlen,cs,hl with
 | [y0,y1,y2],_,[u0,u1,u2,u3,u4],_ =>
  have g0:=hf 0 _ rfl
  change DataW.trod enc Tryz.prog W base (fun _=>true) true n 3 (List.take (Tryz.prog.cellsOf 3) _)=_ at g0
  rw [fcInt] at g0
  have g0:DataW.trod enc Tryz.prog W base (fun _=>true) true n 3 [u0]=some y0:=g0
  obtain ⟨a,hs0,hy0,_⟩:=DataW.trod_int Tryz.underlying3 g0
  obtain rfl:u0=.int .i64 a:=by simpa using hs0
  have g1:=hf 1 _ rfl
  change DataW.trod enc Tryz.prog W base (fun _=>true) true n 45 (List.take (Tryz.prog.cellsOf 45) _)=_ at g1
  rw [fcPat] at g1
  have g1:DataW.trod enc Tryz.prog W base (fun _=>true) true n 45 [u1,u2]=some y1:=g1
  have g2:=hf 2 _ rfl
  change DataW.trod enc Tryz.prog W base (fun _=>true) true n 45 (List.take (Tryz.prog.cellsOf 45) _)=_ at g2
  rw [fcPat] at g2
  have g2:DataW.trod enc Tryz.prog W base (fun _=>true) true n 45 [u3,u4]=some y2:=g2
  obtain ⟨p,⟨A,c,hp,rp⟩,bp⟩:=open_pat g1 rfl (fun z hz=>hlt z (by rw [hx];exact List.mem_flatMap.2 ⟨y1,by simp,hz⟩))
  obtain ⟨q,⟨B,d,hq,rq⟩,bq⟩:=open_pat g2 rfl (fun z hz=>hlt z (by rw [hx];exact List.mem_flatMap.2 ⟨y2,by simp,hz⟩))
  obtain ⟨rfl,rfl⟩:u1=.slice A p.1.length c∧u2=.bool p.2:=by simpa using hp
  obtain ⟨rfl,rfl⟩:u3=.slice B q.1.length d∧u4=.bool q.2:=by simpa using hq
  refine ⟨(a,p,q),⟨A,c,B,d,rfl,rp,rq⟩,fun hb=>?_⟩
  rw [hx] at hb
  have b1:=bp (bulks.agg_part (by simp) hb)
  have b2:=bq (bulks.agg_part (by simp) hb)
  exact ⟨b1.1,b2.1,b1.2,b2.2⟩
def relS (W:World) (cs:List Value) (s:St):Prop:=∃ P n,cs=[.string s.1,.string s.2.1,.slice P s.2.2.length n]∧SV elL W kN P n s.2.2
def bdS (s:St):Prop:=s.1.size≤1048576∧s.2.1.size≤1048576∧s.2.2.length≤1048576∧∀ p∈s.2.2,p.2.1.1.length≤1048576∧p.2.2.1.length≤1048576∧(∀ x∈p.2.1.1,x.size≤1048576)∧∀ x∈p.2.2.1,x.size≤1048576
set_option maxRecDepth 100000 in
theorem open_stream {m:Nat} {cs:List Value} {y:DataW H×List MemPlace} (h:DataW.trod enc Tryz.prog W base (fun _=>true) true m 54 cs=some y) (hl:cs.length=3) (hlt:∀ z∈y.2,z.block<W.heap.size) :
 ∃ s:St,relS W cs s∧(Rows.uptoBulk y.1≤1048576→bdS s):=by
 obtain ⟨xs,n,_,hx,_,hlen,hf⟩:=DataW.trod_struct Tryz.underlying54 h
 have hlen:xs.length=3:=hlen
 match xs,hlen,cs,hl with
 | [y0,y1,y2],_,[u0,u1,u2],_ =>
  have g0:=hf 0 _ rfl
  change DataW.trod enc Tryz.prog W base (fun _=>true) true n 9 (List.take (Tryz.prog.cellsOf 9) _)=_ at g0
  rw [fcStr] at g0
  have g0:DataW.trod enc Tryz.prog W base (fun _=>true) true n 9 [u0]=some y0:=g0
  obtain ⟨a,hs0,hy0,_⟩:=DataW.trod_string Tryz.underlying9 g0
  obtain rfl:u0=.string a:=by simpa using hs0
  have g1:=hf 1 _ rfl
  change DataW.trod enc Tryz.prog W base (fun _=>true) true n 9 (List.take (Tryz.prog.cellsOf 9) _)=_ at g1
  rw [fcStr] at g1
  have g1:DataW.trod enc Tryz.prog W base (fun _=>true) true n 9 [u1]=some y1:=g1
  obtain ⟨b,hs1,hy1,_⟩:=DataW.trod_string Tryz.underlying9 g1
  obtain rfl:u1=.string b:=by simpa using hs1
  have g2:=hf 2 _ rfl
  change DataW.trod enc Tryz.prog W base (fun _=>true) true n 52 (List.take (Tryz.prog.cellsOf 52) _)=_ at g2
  rw [fcSps] at g2
  have g2:DataW.trod enc Tryz.prog W base (fun _=>true) true n 52 [u2]=some y2:=g2
  obtain ⟨ps,P,c,rfl,e1,e2,e3,e4⟩:=open_slice_bulk (size:=5) (Bd:=1048576) (relL W) bdL Tryz.underlying52 (by kernel_rfl) (by decide) g2
   (fun z hz=>hlt z (by rw [hx];exact List.mem_flatMap.2 ⟨y2,by simp,hz⟩)) (fun k cs y hy hl hz=>open_line hy hl hz)
  refine ⟨(a,b,ps),⟨P,c,rfl,SV.of e1 e2 (fun h0=>?_) (fun _ _ _ h=>h)⟩,fun hb=>?_⟩
  ·obtain ⟨b',o,e,hlt',hc⟩:=e3 h0
   exact ⟨b',o,e,hlt',fun j x hj=>hc j x hj⟩
  ·rw [hx] at hb
   have b1:=bulks.agg_part (d:=y0.1) (by simp) hb
   have b2:=bulks.agg_part (d:=y1.1) (by simp) hb
   obtain ⟨b3,b4⟩:=e4 (bulks.agg_part (by simp) hb)
   rw [hy0,bulks.string_eq,Array.length_toList] at b1
   rw [hy1,bulks.string_eq,Array.length_toList] at b2
   have c1:a.data.size=a.size:=rfl
   have c2:b.data.size=b.size:=rfl
   exact ⟨by show a.size≤_;omega,by show b.size≤_;omega,b3,b4⟩
set_option maxRecDepth 100000 in
theorem open_streams {v:Value} {d:DataW H} {p:List MemPlace} {r:Reach} {b0:Nat} (hv:Value.okWide Tryz.prog W r b0 22 v)
 (h:DataW.Trod enc Tryz.prog W base (fun _=>true) true 22 v d p) (hlt:∀ x∈p,x.block<W.heap.size) :
 ∃ l:List St,∃ A c,v=.slice A l.length c∧STR W A c l∧(Rows.uptoBulk d≤1048576→StRd l):=by
 obtain ⟨a0,len,cap,rfl⟩:=okWide_slice Tryz.underlying22 hv
 obtain ⟨fuel,hf⟩:=h
 obtain ⟨l,A,c,hu,e1,e2,e3,e4⟩:=open_slice_bulk (u:=.slice a0 len cap) (size:=3) (Bd:=1048576) (relS W) bdS Tryz.underlying22 (by kernel_rfl) (by decide) hf hlt (fun k cs y hy hl hz=>open_stream hy hl hz)
 refine ⟨l,A,c,hu,⟨e1,e2,fun h0=>?_⟩,fun hb=>e4 hb⟩
 obtain ⟨b,o,e,hb,hc⟩:=e3 h0
 refine ⟨b,o,e,hb,fun j s hj=>?_⟩
 obtain ⟨cs,⟨P,n,rfl,hsv⟩,hcc⟩:=hc j s hj
 exact ⟨P,n,hcc 0 _ rfl,hcc 1 _ rfl,hcc 2 _ rfl,hsv⟩
end
end Go.Proofs.YtelkmeiepliecaaGreatDoor
namespace Go.Proofs.YtelkmeiepliecaaGreatDoor.topStreamViews
open Go.ChangeShapes Go.WideShapes Go.ChangeAt Go.RowKit
open Go.ChangeMaps (open_string shut_string)
set_option maxRecDepth 100000 in
theorem contract (H:Type) (enc:TypeId×Value→H) (W:World) (base:Nat) (args:Array Value) (ds gs:List (DataW H)) (before:List MemPlace)
 (hval:∀ (j:Nat) t v,Tryz.f3.params[j]? = some t→args[j]? = some v→Value.okWide Tryz.prog W .any base t v)
 (hW:DataW.Whole enc Tryz.prog Tryz.f3.params.toList Rows.topStreamViewsSpec.vars false W args.toList ds gs before) (hsh:W.ShapedOpen Tryz.prog) (hk:Rows.uptoSmall H (ds++gs)=true) :
 Calls Tryz.prog 3 args W fun e W'=>∃ v,e=.returned v∧Rows.topStreamViewsSpec.post enc Tryz.prog Tryz.f3 false true false false W args v W':=by
 have hW':=hW
 obtain ⟨p,q,hA0,hV,rfl,hfz,hnd⟩:=hW
 have hA:DataW.TrodAll enc Tryz.prog W 0 (fun _=>true) true Tryz.f3.params.toList args.toList ds p:=hA0
 rw [Tryz.params3] at hA hval
 obtain ⟨v0,vs0,d0,ds0,p0,q0,hargs,rfl,rfl,h0,r0⟩:=trodAll_cons hA
 obtain ⟨v1,vs1,d1,ds1,p1,q1,rfl,rfl,rfl,h1,r1⟩:=trodAll_cons r0
 obtain ⟨v2,vs2,d2,ds2,p2,q2,rfl,rfl,rfl,h2,r2⟩:=trodAll_cons r1
 obtain ⟨rfl,rfl,rfl⟩:=trodAll_nil r2
 obtain rfl:args=#[v0,v1,v2]:=by cases args;simp_all
 obtain ⟨rfl,rfl⟩:=trodVars_none hV
 have k0:=h0
 have lt0:∀ x∈p0,x.block<W.heap.size:=by obtain ⟨m,hm⟩:=k0;exact DataW.trod_lt m _ _ _ hm
 obtain ⟨l,A,c0,rfl,hst,hbd⟩:=open_streams (hval 0 22 v0 rfl rfl) h0 lt0
 have hB:Rows.uptoBulk d0≤1048576:=by
  have hb:=of_decide_eq_true hk
  simp only [Rows.uptoBulkAll,List.cons_append] at hb
  omega
 have k1:=h1
 have lt1:∀ x∈p1,x.block<W.heap.size:=by obtain ⟨m,hm⟩:=k1;exact DataW.trod_lt m _ _ _ hm
 obtain ⟨a1,rfl,rfl,rfl,w1⟩:=open_string Tryz.underlying9 (hval 1 9 v1 rfl rfl) h1
 have k2:=h2
 have lt2:∀ x∈p2,x.block<W.heap.size:=by obtain ⟨m,hm⟩:=k2;exact DataW.trod_lt m _ _ _ hm
 obtain ⟨a2,rfl,rfl,rfl,w2⟩:=open_string Tryz.underlying9 (hval 2 9 v2 rfl rfl) h2
 clear hA0
 refine (topStreamViews_any A c0 l a1 a2 W hst (hbd hB) w1 w2 hsh).mono fun e W' ⟨he,bel⟩=>?_
 subst he
 exact ⟨_,rfl,_,_,_,[],_,[],hW',trodAll_mk1 (shut_bool Tryz.underlying4 _),(trodAll_cons_mk (Below.trod laidOut (by kernel_rfl) (of_decide_eq_true (by kernel_rfl)) k0 bel lt0) (trodAll_cons_mk (Below.trod laidOut (by kernel_rfl) (of_decide_eq_true (by kernel_rfl)) k1 bel lt1) (trodAll_cons_mk (Below.trod laidOut (by kernel_rfl) (of_decide_eq_true (by kernel_rfl)) k2 bel lt2) trodAll_mk0))),rfl,bel.frame _,fun h=>by cases h⟩
theorem reads (os:Os) {H:Type} (enc:TypeId×Value→H):∃ places,DataW.whole enc Tryz.prog ((World.laidAll Tryz.prog os Rows.topStreamViewsUptoRow.laid).forCall (fun _ _=>0) ⟨#[],#[.slice none 0 0,.string ByteArray.empty,.string ByteArray.empty],[]⟩).memory Tryz.f3.params.toList Rows.topStreamViewsSpec.vars false (#[.slice none 0 0,.string ByteArray.empty,.string ByteArray.empty]:Array Value).toList 8=some ([.nil,.lit (.string []),.lit (.string [])],[],places) :=
 ⟨[],by kernel_rfl⟩
theorem laid_met (os:Os):laidMetH Tryz.prog Rows.topStreamViewsUptoRow.laid ((World.laidAll Tryz.prog os Rows.topStreamViewsUptoRow.laid).forCall (fun _ _=>0) ⟨#[],#[.slice none 0 0,.string ByteArray.empty,.string ByteArray.empty],[]⟩).memory:=by
 rw [MakeChecks.laidMetH_plain _ _ _ (by kernel_rfl)]
 exact laidMet_laidAll _ (by kernel_rfl) (by kernel_rfl)
set_option maxRecDepth 100000 in
theorem lifted (os:Os) (started:os.Started) (H:Type) (enc:TypeId×Value→H) (F:Stop.Interp) :
 ReturnsInHanded {} Tryz.checked os 3 .any ((Rows.OpenSpec.upto Rows.topStreamViewsSpec).preRow enc Tryz.prog Tryz.f3 Rows.topStreamViewsUptoRow.domain false Rows.topStreamViewsUptoRow.laid) (((Rows.OpenSpec.upto Rows.topStreamViewsSpec).at F).post enc Tryz.prog Tryz.f3 false true false false):=by
 obtain ⟨places,hx⟩:=reads os enc
 refine returnsInHanded_of_row (C:=Tryz.checked) (s:=Rows.OpenSpec.upto Rows.topStreamViewsSpec) own started (by kernel_rfl) Tryz.func3
  (witness_row_shaped (enc:=enc) (C:=Tryz.checked) false (World.laidAll Tryz.prog os Rows.topStreamViewsUptoRow.laid) #[.slice none 0 0,.string ByteArray.empty,.string ByteArray.empty] (World.laidAll_os _ _ _) (World.shaped_of_ZipB (by kernel_rfl) (by kernel_rfl)) (by kernel_rfl)
   (OpenSpec.preRow_of_cond 8 hx (by kernel_rfl) (fun k hk=>by cases hk;kernel_rfl) (by kernel_rfl) (laid_met os))) ?_
 intro W base args ds gs before hval hW _ hcond _ _ hsh _
 exact contract H enc W base args ds gs before hval hW hsh (hcond _ rfl)
theorem said:Rows.TopStreamViewsUptoSaid :=
 OpenClaim.holds_of_cond 3 Tryz.f3 rfl rfl rfl rfl rfl rfl rfl ⟨rfl,rfl,rfl,rfl,rfl⟩ rfl rfl rfl rfl rfl (by kernel_rfl) Tryz.func3 (by kernel_rfl)
  (of_decide_eq_true (by kernel_rfl)) (by unfold Func.isWrapper;first|(rw [if_pos (by decide +kernel)];kernel_rfl)|(rw [if_neg (by decide +kernel)];exact ⟨rfl,rfl⟩))
  (fun os started H enc _ F=>by rw [OpenClaim.pre_eq_preRow];exact lifted os started H enc F)
theorem plain (f:FuncId) (fn:Func) (hf:Tryz.pinned.checked.prog.funcNamed Rows.topStreamViewsUptoRow.func=some f) (hfn:Tryz.pinned.checked.prog.funcs[f]? = some fn) :
 false=Tryz.pinned.checked.prog.looks []∧∀ (j:Nat) t,fn.params[j]? = some t→Tryz.pinned.checked.prog.wantsStandIn t=false:=by
 obtain rfl:f=3:=Option.some.inj ((show Tryz.prog.funcNamed Rows.topStreamViewsUptoRow.func=some 3 by kernel_rfl).symm.trans hf) |>.symm
 obtain rfl:fn=Tryz.f3:=(Option.some.inj (Tryz.func3.symm.trans hfn)).symm
 refine ⟨by kernel_rfl,fun j t ht=>?_⟩
 rw [Tryz.params3] at ht
 have hm:t∈[22,9]:=by have:=Array.mem_of_getElem? ht;simp at this;simp [this]
 have hall:([22,9].all fun u=>!Tryz.prog.wantsStandIn u)=true:=by kernel_rfl
 exact (show Tryz.prog.wantsStandIn t=false by simpa using List.all_eq_true.1 hall t hm)
theorem proved:Rows.TopStreamViewsUptoCardSaid :=
 Claim7.holds_tied_plain_at .later [] _ _ _ _ said (fun _ h=>by cases h) (by kernel_rfl) (fun _ h=>by cases h) topStreamViewsUpto_row_tie rfl ⟨rfl,rfl⟩ (by kernel_rfl) rfl plain (by kernel_rfl)
#print axioms proved
end Go.Proofs.YtelkmeiepliecaaGreatDoor.topStreamViews
