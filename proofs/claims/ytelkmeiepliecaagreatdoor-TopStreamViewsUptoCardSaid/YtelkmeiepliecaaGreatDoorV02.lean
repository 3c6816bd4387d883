/-
  Part 2 of the proof.
-/
import Derived.Test.YtelkmeiepliecaaGreatDoorV01
import Derived.Lib.SplitLaws
import Derived.Lib.Join
import Derived.Lib.Strings
import Derived.Lib.Small
import Derived.Lib.Bytealg
import Derived.WalkKit
import Derived.WalkSpells
import Derived.WalkLawsBesides
import Derived.Deep.QuietTactic
import Derived.BigQuiet
import Derived.Outline
import Derived.Lib.Hide
import Derived.Below
import Derived.Deep.Draws
import Derived.SliceStrings
import Derived.OpenShut
import Derived.ProofKit
import Derived.Maps.AppendAt
import Derived.Deep.AppendLies
import Derived.RegionTactic
import Derived.OwnWalk
set_option linter.unusedSimpArgs false
set_option linter.unusedVariables false
set_option maxHeartbeats 16000000
namespace Go.Proofs.YtelkmeiepliecaaGreatDoor.Pm
open Go
def isBI (n:Int):Bool:=decide ((65≤n∧n≤90)∨(97≤n∧n≤122)∨(48≤n∧n≤57)∨n=95∨n=46∨n=43∨n=45)
def isB (c:UInt8):Bool:=isBI (c.toNat:Int)
def comp:List UInt8→Bool
 | []=>false
 | c::r=>!(c==46)&&(c::r).all isB
def sp:List UInt8→List (List UInt8)
 | []=>[[]]
 | c::l=>if c=47 then []::sp l else match sp l with
  | []=>[[c]]
  | x::xs=>(c::x)::xs
theorem sp_ne (l:List UInt8):sp l≠[]:=by
 cases l with
 | nil=>simp [sp]
 | cons c l =>
  simp only [sp]
  split
  ·simp
  ·split<;>simp
theorem sp_slash (l:List UInt8):sp (47::l)=[]::sp l:=by simp [sp]
theorem sp_cons (c:UInt8) (l:List UInt8) (h:c≠47):∃ x xs,sp l=x::xs∧sp (c::l)=(c::x)::xs:=by
 cases e:sp l with
 | nil=>exact absurd e (sp_ne l)
 | cons x xs=>exact ⟨x,xs,rfl,by simp [sp,h,e]⟩
theorem sp_piece:∀ (a b:List UInt8),(47:UInt8)∉a→sp (a++47::b)=a::sp b
 | [],b,_=>by simp [sp]
 | c::a,b,h=>by
  have hc:c≠47:=fun e=>h (by simp [e])
  have ih:=sp_piece a b (fun e=>h (by simp [e]))
  simp [sp,hc,ih]
theorem sp_last:∀ (a:List UInt8),(47:UInt8)∉a→sp a=[a]
 | [],_=>rfl
 | c::a,h=>by
  have hc:c≠47:=fun e=>h (by simp [e])
  have ih:=sp_last a (fun e=>h (by simp [e]))
  simp [sp,hc,ih]
theorem split_eq (l:List UInt8):Lib.split l [47]=sp l:=by
 unfold Lib.split
 generalize hk:Lib.count l [47]=k
 induction k generalizing l with
 | zero =>
  have hc:l.count 47=0:=by rw [←Lib.count_one];exact hk
  have:(47:UInt8)∉l:=fun h=>by
   have:=List.count_pos_iff.2 h
   omega
  rw [sp_last l this]
  rfl
 | succ k ih =>
  have hc:l.count 47=k+1:=by rw [←Lib.count_one];exact hk
  have hmem:(47:UInt8)∈l:=List.count_pos_iff.1 (by omega)
  obtain ⟨a,b,rfl,hna⟩:∃ a b,l=a++47::b∧(47:UInt8)∉a:=by
   clear hk hc ih
   induction l with
   | nil=>cases hmem
   | cons c l ih2 =>
    by_cases e:c=47
    ·exact ⟨[],l,by simp [e],by simp⟩
    ·have:(47:UInt8)∈l:=by
      rcases List.mem_cons.1 hmem with h|h
      ·exact absurd h.symm e
      ·exact h
     obtain ⟨a,b,rfl,hn⟩:=ih2 this
     exact ⟨c::a,b,rfl,fun h=>by
      rcases List.mem_cons.1 h with h|h
      ·exact e h.symm
      ·exact hn h⟩
  have hi:Lib.index (a++47::b) [47]=(a.length:Int):=by
   rw [Lib.index_one]
   clear hk hc ih hmem
   induction a with
   | nil=>simp [Lib.indexByte]
   | cons c a ih3 =>
    have hc:¬ c=47:=fun e=>hna (by simp [e])
    have:=ih3 (fun e=>hna (by simp [e]))
    simp only [List.cons_append,Lib.indexByte,this]
    simp [hc]
  have hd:(a++47::b).drop (a.length+1)=b:=by
   rw [←List.drop_drop]
   simp
  have hcb:Lib.count b [47]=k:=by
   rw [Lib.count_one]
   have h0:a.count 47=0:=List.count_eq_zero.2 hna
   rw [List.count_append,List.count_cons] at hc
   simp at hc
   omega
  have hm:¬ ((a.length:Int) == -1)=true:=by
   intro e
   have:=beq_iff_eq.1 e
   omega
  rw [sp_piece a b hna,Lib.splitK,hi,if_neg hm]
  simp only [Int.toNat_natCast,List.length_cons,List.length_nil,Nat.zero_add,Nat.add_zero,hd,ih b hcb]
  simp
theorem comp_no_slash {l:List UInt8} (h:comp l=true):(47:UInt8)∉l:=by
 cases l with
 | nil=>simp
 | cons c r =>
  simp only [comp,Bool.and_eq_true,List.all_eq_true] at h
  intro hm
  have:=h.2 47 hm
  revert this
  decide
theorem join_sp (l:List UInt8):Lib.join (sp l) [47]=l:=by
 induction l with
 | nil=>rfl
 | cons c l ih =>
  by_cases hc:c=47
  ·subst hc
   rw [sp_slash,Lib.join_cons]
   cases e:sp l with
   | nil=>exact absurd e (sp_ne l)
   | cons x xs =>
    rw [e,Lib.join_cons] at ih
    simp only [Lib.joinTail,List.map_cons,List.flatten_cons] at ih ⊢
    simpa using ih
  ·obtain ⟨x,xs,h1,h2⟩:=sp_cons c l hc
   rw [h1,Lib.join_cons] at ih
   rw [h2,Lib.join_cons,List.cons_append,ih]
theorem sp_join:∀ (xs:List (List UInt8)),xs≠[]→(∀ x∈xs,(47:UInt8)∉x)→sp (Lib.join xs [47])=xs
 | [],h,_=>absurd rfl h
 | [x],_,hx=>by rw [Lib.join_one,sp_last x (hx x (by simp))]
 | x::y::r,_,hx=>by
  have ih:=sp_join (y::r) (by simp) (fun z hz=>hx z (by simp [hz]))
  rw [Lib.join_cons]
  rw [Lib.join_cons] at ih
  have e:Lib.joinTail [47] (y::r)=47::(y++Lib.joinTail [47] r):=by simp [Lib.joinTail]
  rw [e,sp_piece x _ (hx x (by simp)),ih]
def dirOk (l:List UInt8):Bool:=Lib.hasPrefix l [47,47]&&(sp (l.drop 2)).all comp
def pathOk (l:List UInt8):Bool:=dirOk l&&decide (2≤(sp (l.drop 2)).length)
end Go.Proofs.YtelkmeiepliecaaGreatDoor.Pm
namespace Go.Proofs.YtelkmeiepliecaaGreatDoor
open Go.RowKit
open Pm
theorem ret_bool {a b:Bool} (h:a=b):Ending.returned (.bool a)=.returned (.bool b):=by rw [h]
theorem ret_int {k:IntKind} {a b:Int} (h:a=b):Ending.returned (.int k a)=.returned (.int k b):=by rw [h]
theorem isByte_any (n:Int) (w:World) :
 Calls Tryz.prog 127 #[.int .u8 n] w fun e w'=>e=.returned (.bool (isBI n))∧w=w':=by
 go_enter Tryz.func127,Tryz.ntmps127
 go_wp2
 all_goals go_ret
 all_goals refine ⟨ret_bool ?_,rfl⟩
 all_goals (rw [Bool.eq_iff_iff];simp [isBI];try omega)
theorem comp_step (s:ByteArray) (k:Nat) (h:k<s.size) :
 (s.data.toList.take (k+1)).all isB=((s.data.toList.take k).all isB&&isBI (s[k].toNat:Int)):=by
 rw [List.take_succ_eq_append_getElem (by simpa using h),List.all_append]
 simp [isB]
 rfl
theorem comp_ne {s:ByteArray} (h0:0<s.size) (h:¬ (s[0].toNat:Int)=46):comp s.data.toList=(s.data.toList).all isB:=by
 have e:s.data.toList=s[0]::s.data.toList.tail:=by
  obtain ⟨⟨l⟩⟩:=s
  cases l with
  | nil=>exact absurd h0 (Nat.lt_irrefl 0)
  | cons c l=>rfl
 rw [e]
 have:(s[0]==46)=false:=by
  rw [beq_eq_false_iff_ne]
  intro e
  rw [e] at h
  exact h rfl
 simp [comp,this]
theorem comp_dot {s:ByteArray} (h0:0<s.size) (h:(s[0].toNat:Int)=46):comp s.data.toList=false:=by
 have e:s.data.toList=s[0]::s.data.toList.tail:=by
  obtain ⟨⟨l⟩⟩:=s
  cases l with
  | nil=>exact absurd h0 (Nat.lt_irrefl 0)
  | cons c l=>rfl
 rw [e]
 have:s[0]=46:=UInt8.toNat_inj.1 (by simpa using (by omega:s[0].toNat=46))
 simp [comp,this]
theorem bytes_nil {s:ByteArray} (h0:s.size=0):s.data.toList=[]:=by
 rw [Lib.size_eq] at h0
 exact List.eq_nil_of_length_eq_zero h0
theorem bytes_ne {s:ByteArray} (h0:0<s.size):s.toList.isEmpty=false:=by
 rw [Lib.toList_data]
 rw [Lib.size_eq] at h0
 cases h:s.data.toList with
 | nil=>rw [h] at h0;exact absurd h0 (Nat.lt_irrefl 0)
 | cons c l=>rfl
theorem component_any (s:ByteArray) (w:World) (hs:s.size≤9223372036854775807) :
 Calls Tryz.prog 93 #[.string s] w fun e w'=>e=.returned (.bool (comp s.data.toList))∧w=w':=by
 by_cases h0:s.size=0
 ·have hl:=bytes_nil h0
  have he:s.toList=[]:=by rw [Lib.toList_data,hl]
  go_enter Tryz.func93,Tryz.ntmps93
  go_wp2_with fail
  go_ret
  rw [hl]
  exact ⟨rfl,rfl⟩
 have hpos:0<s.size:=by omega
 have hne:=bytes_ne hpos
 clear h0
 by_cases hd:(s[0].toNat:Int)=46
 ·have HC:=Lib.hid (comp_dot hpos hd)
  go_enter Tryz.func93,Tryz.ntmps93
  go_wp2_with fail
  go_ret
  exact ⟨ret_bool HC.out.symm,rfl⟩
 ·have HC:=Lib.hid (comp_ne hpos hd)
  have hdb:((s[0].toNat:Int)==46)=false:=by rw [beq_eq_false_iff_ne];exact hd
  clear hd
  go_enter Tryz.func93,Tryz.ntmps93
  go_wp2_with fail
  go_loop [13] (fun i=>∃ k:Nat,k≤s.size∧i=.int .i64 k∧Hid ((s.data.toList.take k).all isB=true)) (fun i=>s.size-(intOf i).toNat)
  case atStart=>exact ⟨0,Nat.zero_le _,rfl,Lib.hid (by simp)⟩
  case round =>
   obtain ⟨k,hk,rfl,HA⟩:=hrel
   by_cases hlt:k<s.size
   ·have HS:=Lib.hid (comp_step s k hlt)
    by_cases hb:isBI (s[k].toNat:Int)=true
    ·go_wp2_with (go_at_call 127;refine (isByte_any _ _).mono ?_;rintro e w' ⟨rfl,rfl⟩)
     go_round
     case rel=>exact ⟨k+1,by omega,by go_num,Lib.hid (by rw [HS.out,HA.out,hb];rfl)⟩
     case measure=>simp [intOf];omega
    ·have hb':isBI (s[k].toNat:Int)=false:=by simpa using hb
     clear hb
     go_wp2_with (go_at_call 127;refine (isByte_any _ _).mono ?_;rintro e w' ⟨rfl,rfl⟩)
     go_ret
     refine ⟨ret_bool ?_,rfl⟩
     rw [HC.out]
     symm
     rw [Bool.eq_false_iff]
     intro h
     rw [List.all_eq_true] at h
     have:=h s[k] (List.mem_of_getElem? (Lib.data_getElem? s k hlt))
     rw [isB,hb'] at this
     cases this
   ·go_wp2_with fail
    go_ret
    refine ⟨ret_bool ?_,rfl⟩
    rw [HC.out,← HA.out,List.take_of_length_le (by rw [←Lib.size_eq];omega)]
theorem hasPrefix_any (s p:ByteArray) (w:World) :
 Calls Tryz.prog 103 #[.string s,.string p] w fun e w'=>e=.returned (.bool (Lib.hasPrefix s.data.toList p.data.toList))∧w=w' :=
 (Tryz.strings_HasPrefix s p w).mono fun _ _ ⟨he,hw⟩=>⟨he,hw.symm⟩
theorem piece_eq (s:ByteArray) (b i:Nat):(s.extract b i).data.toList=(s.data.toList.drop b).take (i-b):=Lib.extract_data s b i
theorem piece_size (s:ByteArray) (b i:Nat):(s.extract b i).size≤s.size:=by
 rw [Lib.size_eq,Lib.size_eq,piece_eq,List.length_take,List.length_drop];omega
open Go.RowKit
open Pm
theorem below_drewN {B:Nat} {a w:World} (h:Below B a w) (n:Nat):Below B a (w.drewN n):=⟨h.os,h.tape,h.output,h.size,h.block⟩
theorem quiet_left {P:Program} {f:FuncId} {args:Array Value} {w:World} {n:Nat} {v:Value}
 (h:Calls P f args (w.drewN n) fun e w'=>e=.returned v∧w.drewN n=w'):Calls P f args (w.drewN n) fun e w''=>e=.returned v∧∃ m,w''=w.drewN m :=
 h.mono fun _ _ ⟨he,hm⟩=>⟨he,n,hm.symm⟩
open Go.RowKit Go.ChangeShapes Go.WideShapes
open Pm
def mkB (l:List UInt8):ByteArray:=⟨l.toArray⟩
theorem mkB_data (l:List UInt8):(mkB l).data.toList=l:=by simp [mkB]
theorem mkB_size (l:List UInt8):(mkB l).size=l.length:=by rw [Lib.size_eq,mkB_data]
theorem mkB_back (s:ByteArray):mkB s.data.toList=s:=Lib.mk_data s
def RT (w:World) (A:Option Addr) (c:Nat) (xs:List ByteArray):Prop :=
 xs.length≤c∧c≤9223372036854775807∧(0<xs.length→∃ b o,A=some ⟨b,o,none⟩∧b<w.heap.size∧∀ j x,xs[j]? = some x→w.cell? ⟨b,o+j,none⟩=some (.string x))
theorem RT.nil (w:World) (A:Option Addr) (c:Nat) (h:c≤9223372036854775807):RT w A c []:=⟨Nat.zero_le _,h,fun h=>absurd h (Nat.lt_irrefl 0)⟩
theorem RT.below {w w':World} {A:Option Addr} {c:Nat} {xs:List ByteArray} (h:RT w A c xs) (hb:Below w.heap.size w w'):RT w' A c xs :=
 ⟨h.1,h.2.1,fun h0=>by
  obtain ⟨b,o,e,hlt,hc⟩:=h.2.2 h0
  exact ⟨b,o,e,Nat.lt_of_lt_of_le hlt hb.size,fun j x hx=>(hb.cell (p:=⟨b,o+j,none⟩) hlt).trans (hc j x hx)⟩⟩
theorem RT.take {w:World} {A:Option Addr} {c:Nat} {xs:List ByteArray} (h:RT w A c xs) (m:Nat):RT w A c (xs.take m) :=
 ⟨by rw [List.length_take];have:=h.1;omega,h.2.1,fun h0=>by
  rw [List.length_take] at h0
  obtain ⟨b,o,e,hlt,hc⟩:=h.2.2 (by omega)
  refine ⟨b,o,e,hlt,fun j x hx=>hc j x ?_⟩
  rw [List.getElem?_take] at hx
  split at hx
  ·exact hx
  ·cases hx⟩
def ML (w:World):Prop:=∃ m,w.cell? ⟨0,0,none⟩=some (.int .i64 m)
theorem cell_lt {w:World} {p:Addr} {v:Value} (h:w.cell? p=some v):p.block<w.heap.size:=by
 rcases Nat.lt_or_ge p.block w.heap.size with h1|h1
 ·exact h1
 ·exfalso
  have:w.heap[p.block]? = none:=Array.getElem?_eq_none h1
  simp [World.cell?,this] at h
theorem ML.below {w w':World} (h:ML w) (hb:Below w.heap.size w w'):ML w':=by
 obtain ⟨m,hm⟩:=h
 exact ⟨m,(hb.cell (p:=⟨0,0,none⟩) (cell_lt hm)).trans hm⟩
theorem ML.of {w:World} (h:w.ShapedOpen Tryz.prog):ML w:=Tryz.laysM146.s1_3 w h
theorem cutPrefix_any (s p:ByteArray) (w:World) :
 Calls Tryz.prog 91 #[.string s,.string p] w fun e w'=>e=.returned (.tuple #[.string (mkB (Lib.trimPrefix s.data.toList p.data.toList)),.bool (Lib.hasPrefix s.data.toList p.data.toList)])∧w=w' :=
 (Tryz.strings_CutPrefix s p w).mono fun _ _ ⟨he,hw⟩=>⟨he,hw.symm⟩
theorem compareB_any (a b:ByteArray) (w:World) :
 Calls Tryz.prog 107 #[.string a,.string b] w fun e w'=>e=.returned (.int .i64 (Lib.compareBytes a.data.toList b.data.toList))∧w=w' :=
 (Tryz.strings_Compare a b w).mono fun _ _ ⟨he,hw⟩=>⟨he,hw.symm⟩
def spB (l:List UInt8):List ByteArray:=(sp l).map mkB
theorem spB_pos (l:List UInt8):0<(spB l).length:=by
 unfold spB
 rw [List.length_map]
 exact List.length_pos_iff.2 (sp_ne l)
theorem bytes_inj {a b:List ByteArray} (h:a.map (·.data.toList)=b.map (·.data.toList)):a=b:=by
 have e:∀ l:List ByteArray,(l.map (·.data.toList)).map mkB=l:=fun l=>by
  rw [List.map_map]
  conv=>rhs;rw [←List.map_id l]
  exact List.map_congr_left fun x _=>mkB_back x
 rw [←e a,← e b,h]
theorem splitB_eq (s:ByteArray):Lib.splitB ⟨#[47]⟩ 0 (Lib.countB s ⟨#[47]⟩) s=spB s.data.toList:=by
 refine bytes_inj ?_
 rw [Lib.splitB_data]
 show Lib.split s.data.toList [47]=_
 rw [split_eq]
 unfold spB
 rw [List.map_map]
 conv=>lhs;rw [←List.map_id (sp s.data.toList)]
 exact List.map_congr_left fun x _=>(mkB_data x).symm
theorem count_eq (s:ByteArray):Lib.countB s ⟨#[47]⟩+1=(spB s.data.toList).length:=by
 rw [←splitB_eq,Lib.splitB_all ⟨#[47]⟩ (by decide) 0 _ s rfl]
def RetT (w:World) (xs:List ByteArray) (f:Value→Value) (e:Ending) (w':World):Prop :=
 ∃ A c,e=.returned (f (.slice A xs.length c))∧RT w' A c xs∧Below w.heap.size w w'
theorem split_any (s:ByteArray) (w:World) (hs:s.size≤1000000) (hm:ML w) :
 Calls Tryz.prog 92 #[.string s,.string ⟨#[47]⟩] w (RetT w (spB s.data.toList) id):=by
 obtain ⟨m,hm⟩:=hm
 refine (Tryz.strings_Split s ⟨#[47]⟩ m w (by omega) hm (by decide)).mono fun e w' ⟨he,hw⟩=>?_
 have hc:=Lib.countB_le ⟨#[47]⟩ (by decide) _ s (Nat.le_refl _)
 rw [splitB_eq] at hw
 rw [count_eq] at he
 have hn:=count_eq s
 refine ⟨_,_,he,⟨Nat.le_refl _,by omega,fun _=>⟨w.heap.size,0,rfl,?_,fun j x hx=>?_⟩⟩,?_⟩
 ·rw [hw];simp
 ·rw [hw]
  have:(⟨w.heap.size,0+j,none⟩:Addr)=⟨w.heap.size,j,none⟩:=by simp
  rw [this]
  simp [World.cell?_alloc_new,List.getElem?_map,hx]
 ·rw [hw]
  exact (Below.refl _ _).alloc (Nat.le_refl _) _
theorem join_any (A:Option Addr) (c:Nat) (xs:List ByteArray) (sep:ByteArray) (w:World) (h:RT w A c xs) (hN:xs.length≤100000) (hlen:(Lib.join (xs.map (·.data.toList)) sep.data.toList).length≤100000000) :
 Calls Tryz.prog 98 #[.slice A xs.length c,.string sep] w fun e w'=>e=.returned (.string (mkB (Lib.join (xs.map (·.data.toList)) sep.data.toList)))∧Below w.heap.size w w':=by
 by_cases h0:0<xs.length
 ·obtain ⟨b,o,rfl,hb,hc⟩:=h.2.2 h0
  exact Tryz.strings_Join b o c xs sep w hc hb (by omega) h.1 (by omega)
 ·have:xs=[]:=List.eq_nil_of_length_eq_zero (by omega)
  subst this
  exact (Tryz.strings_Join_none A c sep w).mono fun e w' ⟨he,hw⟩=>⟨he,hw▸Below.refl _ _⟩
theorem getD_cells {xs:List ByteArray} {w:World} {b o:Nat} (h:∀ j x,xs[j]? = some x→w.cell? ⟨b,o+j,none⟩=some (.string x)) :
 ∀ j,j<xs.length→w.cell? ⟨b,o+j,none⟩=some (.string (xs.getD j ByteArray.empty)):=fun j hj=>by
 refine h j _ ?_
 rw [List.getD,List.getElem?_eq_getElem hj]
 rfl
theorem below_drewN' (w:World) (n:Nat):Below w.heap.size w (w.drewN n):=below_drewN (Below.refl _ _) n
theorem equal_any (A B:Option Addr) (c d:Nat) (xs ys:List ByteArray) (w:World) (h:RT w A c xs) (k:RT w B d ys) :
 Calls Tryz.prog 65 #[.slice A xs.length c,.slice B ys.length d] w fun e w'=>e=.returned (.bool (decide (xs=ys)))∧Below w.heap.size w w':=by
 have h1:=h.1
 have h2:=h.2.1
 have k1:=k.1
 have k2:=k.2.1
 by_cases hl:xs.length=ys.length
 ·by_cases h0:0<xs.length
  ·obtain ⟨b,o,rfl,_,hc⟩:=h.2.2 h0
   obtain ⟨b',o',rfl,_,hc'⟩:=k.2.2 (by omega)
   refine (Tryz.slices_Equal_string b o xs.length c b' o' ys.length d xs ys w (Nat.le_refl _) (Nat.le_refl _) (by omega) (by omega) (getD_cells hc) (getD_cells hc')).mono fun e w' ⟨he,q,hw⟩=>?_
   rw [List.take_length,List.take_length] at he
   exact ⟨he,hw▸below_drewN' w q⟩
  ·have e1:xs=[]:=List.eq_nil_of_length_eq_zero (by omega)
   have e2:ys=[]:=List.eq_nil_of_length_eq_zero (by omega)
   subst e1;subst e2
   exact (Tryz.slices_Equal_string_empty A B c 0 d w (by omega)).mono fun e w' ⟨he,hw⟩=>⟨he,hw▸Below.refl _ _⟩
 ·refine (Tryz.slices_Equal_string_lens A B xs.length c ys.length d w hl).mono fun e w' ⟨he,hw⟩=>⟨?_,hw▸Below.refl _ _⟩
  rw [he]
  refine ret_bool ?_
  symm
  rw [decide_eq_false_iff_not]
  intro e
  exact hl (by rw [e])
open Go.RowKit
open Pm
def letters:List UInt8:=[65,66,67,68,69,70,71,72,73,74,75,76,77,78,79,80,81,82,83,84,85,86,87,88,89,90,97,98,99,100,101,102,103,104,105,106,107,108,109,110,111,112,113,114,115,116,117,118,119,120,121,122,48,49,50,51,52,53,54,55,56,57,95,46,43,45]
def compsB (s:ByteArray):List ByteArray:=spB (s.data.toList.drop 2)
theorem comps_all (s:ByteArray):(sp (s.data.toList.drop 2)).all comp=(compsB s).all (fun x=>comp x.data.toList):=by
 unfold compsB spB
 rw [List.all_map]
 congr 1
theorem comps_len (s:ByteArray):(sp (s.data.toList.drop 2)).length=(compsB s).length:=by
 unfold compsB spB
 rw [List.length_map]
theorem sp_total (l:List UInt8):∀ x∈sp l,x.length≤l.length:=by
 induction l with
 | nil=>simp [sp]
 | cons c l ih =>
  by_cases hc:c=47
  ·subst hc
   rw [sp_slash]
   intro x hx
   rcases List.mem_cons.1 hx with rfl|hx
   ·simp
   ·have:=ih x hx
    simp only [List.length_cons];omega
  ·obtain ⟨x,xs,h1,h2⟩:=sp_cons c l hc
   rw [h2]
   rw [h1] at ih
   intro y hy
   rcases List.mem_cons.1 hy with rfl|hy
   ·have:=ih x (by simp)
    simp only [List.length_cons];omega
   ·have:=ih y (by simp [hy])
    simp only [List.length_cons];omega
theorem sp_count (l:List UInt8):(sp l).length≤l.length+1:=by
 induction l with
 | nil=>simp [sp]
 | cons c l ih =>
  by_cases hc:c=47
  ·subst hc
   rw [sp_slash]
   simp only [List.length_cons];omega
  ·obtain ⟨x,xs,h1,h2⟩:=sp_cons c l hc
   rw [h2]
   rw [h1] at ih
   simp only [List.length_cons] at ih ⊢;omega
theorem compsB_size (s x:ByteArray) (h:x∈compsB s):x.size≤s.size:=by
 unfold compsB spB at h
 obtain ⟨l,hl,rfl⟩:=List.mem_map.1 h
 have:=sp_total _ l hl
 rw [List.length_drop] at this
 rw [mkB_size,Lib.size_eq]
 omega
theorem compsB_len (s:ByteArray):(compsB s).length≤s.size+1:=by
 rw [←comps_len,Lib.size_eq]
 have:=sp_count (s.data.toList.drop 2)
 rw [List.length_drop] at this
 omega
theorem trim_comps {s:ByteArray} (h:Lib.hasPrefix s.data.toList [47,47]=true):spB (mkB (Lib.trimPrefix s.data.toList [47,47])).data.toList=compsB s:=by
 rw [mkB_data]
 unfold Lib.trimPrefix compsB
 rw [if_pos h]
 rfl
theorem trim_size (s:ByteArray) (p:List UInt8):(mkB (Lib.trimPrefix s.data.toList p)).size≤s.size:=by
 rw [mkB_size,Lib.size_eq]
 exact Lib.trimPrefix_le _ _
theorem all_step {xs:List ByteArray} {k:Nat} {x:ByteArray} {p:ByteArray→Bool} (hx:xs[k]? = some x):(xs.take (k+1)).all p=((xs.take k).all p&&p x):=by
 rw [List.take_add_one,hx,List.all_append]
 simp
theorem all_miss {xs:List ByteArray} {k:Nat} {x:ByteArray} {p:ByteArray→Bool} (hx:xs[k]? = some x) (h:p x=false):xs.all p=false:=by
 rw [Bool.eq_false_iff]
 intro hh
 have:=List.all_eq_true.1 hh x (List.mem_of_getElem? hx)
 rw [h] at this
 cases this
def RetTB (w:World) (xs:List ByteArray):Ending→World→Prop:=RetT w xs (fun v=>.tuple #[v,.bool true])
def RetNB (w:World) (e:Ending) (w':World):Prop:=e=.returned (.tuple #[.slice none 0 0,.bool false])∧Below w.heap.size w w'
theorem components_pre (s:ByteArray) (n:Int) (w:World) (hp:Lib.hasPrefix s.data.toList [47,47]=false) :
 Calls Tryz.prog 63 #[.string s,.int .i64 n] w (RetNB w):=by
 go_enter Tryz.func63,Tryz.ntmps63
 go_wp2_with (go_at_call 91;refine (cutPrefix_any _ _ _).mono ?_;rintro e w' ⟨rfl,rfl⟩)
 go_ret2
 exact ⟨rfl,Below.refl _ _⟩
theorem components_few (s:ByteArray) (n:Nat) (w:World) (hs:s.size≤1000000) (hm:ML w) (hp:Lib.hasPrefix s.data.toList [47,47]=true) (hn:(compsB s).length<n) :
 Calls Tryz.prog 63 #[.string s,.int .i64 n] w (RetNB w):=by
 have hts:=trim_size s [47,47]
 have hsp:=split_any (mkB (Lib.trimPrefix s.data.toList [47,47])) w (by omega) hm
 rw [trim_comps hp] at hsp
 have HSP:=Lib.hid hsp
 clear hsp hm
 go_enter Tryz.func63,Tryz.ntmps63
 go_wp2_with (first
  | (go_at_call 91;refine (cutPrefix_any _ _ _).mono ?_;rintro e w' ⟨rfl,rfl⟩)
  | (go_at_call 92;refine HSP.out.mono ?_;rintro e w1 ⟨A,c,rfl,hr,hb⟩))
 go_ret2
 exact ⟨rfl,hb⟩
def RetC (w:World) (xs:List ByteArray) (ok:Bool) (e:Ending) (w':World):Prop:=(ok=true→RetTB w xs e w')∧(ok=false→RetNB w e w')
theorem components_many (s:ByteArray) (n:Nat) (w:World) (hs:s.size≤1000000) (hm:ML w) (hp:Lib.hasPrefix s.data.toList [47,47]=true) (hn:n≤(compsB s).length) :
 Calls Tryz.prog 63 #[.string s,.int .i64 n] w (RetC w (compsB s) ((compsB s).all (fun x=>comp x.data.toList))):=by
 have hts:=trim_size s [47,47]
 have hsp:=split_any (mkB (Lib.trimPrefix s.data.toList [47,47])) w (by omega) hm
 rw [trim_comps hp] at hsp
 have HSP:=Lib.hid hsp
 clear hsp hm
 have hlen:=compsB_len s
 have HSZ:=Lib.hid (compsB_size s)
 have hpos:0<(compsB s).length:=spB_pos _
 have hnB:decide ((compsB s).length<n)=false:=by rw [decide_eq_false_iff_not];omega
 generalize compsB s=xs at *
 go_enter Tryz.func63,Tryz.ntmps63
 go_wp2_with (first
  | (go_at_call 91;refine (cutPrefix_any _ _ _).mono ?_;rintro e w' ⟨rfl,rfl⟩)
  | (go_at_call 92;refine HSP.out.mono ?_;rintro e w1 ⟨A,c,rfl,hr,hb⟩))
 obtain ⟨b,o,rfl,hbl,hc⟩:=hr.2.2 hpos
 have HR:=Lib.hid hr
 have HCE:=Lib.hid hc
 clear hr hc
 go_loop [26] (fun i=>∃ k:Nat,k≤xs.length∧i=.int .i64 k∧Hid ((xs.take k).all (fun x=>comp x.data.toList)=true)) (fun i=>xs.length-(intOf i).toNat)
 case atStart=>exact ⟨0,Nat.zero_le _,rfl,Lib.hid (by simp)⟩
 case round =>
  obtain ⟨k,hk,rfl,HA⟩:=hrel
  by_cases hlt:k<xs.length
  ·obtain ⟨x,hx⟩:∃ x,xs[k]? = some x:=⟨_,List.getElem?_eq_getElem hlt⟩
   have hcell:=HCE.out k x hx
   have hxs:=HSZ.out x (List.mem_of_getElem? hx)
   have HX:=Lib.hid hx
   clear hx
   by_cases hcx:comp x.data.toList=true
   ·go_wp2_with (go_at_call 93;refine (component_any _ _ (by omega)).mono ?_;rintro e w' ⟨rfl,rfl⟩)
    go_round
    case rel=>exact ⟨k+1,by omega,by go_num,Lib.hid (by rw [all_step HX.out,HA.out,hcx];rfl)⟩
    case measure=>simp [intOf];omega
   ·have hcx':comp x.data.toList=false:=by simpa using hcx
    clear hcx
    go_wp2_with (go_at_call 93;refine (component_any _ _ (by omega)).mono ?_;rintro e w' ⟨rfl,rfl⟩)
    go_ret2
    refine ⟨fun h=>?_,fun _=>⟨rfl,hb⟩⟩
    rw [all_miss (p:=fun x=>comp x.data.toList) HX.out hcx'] at h
    cases h
  ·go_wp2_with fail
   go_ret2
   refine ⟨fun _=>⟨_,_,rfl,HR.out,hb⟩,fun h=>?_⟩
   have:=HA.out
   rw [List.take_of_length_le (by omega),h] at this
   cases this
theorem components_yes (s:ByteArray) (n:Nat) (w:World) (hs:s.size≤1000000) (hm:ML w) (hd:dirOk s.data.toList=true) (hn:n≤(compsB s).length) :
 Calls Tryz.prog 63 #[.string s,.int .i64 n] w (RetTB w (compsB s)):=by
 unfold dirOk at hd
 rw [Bool.and_eq_true,comps_all] at hd
 exact (components_many s n w hs hm hd.1 hn).mono fun e w' h=>h.1 hd.2
theorem components_no (s:ByteArray) (n:Nat) (w:World) (hs:s.size≤1000000) (hm:ML w) (hd:dirOk s.data.toList=false∨(compsB s).length<n) :
 Calls Tryz.prog 63 #[.string s,.int .i64 n] w (RetNB w):=by
 cases hp:Lib.hasPrefix s.data.toList [47,47] with
 | false=>exact components_pre s n w hp
 | true =>
  by_cases hn:(compsB s).length<n
  ·exact components_few s n w hs hm hp hn
  ·rcases hd with hd|hd
   ·unfold dirOk at hd
    rw [hp,Bool.true_and,comps_all] at hd
    exact (components_many s n w hs hm hp (by omega)).mono fun e w' h=>h.2 hd
   ·exact absurd hd hn
theorem pathOk_iff (s:ByteArray):pathOk s.data.toList=true↔dirOk s.data.toList=true∧2≤(compsB s).length:=by
 unfold pathOk
 rw [Bool.and_eq_true,decide_eq_true_iff,comps_len]
def RetTE (w:World) (xs:List ByteArray):Ending→World→Prop:=RetT w xs (fun v=>.tuple #[v,.int .i64 0])
def RetNE (w:World) (n:Int) (e:Ending) (w':World):Prop:=e=.returned (.tuple #[.slice none 0 0,.int .i64 n])∧Below w.heap.size w w'
theorem psplit_yes (s:ByteArray) (w:World) (hs:s.size≤1000000) (hm:ML w) (hv:pathOk s.data.toList=true) :
 Calls Tryz.prog 64 #[.string s] w (RetTE w (compsB s)):=by
 have hh:=(pathOk_iff s).1 hv
 have HC:=Lib.hid (components_yes s 2 w hs hm hh.1 hh.2)
 clear hh hm
 go_enter Tryz.func64,Tryz.ntmps64
 go_wp2_with (go_at_call 63;refine HC.out.mono ?_;rintro e w1 ⟨A,c,rfl,hr,hb⟩)
 go_ret2
 exact ⟨_,_,rfl,hr,hb⟩
theorem psplit_no (s:ByteArray) (w:World) (hs:s.size≤1000000) (hm:ML w) (hv:pathOk s.data.toList=false) :
 Calls Tryz.prog 64 #[.string s] w (RetNE w 20):=by
 have hh:dirOk s.data.toList=false∨(compsB s).length<2:=by
  have:=pathOk_iff s
  rw [hv] at this
  cases hd:dirOk s.data.toList with
  | false=>exact .inl rfl
  | true =>
   rw [hd] at this
   refine .inr ?_
   have h2:¬ (2≤(compsB s).length):=fun h=>by
    have:=this.2 ⟨rfl,h⟩
    cases this
   omega
 have HC:=Lib.hid (components_no s 2 w hs hm hh)
 clear hh hm
 go_enter Tryz.func64,Tryz.ntmps64
 go_wp2_with (go_at_call 63;refine HC.out.mono ?_;rintro e w1 ⟨rfl,hb⟩)
 go_ret2
 exact ⟨rfl,hb⟩
open Go.RowKit
open Pm
def underB (xs ys:List ByteArray):Bool:=decide (xs.length<ys.length∧ys.take xs.length=xs)
def RetBE (w:World) (b:Bool) (n:Int) (e:Ending) (w':World):Prop:=e=.returned (.tuple #[.bool b,.int .i64 n])∧Below w.heap.size w w'
theorem under_yes (s p:ByteArray) (w:World) (hs:s.size≤1000000) (hp:p.size≤1000000) (hm:ML w) (hd:dirOk s.data.toList=true) (hv:pathOk p.data.toList=true) :
 Calls Tryz.prog 33 #[.string s,.string p] w (RetBE w (underB (compsB s) (compsB p)) 0):=by
 have HC:=Lib.hid (components_yes s 1 w hs hm hd (spB_pos _))
 have HM:=Lib.hid hm
 have hl1:=compsB_len s
 have hl2:=compsB_len p
 clear hm
 go_enter Tryz.func33,Tryz.ntmps33
 go_wp2_with (go_at_call 63;refine HC.out.mono ?_;rintro e w1 ⟨A,c,rfl,hr1,hb1⟩)
 have HR1:=Lib.hid hr1
 have h2:=hr1.1
 have h3:=hr1.2.1
 refine (psplit_yes p w1 hp (HM.out.below hb1) hv).mono ?_
 rintro e w2 ⟨B,d,rfl,hr2,hb2⟩
 have HR1':=Lib.hid (HR1.out.below hb2)
 have HR2:=Lib.hid hr2
 have k2:=hr2.1
 have k3:=hr2.2.1
 have HB:=Lib.hid (hb1.trans (hb2.mono hb1.size))
 clear hr1 hr2 hb1 hb2
 generalize compsB s=xs at *
 generalize compsB p=ys at *
 by_cases hlt:xs.length<ys.length
 ·have hl:(ys.take xs.length).length=xs.length:=by rw [List.length_take];omega
  have hc:=equal_any B A d c (ys.take xs.length) xs w2 (HR2.out.take _) HR1'.out
  rw [hl] at hc
  have HE:=Lib.hid hc
  have HU:Hid (decide (ys.take xs.length=xs)=underB xs ys):=Lib.hid (by
   unfold underB
   rw [decide_eq_decide]
   exact ⟨fun e=>⟨hlt,e⟩,fun e=>e.2⟩)
  clear hc hl
  go_wp2_with (go_at_call 65;refine HE.out.mono ?_;rintro e w3 ⟨rfl,hb3⟩)
  go_ret2
  exact ⟨by rw [←HU.out];rfl,HB.out.trans (hb3.mono HB.out.size)⟩
 ·have HU:Hid (underB xs ys=false):=Lib.hid (by
   unfold underB
   rw [decide_eq_false_iff_not]
   exact fun e=>hlt e.1)
  go_wp2_with fail
  go_ret2
  exact ⟨by rw [HU.out];rfl,HB.out⟩
theorem under_no (s p:ByteArray) (w:World) (hs:s.size≤1000000) (hp:p.size≤1000000) (hm:ML w) (hd:dirOk s.data.toList=false∨pathOk p.data.toList=false) :
 Calls Tryz.prog 33 #[.string s,.string p] w (RetBE w false 20):=by
 cases hds:dirOk s.data.toList with
 | false =>
  have HC:=Lib.hid (components_no s 1 w hs hm (.inl hds))
  clear hm
  go_enter Tryz.func33,Tryz.ntmps33
  go_wp2_with (go_at_call 63;refine HC.out.mono ?_;rintro e w1 ⟨rfl,hb1⟩)
  go_ret2
  exact ⟨rfl,hb1⟩
 | true =>
  have hv:pathOk p.data.toList=false:=by
   rcases hd with h|h
   ·rw [hds] at h;cases h
   ·exact h
  have HC:=Lib.hid (components_yes s 1 w hs hm hds (spB_pos _))
  have HM:=Lib.hid hm
  have hl1:=compsB_len s
  clear hm
  go_enter Tryz.func33,Tryz.ntmps33
  go_wp2_with (go_at_call 63;refine HC.out.mono ?_;rintro e w1 ⟨A,c,rfl,hr1,hb1⟩)
  refine (psplit_no p w1 hp (HM.out.below hb1) hv).mono ?_
  rintro e w2 ⟨rfl,hb2⟩
  go_wp2_with fail
  go_ret2
  exact ⟨rfl,hb1.trans (hb2.mono hb1.size)⟩
open Go.RowKit
open Pm
end Go.Proofs.YtelkmeiepliecaaGreatDoor
namespace Go.Proofs.YtelkmeiepliecaaGreatDoor
open Go.RowKit
open Pm
def joinL (xs:List (List UInt8)):List UInt8:=47::47::Lib.join xs [47]
def datj (xs:List ByteArray):List (List UInt8):=xs.map (·.data.toList)
def joinB (xs:List ByteArray):ByteArray:=mkB (joinL (datj xs))
def joinT (xs:List ByteArray):ByteArray:=mkB (Lib.join (datj xs) [47])
theorem joinT_size (xs:List ByteArray):(joinT xs).size=(Lib.join (datj xs) [47]).length:=mkB_size _
theorem cat_eq (xs:List ByteArray):(⟨#[47,47]⟩:ByteArray)++joinT xs=joinB xs:=by
 rw [←mkB_back ((⟨#[47,47]⟩:ByteArray)++joinT xs)]
 unfold joinB joinL
 refine congrArg mkB ?_
 rw [ByteArray.data_append,Array.toList_append]
 show 47::47::(joinT xs).data.toList=_
 rw [joinT,mkB_data]
theorem ret_str {a b:ByteArray} (h:a=b):Ending.returned (.string a)=.returned (.string b):=by rw [h]
open Go.RowKit
theorem textInfo:(Tryz.prog.info? 9).map (fun i=>(i.zero,i.size,i.bytes))=some (some (.string ByteArray.empty),1,16):=by kernel_rfl
def OT (w:World) (base:Nat) (v:Value) (xs:List ByteArray):Prop:=w.ownsRow base 9 1 v xs.length (xs.map Value.string)
theorem OT.nil (w:World) (base:Nat):OT w base (.slice none 0 0) []:=⟨by simp,.inl ⟨rfl,rfl⟩⟩
theorem OT.read {w:World} {base:Nat} {v:Value} {xs:List ByteArray} (h:OT w base v xs):∃ A c,v=.slice A xs.length c∧RT w A c xs:=by
 obtain ⟨hl,h⟩:=h
 rcases h with ⟨rfl,hn⟩|⟨g,cap,cur,rfl,hbg,hh,hnc,hcm,hcs,htk⟩
 ·have:xs=[]:=List.eq_nil_of_length_eq_zero hn
  subst this
  exact ⟨none,0,rfl,RT.nil w none 0 (by omega)⟩
 ·refine ⟨_,_,rfl,hnc,by simpa [maxLen] using hcm,fun h0=>⟨g,0,rfl,?_,fun j x hx=>?_⟩⟩
  ·rcases Nat.lt_or_ge g w.heap.size with h1|h1
   ·exact h1
   ·rw [Array.getElem?_eq_none h1] at hh;cases hh
  ·have hj:j<xs.length:=(List.getElem?_eq_some_iff.1 hx).1
   have e:(xs.map Value.string)[j]? = some (.string x):=by rw [List.getElem?_map,hx];rfl
   rw [←htk,List.getElem?_take,if_pos (by omega)] at e
   have:(⟨g,0+j,none⟩:Addr)=⟨g,j,none⟩:=by simp
   rw [this,cell_of_row w g j cur _ (0,0) hh]
   simpa using e
theorem run_append_none (w:World) (base:Nat) (v:Value) (xs:List ByteArray) (hown:OT w base v xs) (c:Nat) (ty:TypeId) :
 (Builtin.append_ #[25,25] ty #[v,.slice none 0 c]).run Tryz.prog w=.ok v w:=by
 obtain ⟨i,hi,hz,h1,h2⟩:=info_parts textInfo
 rcases hown.2 with ⟨rfl,_⟩|⟨g,cap,cur,rfl,_,_,hnc,_⟩
 ·simp [Builtin.append_,run_underlying Tryz.underlying25,sizeOf,typeInfo,hi,Builtin.lenOf,Builtin.firstCells]
 ·simp [Builtin.append_,run_underlying Tryz.underlying25,sizeOf,typeInfo,hi,Builtin.lenOf,Builtin.firstCells,hnc,storeCells]
theorem run_append_texts (w:World) (base:Nat) (v:Value) (xs ys:List ByteArray) (A:Option Addr) (c:Nat) (ty:TypeId) (hown:OT w base v xs) (hr:RT w A c ys)
 (hlen:xs.length+ys.length≤1000000) (hbase:base≤w.heap.size) :
 ∃ v' w',(Builtin.append_ #[25,25] ty #[v,.slice A ys.length c]).run Tryz.prog w=.ok v' w'∧OT w' base v' (xs++ys)∧w.grownBy w' v.ownBlock ∧
  (v'.ownBlock=v.ownBlock∨v'.ownBlock=some w.heap.size):=by
 obtain ⟨i,hi,hz,h1,h2⟩:=info_parts textInfo
 rcases A with _|ad
 ·have hy:ys=[]:=by
   cases ys with
   | nil=>rfl
   | cons y ys =>
    obtain ⟨b,o,e,_⟩:=hr.2.2 (by simp)
    cases e
  subst hy
  exact ⟨v,w,run_append_none w base v xs hown c ty,by simpa using hown,World.grownBy.refl w _,.inl rfl⟩
 ·have hcells:∀ j u,(ys.map Value.string)[j]? = some u→w.cell? (ad.add j)=some u:=by
   intro j u hu
   rw [List.getElem?_map] at hu
   obtain ⟨y,hy,rfl⟩:=Option.map_eq_some_iff.1 hu
   have hj:j<ys.length:=(List.getElem?_eq_some_iff.1 hy).1
   obtain ⟨b,o,e,_,hc⟩:=hr.2.2 (by omega)
   cases e
   rw [Go.WideShapes.add_plain]
   exact hc j y hy
  obtain ⟨v',w',hrun,h3,h4,_,h5⟩:=run_append_own_at (P:=Tryz.prog) w base 25 ty 9 i (.string ByteArray.empty) 1 16 Tryz.underlying25 hi hz h1 h2 rfl (by omega) v xs.length (xs.map Value.string) hown ad ys.length c (ys.map Value.string)
   (by simp) hcells (by intro u hu;obtain ⟨y,_,rfl⟩:=List.mem_map.1 hu;rfl) (by simp only [maxLen];omega) (by omega) hbase
  refine ⟨v',w',hrun,?_,h4,h5⟩
  unfold OT
  rw [List.length_append,List.map_append]
  exact h3
theorem wp_append_texts {w:World} {o:Oper} {a:Act} {K:Act→World→Prop} {Q:Exit→Act→World→Prop} (s x:Operand)
 (ho:o.op=.call { callee:=.builtin .append,args:=#[s,x],argTypes:=#[25,25] })
 (base:Nat) (v:Value) (xs ys:List ByteArray) (A:Option Addr) (c:Nat) (hs:a.eval s=v) (hx:a.eval x=.slice A ys.length c) (hown:OT w base v xs) (hr:RT w A c ys)
 (hlen:xs.length+ys.length≤1000000) (hbase:base≤w.heap.size)
 (h:∀ v' w',OT w' base v' (xs++ys)→w.grownBy w' v.ownBlock→(v'.ownBlock=v.ownBlock∨v'.ownBlock=some w.heap.size)→K (a.put o.dst v') w'):o.wp Tryz.prog a w K Q:=by
 obtain ⟨v',w',hrun,h2,h3,h4⟩:=run_append_texts w base v xs ys A c o.type hown hr hlen hbase
 unfold Oper.wp execOp
 simp only [ho,resolve,invoke,builtin,Sem.run_bind,Sem.run_pure,Result.andThen_ok,List.map_toArray,List.map_cons,List.map_nil,hs,hx,hrun]
 exact h v' w' h2 h3 h4
theorem wpList_append_texts {w:World} {ops:Array Oper} {rest:List Oper} {o:Oper} {a:Act} {Q:Exit→Act→World→Prop} (hgd:o.guard=none) (s x:Operand)
 (ho:o.op=.call { callee:=.builtin .append,args:=#[s,x],argTypes:=#[25,25] })
 (base:Nat) (v:Value) (xs ys:List ByteArray) (A:Option Addr) (c:Nat) (hs:a.eval s=v) (hx:a.eval x=.slice A ys.length c) (hown:OT w base v xs) (hr:RT w A c ys)
 (hlen:xs.length+ys.length≤1000000) (hbase:base≤w.heap.size)
 (h:∀ v' w',OT w' base v' (xs++ys)→w.grownBy w' v.ownBlock→(v'.ownBlock=v.ownBlock∨v'.ownBlock=some w.heap.size)→wpList Tryz.prog ops Q rest (a.put o.dst v') w'):wpList Tryz.prog ops Q (o::rest) a w :=
 wpList_plain hgd fun _ hK=>wp_append_texts s x ho base v xs ys A c hs hx hown hr hlen hbase fun v' w' h2 h3 h4=>hK _ _ (h v' w' h2 h3 h4)
theorem step_append_texts {w:World} {ops:Array Oper} {o:Oper} {a:Act} {K:Act→World→Prop} {Q:Exit→Act→World→Prop} {E:Prop} (hgd:o.guard=none) (s x:Operand)
 (ho:o.op=.call { callee:=.builtin .append,args:=#[s,x],argTypes:=#[25,25] })
 (base:Nat) (v:Value) (xs ys:List ByteArray) (A:Option Addr) (c:Nat) (hs:a.eval s=v) (hx:a.eval x=.slice A ys.length c) (hown:OT w base v xs) (hr:RT w A c ys)
 (hlen:xs.length+ys.length≤1000000) (hbase:base≤w.heap.size)
 (h:∀ v' w',OT w' base v' (xs++ys)→w.grownBy w' v.ownBlock→(v'.ownBlock=v.ownBlock∨v'.ownBlock=some w.heap.size)→K (a.put o.dst v') w') :
 if Region.wanted o (yielded ops a.tmps)=true then Oper.wp Tryz.prog o a w K Q else E:=by
 have hw:Region.wanted o (yielded ops a.tmps)=true:=by simp [Region.wanted,hgd]
 rw [if_pos hw]
 exact wp_append_texts s x ho base v xs ys A c hs hx hown hr hlen hbase h
open Go.RowKit
open Pm
theorem lens_le {xs:List ByteArray} {m:Nat} (h:∀ x∈xs,x.size≤m):Lib.lens (datj xs)≤xs.length * m:=by
 induction xs with
 | nil=>simp [datj,Lib.lens]
 | cons x xs ih =>
  have h1:=ih fun y hy=>h y (List.mem_cons_of_mem _ hy)
  have h2:=h x (List.mem_cons_self ..)
  have e:Lib.lens (datj (x::xs))=x.data.toList.length+Lib.lens (datj xs):=by simp [datj,Lib.lens]
  rw [e,List.length_cons,Nat.succ_mul,← Lib.size_eq]
  omega
theorem join_le {xs:List ByteArray} {m:Nat} (h:∀ x∈xs,x.size≤m):(Lib.join (datj xs) [47]).length≤xs.length * (m+1):=by
 cases xs with
 | nil=>simp [datj,Lib.join_nil]
 | cons x xs =>
  have h1:=lens_le h
  have e:datj (x::xs)=x.data.toList::datj xs:=rfl
  rw [e,Lib.join_length,← e]
  have e2:(datj xs).length=xs.length:=by simp [datj]
  rw [e2]
  rw [List.length_cons,Nat.succ_mul] at h1
  have e3:(xs.length+1) * (m+1)=xs.length * m+xs.length+m+1:=by rw [Nat.add_mul,Nat.mul_add];omega
  show _≤(xs.length+1) * (m+1)
  rw [e3]
  simp only [List.length_cons,List.length_nil,Nat.zero_add,Nat.one_mul]
  omega
end Go.Proofs.YtelkmeiepliecaaGreatDoor
