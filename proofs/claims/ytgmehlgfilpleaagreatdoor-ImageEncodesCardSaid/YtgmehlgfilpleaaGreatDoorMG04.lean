/-
  Several texts as one.
-/
import Derived.Test.YtgmehlgfilpleaaGreatDoorMG01
import Derived.Test.YtgmehlgfilpleaaGreatDoorBase
import Derived.Lib.SplitLaws
import Derived.Test.YtgmehlgfilpleaaGreatDoorMG02
import Derived.IntWalk
import Derived.Maps.AppendAt
import Derived.Laws.OwnMore
import Derived.Tactics
namespace Go.Proofs.YtgmehlgfilpleaaGreatDoor
open Go.RowKit
set_option linter.unusedVariables false
set_option linter.unusedSimpArgs false

section
variable {w w':World} {size n:Nat} {v:Value} {xs:List Value}
end

def RdT (w:World) (e:TypeId) (size:Nat) (v:Value) (n:Nat) (xs:List Value):Prop :=
 Rd w size v n xs∧(n=0∨∃g o c cur z,v=.slice (some ⟨g,o,none⟩) n c∧w.heap[g]? = some (.cells cur e z))
section
variable {w w':World} {size n:Nat} {v:Value} {xs:List Value} {e:TypeId}
theorem RdT.nil (w:World) (e:TypeId) (size:Nat):RdT w e size (.slice none 0 0) 0 []:=⟨Rd.nil w size,.inl rfl⟩
theorem RdT.below (h:RdT w e size v n xs) (hb:Below w.heap.size w w'):RdT w' e size v n xs:=by
 refine⟨h.1.below hb,?_⟩
 rcases h.2 with h0|⟨g,o,c,cur,z,hv,hh⟩
 ·exact .inl h0
 ·exact .inr ⟨g,o,c,cur,z,hv,(hb.block g (heap_lt hh)).trans hh⟩
theorem RdT.alloc (h:RdT w e size v n xs) (o:Obj):RdT (w.alloc o) e size v n xs:=h.below ((Below.refl _ _).alloc (Nat.le_refl _) o)
theorem RdT.of_own {base:Nat} (h:w.ownsRow base e size v n xs):RdT w e size v n xs:=by
 refine⟨Rd.of_own h,?_⟩
 obtain⟨hl,⟨rfl,rfl⟩|⟨g,cap,cur,rfl,hb,hh,_⟩⟩:=h
 ·exact .inl rfl
 ·exact .inr ⟨g,0,cap,cur,_,rfl,hh⟩
theorem RdT.grown {row:Option Nat} (h:RdT w e size v n xs) (hg:w.grownBy w' row) (hr:∀k,row=some k→∃cur e' z,w.heap[k]? = some (.cells cur e' z)∧e'≠e):RdT w' e size v n xs:=by
 obtain⟨⟨hl,A,c,hv,hc,hm,hx⟩,h2⟩:=h
 have same:∀g o c' cur z,0<n→v=.slice (some ⟨g,o,none⟩) n c'→w.heap[g]? = some (.cells cur e z)→w'.heap[g]? = w.heap[g]? := by
  intro g o c' cur z _ _ hh
  refine hg.block g (heap_lt hh) (fun he => ?_)
  obtain⟨cur',e',z',hh',hne⟩:=hr g he.symm
  rw[hh] at hh'
  injection hh' with hh'
  injection hh' with _ ht
  exact hne ht.symm
 refine⟨⟨hl,A,c,hv,hc,hm,fun hn => ?_⟩,?_⟩
 ·obtain⟨g,o,hA,hgl,hcell⟩:=hx hn
  rcases h2 with h0|⟨g',o',c',cur,z,hv',hh⟩
  ·omega
  ·have hg':g=g':=by
    rw[hv,hA] at hv'
    injection hv' with ha
    injection ha with ha
    injection ha
   subst hg'
   have hs:=same g o' c' cur z hn hv' hh
   exact⟨g,o,hA,Nat.lt_of_lt_of_le hgl hg.size,fun j u hu=>(World.cell?_of_block (w:=w) (a:=⟨g,o+j,none⟩) hs).trans (hcell j u hu)⟩
 ·rcases h2 with h0|⟨g',o',c',cur,z,hv',hh⟩
  ·exact .inl h0
  ·rcases Nat.eq_zero_or_pos n with h0|hn
   ·exact .inl h0
   ·exact .inr ⟨g',o',c',cur,z,hv',(same g' o' c' cur z hn hv' hh).trans hh⟩
theorem own_block {base:Nat} (h:w.ownsRow base e size v n xs):∀k,v.ownBlock=some k→∃cur e' z,w.heap[k]? = some (.cells cur e' z)∧e'=e:=by
 intro k hk
 obtain⟨_,⟨rfl,_⟩|⟨g,cap,cur,rfl,_,hh,_⟩⟩:=h
 ·cases hk
 ·have:g=k:=by simpa [Value.ownBlock] using hk
  subst this
  exact⟨cur,e,_,hh,rfl⟩
theorem own_apart {base base' size' n':Nat} {v':Value} {xs':List Value} {e':TypeId} (h:w.ownsRow base e size v n xs) (h':w.ownsRow base' e' size' v' n' xs') (hne:e≠e'):v.ownBlock=none∨v.ownBlock≠v'.ownBlock:=by
 cases hk:v.ownBlock with
 | none=>exact .inl rfl
 | some k =>
  right
  intro hk'
  obtain⟨cur,_,z,hh,rfl⟩:=own_block h k hk
  obtain⟨cur',_,z',hh',rfl⟩:=own_block h' k hk'.symm
  rw[hh] at hh'
  injection hh' with hh'
  injection hh' with _ ht
  exact hne ht
end
abbrev Fld:=List UInt8 × Nat
def fcells (l:List Fld):List Value:=l.flatMap fun f=>[.string (sb f.1),.int .i64 (f.2:Int)]
theorem fcells_snoc (l:List Fld) (f:Fld):fcells (l++[f])=fcells l++[.string (sb f.1),.int .i64 (f.2:Int)]:=by
 unfold fcells;rw[List.flatMap_append];rfl
def fieldsGo (cur:List UInt8) (st pos:Nat):List UInt8→List Fld
 | []=>if cur=[] then [] else [(cur,st+1)]
 | c::l=>if c=32 then (if cur=[] then fieldsGo [] 0 (pos+1) l else (cur,st+1)::fieldsGo [] 0 (pos+1) l)
  else fieldsGo (cur++[c]) (if cur=[] then pos else st) (pos+1) l
def fieldsL (l:List UInt8):List Fld:=fieldsGo [] 0 0 (cutAt 35 l).1
theorem fieldsGo_blank (st pos:Nat) (l:List UInt8):fieldsGo [] st pos (32::l)=fieldsGo [] 0 (pos+1) l:=by
 rw[fieldsGo,if_pos rfl,if_pos rfl]
theorem fieldsGo_token (t:List UInt8):∀(cur:List UInt8) (st pos:Nat) (l:List UInt8),cur≠[]→(∀c∈t,c≠32)→fieldsGo cur st pos (t++l)=fieldsGo (cur++t) st (pos+t.length) l:=by
 induction t with
 | nil=>intro cur st pos l _ _;simp
 | cons c t ih =>
  intro cur st pos l hc ht
  have h1:c≠32:=ht c (by simp)
  rw[List.cons_append,fieldsGo,if_neg h1,if_neg hc,ih _ _ _ _ (by simp) (fun x hx=>ht x (by simp[hx]))]
  rw[List.append_assoc]
  simp only[List.cons_append,List.nil_append,List.length_cons]
  rw[show pos+1+t.length=pos+(t.length+1) by omega]
theorem fieldsGo_start (t:List UInt8) (st pos:Nat) (l:List UInt8) (h0:t≠[]) (ht:∀c∈t,c≠32):fieldsGo [] st pos (t++l)=fieldsGo t pos (pos+t.length) l:=by
 match t,h0 with
 | c::t,_ =>
  have h1:c≠32:=ht c (by simp)
  rw[List.cons_append,fieldsGo,if_neg h1,if_pos rfl,List.nil_append,fieldsGo_token t [c] pos (pos+1) l (by simp) (fun x hx=>ht x (by simp[hx]))]
  simp only[List.cons_append,List.nil_append,List.length_cons]
  rw[show pos+1+t.length=pos+(t.length+1) by omega]
theorem fieldsGo_end (t:List UInt8) (st pos:Nat) (l:List UInt8) (h0:t≠[]) (hl:l=[]∨l.head? = some 32):fieldsGo t st pos l=(t,st+1)::fieldsGo [] 0 pos l:=by
 rcases hl with rfl|hl
 ·rw[fieldsGo,if_neg h0];rfl
 ·match l,hl with
  | c::l,hl =>
   have:c=32:=by simpa using hl
   subst this
   rw[fieldsGo,if_pos rfl,if_neg h0,fieldsGo_blank]

def badC (c:UInt8):Bool:=decide (c.toNat<32) || decide (126<c.toNat)
def okC (c:UInt8):Bool := !badC c
theorem okC_yes {c:UInt8} (h1:(32:Int)≤(c.toNat:Int)) (h2:(c.toNat:Int)≤126):okC c=true:=by
 unfold okC badC;rw[decide_eq_false (by omega),decide_eq_false (by omega)];rfl
theorem okC_no {c:UInt8} (h:(c.toNat:Int)<32∨126<(c.toNat:Int)):okC c=false:=by
 unfold okC badC;rcases h with h|h
 ·rw[decide_eq_true (p:=c.toNat<32) (by omega)];rfl
 ·rw[decide_eq_true (p:=126<c.toNat) (by omega),Bool.or_true];rfl
def splitF (l:List UInt8):List Fld:=if 200<l.length then [] else if l.all okC then fieldsL l else []
def splitCol (l:List UInt8):Int:=if 200<l.length then 201 else if l.all okC then 0 else (l.findIdx badC:Int)+1
def splitErr (l:List UInt8):Int:=if 200<l.length then 3 else if l.all okC then 0 else 4
theorem split_long {l:List UInt8} (h:200<l.length):splitF l=[]∧splitCol l=201∧splitErr l=3:=⟨if_pos h,if_pos h,if_pos h⟩
theorem split_ok {l:List UInt8} (h:l.length≤200) (h2:l.all okC=true):splitF l=fieldsL l∧splitCol l=0∧splitErr l=0:=by
 unfold splitF splitCol splitErr
 simp only[if_neg (show ¬200<l.length by omega),if_pos h2];exact⟨trivial,trivial,trivial⟩
theorem split_bad {l:List UInt8} {k:Nat} (h:l.length≤200) (hk:k<l.length) (h1:(l.take k).all okC=true) (h2:okC l[k]=false):splitF l=[]∧splitCol l=(k:Int)+1∧splitErr l=4:=by
 have ha:¬l.all okC=true:=by rw[all_false_at hk h2];decide
 have hi:l.findIdx badC=k:=by
  rw[List.findIdx_eq hk]
  refine⟨by unfold okC at h2;simpa using h2,fun j hj => ?_⟩
  rw[List.all_eq_true] at h1
  have hjl:j<(l.take k).length:=by rw[List.length_take];omega
  have:=h1 _ (List.getElem_mem hjl)
  rw[List.getElem_take] at this
  unfold okC at this
  simpa using this
 unfold splitF splitCol splitErr
 simp only[if_neg (show ¬200<l.length by omega),if_neg ha,hi];exact⟨trivial,trivial,trivial⟩
theorem cutAt_cons (c x:UInt8) (l:List UInt8):cutAt c (x::l)=if x=c then ([],l,true) else (x::(cutAt c l).1,(cutAt c l).2.1,(cutAt c l).2.2):=rfl
theorem cutAt_mid {c:UInt8} {r:List UInt8}:∀{a:List UInt8},c ∉ a→cutAt c (a++c::r)=(a,r,true)
 | [],_=>by rw[List.nil_append,cutAt_cons,if_pos rfl]
 | x::a,h=>by
  have hx:x≠c:=fun e=>h (by rw[e];simp)
  have ha:c ∉ a:=fun e=>h (List.mem_cons_of_mem _ e)
  rw[List.cons_append,cutAt_cons,if_neg hx,cutAt_mid ha]
theorem cutAt_none {c:UInt8} {l:List UInt8} (h:c ∉ l):cutAt c l=(l,[],false):=by
 rcases cutAt_spec c l with ⟨_,h2,_⟩|⟨h1,_,h3,h4⟩
 ·exact absurd (by rw[h2];simp) h
 ·exact Prod.ext h3 (Prod.ext h4 h1)

def digC (c:UInt8):Bool:=decide (48≤c.toNat)&&decide (c.toNat≤57)
def numV (l:List UInt8):Nat:=l.foldl (fun n c=>10*n+(c.toNat-48)) 0
theorem numV_snoc (l:List UInt8) (c:UInt8):numV (l++[c])=10*numV l+(c.toNat-48):=by unfold numV;rw[List.foldl_append];rfl
theorem fold_lt:∀(l:List UInt8) (acc:Nat),l.all digC=true→l.foldl (fun n c=>10*n+(c.toNat-48)) acc+1≤(acc+1)*10^l.length
 | [],acc,_=>by simp
 | c::l,acc,h=>by
  rw[List.all_cons,Bool.and_eq_true] at h
  have h2:=h.1
  unfold digC at h2
  rw[Bool.and_eq_true,decide_eq_true_iff,decide_eq_true_iff] at h2
  rw[List.foldl_cons,List.length_cons]
  refine Nat.le_trans (fold_lt l _ h.2) ?_
  rw[Nat.pow_succ,Nat.mul_comm (10^l.length) 10,←Nat.mul_assoc]
  exact Nat.mul_le_mul_right _ (by omega)
theorem numV_lt (l:List UInt8) (h:l.all digC=true):numV l<10^l.length:=by
 have:=fold_lt l 0 h
 unfold numV
 omega
def latB (a:Int):Bool:=decide (-32400000≤a)&&decide (a≤32400000)
def lonB (a:Int):Bool:=decide (-64800000<a)&&decide (a≤64800000)
def posB (a b:Int):Bool:=latB a&&lonB b
def joinV (l:List UInt8) (c:Nat):Nat:=numV (l.take c)*360000+numV ((l.drop c).take 2)*6000+numV ((l.drop (c+2)).take 2)*100+numV (l.drop (c+4))
def joinB (l:List UInt8) (c:Nat):Bool:=decide (l.length=c+6)&&l.all digC&&decide (numV ((l.drop c).take 2)<60)&&decide (numV ((l.drop (c+2)).take 2)<60)
def sgnB (l:List UInt8) (p m:UInt8) (c:Nat):Bool:=decide (l.length=c+7)&&(l.headD 0 == p || l.headD 0 == m)&&joinB l.tail c && !(l.headD 0 == m&&decide (joinV l.tail c=0))
def sgnV (l:List UInt8) (m:UInt8) (c:Nat):Int:=if l.headD 0 == m then -(joinV l.tail c:Int) else (joinV l.tail c:Int)
def latPErr (l:List UInt8):Int:=if sgnB l 78 83 2 then (if latB (sgnV l 83 2) then 0 else 2) else 4
def lonPErr (l:List UInt8):Int:=if sgnB l 69 87 3 then (if lonB (sgnV l 87 3) then 0 else 2) else 4
def latPV (l:List UInt8):Int:=if latPErr l=0 then sgnV l 83 2 else 0
def lonPV (l:List UInt8):Int:=if lonPErr l=0 then sgnV l 87 3 else 0
def posPErr (l:List UInt8):Int:=if l.length=19 then (if latPErr (l.take 9)=0 then lonPErr (l.drop 9) else latPErr (l.take 9)) else 4
def posPLat (l:List UInt8):Int:=if posPErr l=0 then latPV (l.take 9) else 0
def posPLon (l:List UInt8):Int:=if posPErr l=0 then lonPV (l.drop 9) else 0


def linesL:List UInt8→List (List UInt8)
 | []=>[[]]
 | c::l=>if c=10 then []::linesL l else (c::(linesL l).headD [])::(linesL l).tail
theorem linesL_ne (l:List UInt8):linesL l≠[]:=by
 cases l with
 | nil=>simp[linesL]
 | cons c l=>unfold linesL;split <;> simp
theorem linesL_eta (l:List UInt8):(linesL l).headD []::(linesL l).tail=linesL l:=by
 cases h:linesL l with
 | nil=>exact absurd h (linesL_ne l)
 | cons a r=>rfl
theorem linesL_cons (c:UInt8) (l:List UInt8):linesL (c::l)=if c=10 then []::linesL l else (c::(linesL l).headD [])::(linesL l).tail:=rfl
theorem linesL_cut (l:List UInt8):linesL l=if (cutAt 10 l).2.2 then (cutAt 10 l).1::linesL (cutAt 10 l).2.1 else [l]:=by
 induction l with
 | nil=>rfl
 | cons c l ih =>
  rw[linesL_cons,cutAt_cons]
  by_cases h:c=10
  ·rw[if_pos h,if_pos h,if_pos rfl]
  ·rw[if_neg h,if_neg h]
   rcases cutAt_spec 10 l with ⟨h1,_,_⟩|⟨h1,_,_,_⟩
   ·rw[h1,if_pos rfl] at ih
    rw[ih,h1,if_pos rfl];rfl
   ·rw[h1,if_neg (by decide)] at ih
    rw[ih,h1,if_neg (by decide)];rfl
theorem linesL_len (l:List UInt8):(linesL l).length≤l.length+1:=by
 induction l with
 | nil=>simp[linesL]
 | cons c l ih =>
  unfold linesL
  have:=linesL_eta l
  have h2:(linesL l).length=(linesL l).tail.length+1:=by rw[←this];simp
  split
  ·simp only[List.length_cons];omega
  ·simp only[List.length_cons];omega
theorem linesL_mem (l:List UInt8):∀x∈linesL l,x.length≤l.length:=by
 induction l with
 | nil=>simp[linesL]
 | cons c l ih =>
  have hh:(linesL l).headD []∈linesL l:=by
   rw[←linesL_eta l];simp
  unfold linesL
  split
  ·intro x hx
   simp only[List.mem_cons] at hx
   rcases hx with rfl|hx
   ·simp
   ·have:=ih x hx;simp only[List.length_cons];omega
  ·intro x hx
   simp only[List.mem_cons] at hx
   rcases hx with rfl|hx
   ·have:=ih _ hh;simp only[List.length_cons];omega
   ·have:=ih x (List.mem_of_mem_tail hx);simp only[List.length_cons];omega

theorem countFrom_succ (sub:List UInt8) (fuel:Nat) (s:List UInt8):Lib.countFrom sub (fuel+1) s=if Lib.index s sub == -1 then 0 else 1+Lib.countFrom sub fuel (s.drop ((Lib.index s sub).toNat+sub.length)):=rfl
theorem countFrom_one (c:UInt8) (fuel:Nat) (s:List UInt8) (h:s.length<fuel):Lib.countFrom [c] fuel s=if (cutAt c s).2.2 then 1+Lib.countFrom [c] (fuel-1) (cutAt c s).2.1 else 0:=by
 match fuel,h with
 | fuel+1,h =>
  rw[countFrom_succ]
  rcases index_one c s with ⟨h1,h2⟩|⟨i,h1,h2⟩
  ·rw[h1,h2];rfl
  ·have e:((i:Int) == -1)=false:=by rw[beq_eq_false_iff_ne];omega
   rw[h1,h2,e]
   rfl
theorem countFrom_fuel (c:UInt8):∀(n:Nat) (f f':Nat) (s:List UInt8),s.length≤n→s.length<f→s.length<f'→Lib.countFrom [c] f s=Lib.countFrom [c] f' s:=by
 intro n
 induction n with
 | zero =>
  intro f f' s h h1 h2
  have:s=[]:=List.eq_nil_of_length_eq_zero (by omega)
  subst this
  rw[countFrom_one c f [] h1,countFrom_one c f' [] h2];rfl
 | succ n ih =>
  intro f f' s h h1 h2
  rw[countFrom_one c f s h1,countFrom_one c f' s h2]
  rcases cutAt_spec c s with ⟨k1,k2,_⟩|⟨k1,_⟩
  ·have hl:(cutAt c s).2.1.length<s.length:=by
    have:=congrArg List.length k2
    rw[List.length_append,List.length_cons] at this
    omega
   rw[k1,ih (f-1) (f'-1) _ (by omega) (by omega) (by omega)]
  ·rw[k1];rfl
theorem splitK_lines:∀(n:Nat) (s:List UInt8),s.length≤n→Lib.splitK [10] 0 (Lib.count s [10]) s=linesL s:=by
 intro n
 induction n with
 | zero =>
  intro s h
  have:s=[]:=List.eq_nil_of_length_eq_zero (by omega)
  subst this
  rfl
 | succ n ih =>
  intro s h
  rw[linesL_cut]
  unfold Lib.count
  rw[countFrom_one 10 _ s (by omega)]
  rcases index_one 10 s with ⟨h1,h2⟩|⟨i,h1,h2⟩
  ·rw[h2];rfl
  ·have hl:(s.drop (i+1)).length<s.length:=by
    rcases cutAt_spec 10 s with ⟨k1,k2,_⟩|⟨k1,_⟩
    ·rw[h2] at k2
     have:=congrArg List.length k2
     rw[List.length_append,List.length_cons] at this
     simp only[] at this ⊢
     omega
    ·rw[h2] at k1;cases k1
   rw[h2]
   simp only[if_true,Nat.add_sub_cancel]
   have e:((i:Int) == -1)=false:=by rw[beq_eq_false_iff_ne];omega
   rw[Nat.add_comm 1,Lib.splitK,h1,e]
   simp only[Bool.false_eq_true,if_false,List.length_cons,List.length_nil,Int.toNat_natCast,Nat.add_zero]
   rw[countFrom_fuel 10 s.length s.length ((s.drop (i+1)).length+1) _ (by omega) (by omega) (by omega)]
   have:=ih (s.drop (i+1)) (by omega)
   unfold Lib.count at this
   rw[Nat.zero_add,this]
theorem rdT_new (w:World) (cs:List Value) (e:TypeId) (size n:Nat) (h:cs.length=n*size) (hm:n≤maxLen):RdT (w.alloc (.cells cs.toArray e)) e size (.slice (some ⟨w.heap.size,0,none⟩) n n) n cs:=by
 have hh:(w.alloc (.cells cs.toArray e)).heap[w.heap.size]? = some (.cells cs.toArray e):=heap_alloc_new w _
 refine⟨⟨h,_,n,rfl,Nat.le_refl _,hm,fun _=>⟨w.heap.size,0,rfl,heap_lt hh,fun j u hu => ?_⟩⟩,.inr ⟨_,_,_,_,_,rfl,hh⟩⟩
 rw[Nat.zero_add,cell_of_row _ _ _ _ _ _ hh]
 simpa using hu
def scells (l:List (List UInt8)):List Value:=l.map fun x=>.string (sb x)
def LinesPost (s:ByteArray) (w:World) (e:Ending) (w':World):Prop :=
 ∃v,e=.returned v∧RdT w' 9 1 v (linesL (bl s)).length (scells (linesL (bl s)))∧Below w.heap.size w w'
theorem splitNl (s:ByteArray) (w:World) (E:Env w) (hs:s.size≤1048576) :
  Calls Tryz.prog 180 #[.string s,.string ⟨#[10]⟩] w (LinesPost s w):=by
 obtain⟨m,hm⟩:=E.most
 refine(Tryz.strings_Split s ⟨#[10]⟩ m w (by omega) hm (by decide)).mono ?_
 rintro e w' ⟨rfl,rfl⟩
 have h1:(Lib.splitB ⟨#[10]⟩ 0 (Lib.countB s ⟨#[10]⟩) s).map bl=linesL (bl s):=by
  have h:=Lib.splitB_data ⟨#[10]⟩ 0 (Lib.countB s ⟨#[10]⟩) s
  exact h.trans (splitK_lines _ _ (Nat.le_refl _))
 have hlen:(Lib.splitB ⟨#[10]⟩ 0 (Lib.countB s ⟨#[10]⟩) s).length=(linesL (bl s)).length:=by rw[←h1,List.length_map]
 have hcnt:Lib.countB s ⟨#[10]⟩+1=(linesL (bl s)).length:=by
  rw[←hlen];exact(Lib.splitB_all ⟨#[10]⟩ (by decide) 0 _ s rfl).symm
 have hc:scells (linesL (bl s))=(Lib.splitB ⟨#[10]⟩ 0 (Lib.countB s ⟨#[10]⟩) s).map Value.string:=by
  unfold scells
  rw[←h1,List.map_map]
  apply List.map_congr_left
  intro x _
  show Value.string (sb (bl x))=_
  rw[sb_bl]
 refine⟨_,rfl,?_,(Below.refl _ _).alloc (Nat.le_refl _) _⟩
 rw[hcnt,hc]
 exact rdT_new w _ _ 1 _ (by rw[List.length_map,hlen,Nat.mul_one]) (by have:=linesL_len (bl s);rw[bl_len] at this;unfold maxLen;omega)

end Go.Proofs.YtgmehlgfilpleaaGreatDoor
namespace Go.Proofs.YtgmehlgfilpleaaGreatDoor
set_option linter.unusedVariables false
set_option linter.unusedSimpArgs false

end Go.Proofs.YtgmehlgfilpleaaGreatDoor
namespace Go.Proofs.YtgmehlgfilpleaaGreatDoor
open Go.RowKit
set_option linter.unusedVariables false
set_option linter.unusedSimpArgs false


def rwyB (l:List UInt8):Bool :=
 decide (4≤l.length)&&decide (l.length≤5)&&(l.take 2 == [82,87])&&digC (l.getD 2 0)&&decide ((l.getD 2 0).toNat≤51)&&digC (l.getD 3 0)
 && decide (1≤10*((l.getD 2 0).toNat-48)+((l.getD 3 0).toNat-48))&&decide (10*((l.getD 2 0).toNat-48)+((l.getD 3 0).toNat-48)≤36)
 && (decide (l.length=4) || l.getD 4 0 == 76 || l.getD 4 0 == 67 || l.getD 4 0 == 82)
def identE (l:List UInt8) (k:Nat):Int:=if nameB l 6&&(k != 6 || rwyB l) then 0 else 5
def locE (l:List UInt8) (k:Nat):Int:=if (k == 6&&nameB l 6) || (k != 6&&shortB l) then 0 else 5
def elevB (k:Nat):Bool:=decide (k=5) || decide (k=6)
def navB (k:Nat):Bool:=decide (k=2) || decide (k=3) || decide (k=4)
def elE (k:Nat) (el:Int):Int:=if elevB k then (if el < -200000∨6000000<el then 2 else 0) else (if el=0 then 0 else 1)
def raE (k:Nat) (ra:Int):Int:=if navB k then (if ra<1∨8000000<ra then 2 else 0) else (if ra=0 then 0 else 1)
def fixE (f:Fx):Int :=
 if f.kd<1∨6<f.kd then 17 else if identE f.id f.kd≠0 then 5 else if locE f.rg f.kd≠0 then 5 else if posB f.lat f.lon=false then 2
 else if elE f.kd f.el≠0 then elE f.kd f.el else raE f.kd f.ra


theorem take_snoc' (s:ByteArray) (k:Nat) (h:k<s.size):(bl s).take (k+1)=(bl s).take k++[s[k]]:=by
 rw[List.take_succ_eq_append_getElem (by rw[bl_len];exact h)];rfl
theorem digC_of {c:UInt8} (h1:(48:Int)≤(c.toNat:Int)) (h2:(c.toNat:Int)≤57):digC c=true:=by
 unfold digC;rw[decide_eq_true (by omega),decide_eq_true (by omega)];rfl
theorem digC_not {c:UInt8} (h:(c.toNat:Int)<48∨57<(c.toNat:Int)):digC c=false:=by
 unfold digC
 rcases h with h|h
 ·rw[decide_eq_false (p:=48≤c.toNat) (by omega)];rfl
 ·rw[decide_eq_false (p:=c.toNat≤57) (by omega),Bool.and_false]
theorem all_take_snoc {s:ByteArray} {k:Nat} (hk:k<s.size) (h:((bl s).take k).all digC=true) (hc:digC s[k]=true):((bl s).take (k+1)).all digC=true:=by
 rw[take_snoc' s k hk,List.all_append,h,List.all_cons,hc];rfl
theorem all_no {s:ByteArray} {k:Nat} (hk:k<s.size) (hc:digC s[k]=false):(bl s).all digC=false :=
 all_false_at (l:=bl s) (k:=k) (by rw[bl_len];exact hk) hc
def DigPost (s:ByteArray) (w:World) (e:Ending) (w':World):Prop:=e=.returned (.tuple #[.int .i64 (if (bl s).all digC then (numV (bl s):Int) else 0),.bool ((bl s).all digC)])∧w=w'
set_option maxRecDepth 100000 in
set_option maxHeartbeats 1000000 in
theorem number_any (s:ByteArray) (w:World) (hs:s.size≤9):Calls Tryz.prog 415 #[.string s] w (DigPost s w):=by
 have HNO:Hid ((bl s).all digC=false→DigPost s w (.returned (.tuple #[.int .i64 0,.bool false])) w):=by
  intro h;unfold DigPost;rw[h];exact⟨rfl,rfl⟩
 have HYES:Hid ((bl s).all digC=true→∀n:Nat,numV (bl s)=n→DigPost s w (.returned (.tuple #[.int .i64 (n:Int),.bool true])) w):=by
  intro h n hn;unfold DigPost;rw[h,hn];exact⟨rfl,rfl⟩
 go_enter Tryz.func415,Tryz.ntmps415
 go_wp2
 go_loop [4,8] (fun nv iv=>∃k n:Nat,k≤s.size∧iv=.int .i64 k∧nv=.int .i64 n∧Hid (numV ((bl s).take k)=n∧((bl s).take k).all digC=true)) (fun _ iv=>s.size-(intOf iv).toNat)
 case atStart=>exact⟨0,0,Nat.zero_le _,rfl,rfl,rfl,rfl⟩
 case round =>
  obtain⟨k,n,hk,rfl,rfl,hn⟩:=hrel
  by_cases hlt:k<s.size
  ·have hb:(n:Int)≤100000000:=by
    have h1:=numV_lt _ hn.out.2
    rw[hn.out.1,List.length_take,bl_len,Nat.min_eq_left hk] at h1
    have h2:10^k≤10^8:=Nat.pow_le_pow_right (by decide) (by omega)
    omega
   have hb0:(0:Int)≤(n:Int):=by omega
   have HST:Hid (numV ((bl s).take (k+1))=10*n+(s[k].toNat-48)):=by
    unfold Hid;rw[take_snoc' s k hlt,numV_snoc,hn.out.1]
   have hki:(k:Int)<(s.size:Int):=by omega
   rcases Int.lt_or_le (s[k].toNat:Int) 48 with h1|h1
   ·have HF:=Lib.hid (all_no hlt (digC_not (.inl h1)))
    go_wp2
    go_ret2
    exact HNO.out HF.out
   ·rcases Int.lt_or_le 57 (s[k].toNat:Int) with h2|h2
    ·have HF:=Lib.hid (all_no hlt (digC_not (.inr h2)))
     go_wp2
     go_ret2
     exact HNO.out HF.out
    ·have HT:=Lib.hid (all_take_snoc hlt hn.out.2 (digC_of h1 h2))
     have HC:Hid (10*(n:Int)+((s[k].toNat:Int)-48)=((10*n+(s[k].toNat-48):Nat):Int)):=by
      unfold Hid;omega
     go_wp2
     go_round
     case rel=>exact⟨k+1,_,hlt,by go_num,congrArg (Value.int .i64) HC.out,HST.out,HT.out⟩
     case measure=>simp[intOf];omega
  ·have HE:Hid ((bl s).take k=bl s):=List.take_of_length_le (by rw[bl_len];omega)
   go_wp2
   go_ret2
   exact HYES.out (by rw[←HE.out];exact hn.out.2) n (by rw[←HE.out];exact hn.out.1)
end Go.Proofs.YtgmehlgfilpleaaGreatDoor
namespace Go.Proofs.YtgmehlgfilpleaaGreatDoor
set_option linter.unusedVariables false
set_option linter.unusedSimpArgs false

end Go.Proofs.YtgmehlgfilpleaaGreatDoor
namespace Go.Proofs.YtgmehlgfilpleaaGreatDoor
open Go.RowKit
set_option linter.unusedVariables false
set_option linter.unusedSimpArgs false
section
variable {P:Program} {w:World}
theorem run_append_noneG (base:Nat) (t ty e:TypeId) (i:TypeInfo) (size c:Nat) (ht:P.underlying t=some (.slice e)) (hi:P.info? e=some i)
  (v:Value) (n:Nat) (xs:List Value) (hown:w.ownsRow base e size v n xs) :
  (Builtin.append_ #[t,t] ty #[v,.slice none 0 c]).run P w=.ok v w:=by
 rcases hown.2 with ⟨rfl,rfl⟩|⟨g,cap,cur,rfl,_,_,hnc,_⟩
 ·simp[Builtin.append_,run_underlying ht,sizeOf,typeInfo,hi,Builtin.lenOf,Builtin.firstCells]
 ·simp[Builtin.append_,run_underlying ht,sizeOf,typeInfo,hi,Builtin.lenOf,Builtin.firstCells,hnc,storeCells]
theorem wpList_append_any {ops:Array Oper} {rest:List Oper} {o:Oper} {a:Act} {Q:Exit→Act→World→Prop} (hgd:o.guard=none) (s x:Operand) (t:TypeId)
  (ho:o.op=.call {callee:=.builtin .append,args := #[s,x],argTypes := #[t,t]})
  (base:Nat) (e:TypeId) (i:TypeInfo) (z:Value) (size bytes:Nat) (ht:P.underlying t=some (.slice e)) (hi:P.info? e=some i) (hz:i.zero=some z)
  (hsize:i.size=size) (hby:i.bytes=bytes) (hzs:z.cells.size=size) (hsz:0<size)
  (v:Value) (n:Nat) (xs:List Value) (hs:a.eval s=v) (hown:w.ownsRow base e size v n xs)
  (A:Option Addr) (m c:Nat) (news:List Value) (hx:a.eval x=.slice A m c) (hl:news.length=m*size) (hA:0<m→∃ad,A=some ad∧∀j u,news[j]? = some u→w.cell? (ad.add j)=some u) (h1:∀u∈news,u.oneCell'=true)
  (h63:n+m≤maxLen) (hbytes:(n+m)*bytes≤140737488355328) (hbase:base≤w.heap.size)
  (h:∀v' w',w'.ownsRow base e size v' (n+m) (xs++news)→w.grownBy w' v.ownBlock→(∀b,v'.ownBlock=some b→v.ownBlock=some b∨w.heap.size≤b)→wpList P ops Q rest (a.put o.dst v') w'):wpList P ops Q (o::rest) a w:=by
 have key:∃v' w',(Builtin.append_ #[t,t] o.type #[v,.slice A m c]).run P w=.ok v' w'∧w'.ownsRow base e size v' (n+m) (xs++news)∧w.grownBy w' v.ownBlock∧(∀b,v'.ownBlock=some b→v.ownBlock=some b∨w.heap.size≤b):=by
  cases A with
  | none =>
   have hm:m=0:=by
    rcases Nat.eq_zero_or_pos m with h0|h0
    ·exact h0
    ·obtain⟨ad,hh,_⟩:=hA h0;cases hh
   subst hm
   have hn:news=[]:=List.eq_nil_of_length_eq_zero (by rw[hl,Nat.zero_mul])
   subst hn
   refine⟨v,w,run_append_noneG base t o.type e i size c ht hi v n xs hown,?_,⟨rfl,rfl,rfl,Nat.le_refl _,fun _ _ _=>rfl⟩,fun b hb=>.inl hb⟩
   rw[Nat.add_zero,List.append_nil];exact hown
  | some ad =>
   have hnews:∀j u,news[j]? = some u→w.cell? (ad.add j)=some u:=by
    rcases Nat.eq_zero_or_pos m with h0|h0
    ·intro j u hu
     have hn:news=[]:=List.eq_nil_of_length_eq_zero (by rw[hl,h0,Nat.zero_mul])
     rw[hn] at hu;simp at hu
    ·obtain⟨ad',hh,hx2⟩:=hA h0
     injection hh with hh
     subst hh
     exact hx2
   obtain⟨v',w',hr,h2,h3,_,h5⟩:=run_append_own_at (P:=P) w base t o.type e i z size bytes ht hi hz hsize hby hzs hsz v n xs hown ad m c news hl hnews h1 h63 hbytes hbase
   refine⟨v',w',hr,h2,h3,fun b hb => ?_⟩
   rcases h5 with h5|h5
   ·rw[h5] at hb;exact .inl hb
   ·rw[h5] at hb
    injection hb with hb
    exact .inr (by omega)
 obtain⟨v',w',hr,h2,h3,h4⟩:=key
 refine wpList_plain hgd fun K hK => ?_
 unfold Oper.wp execOp
 simp only[ho,resolve,invoke,builtin,Sem.run_bind,Sem.run_pure,Result.andThen_ok,List.map_toArray,List.map_cons,List.map_nil,hs,hx,hr]
 exact hK _ _ (h v' w' h2 h3 h4)
end
end Go.Proofs.YtgmehlgfilpleaaGreatDoor
