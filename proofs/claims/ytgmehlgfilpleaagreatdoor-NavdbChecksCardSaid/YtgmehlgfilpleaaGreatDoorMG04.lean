/-
  Several texts as one.
-/
import Derived.Test.YtgmehlgfilpleaaGreatDoorMG03
import Derived.Test.YtgmehlgfilpleaaGreatDoorMG12
import Derived.Laws.BitsAllLaws
import Derived.Laws.BytesString
import Derived.Laws.Cells
import Derived.Lib.SliceRun
import Derived.Maps.AppendAt
import Derived.Laws.OwnMore
import Derived.Tactics
namespace Go.Proofs.YtgmehlgfilpleaaGreatDoor
open Go.RowKit
set_option linter.unusedVariables false
set_option linter.unusedSimpArgs false

section
variable {w w':World} {size n:Nat} {v:Value} {xs:List Value}
end

def RdT (w:World) (e:TypeId) (size:Nat) (v:Value) (n:Nat) (xs:List Value):Prop :=
 Rd w size v n xs∧(n=0∨∃g o c cur z,v=.slice (some ⟨g,o,none⟩) n c∧w.heap[g]? = some (.cells cur e z))
section
variable {w w':World} {size n:Nat} {v:Value} {xs:List Value} {e:TypeId}
theorem RdT.nil (w:World) (e:TypeId) (size:Nat):RdT w e size (.slice none 0 0) 0 []:=⟨Rd.nil w size,.inl rfl⟩
theorem RdT.below (h:RdT w e size v n xs) (hb:Below w.heap.size w w'):RdT w' e size v n xs:=by
 refine⟨h.1.below hb,?_⟩
 rcases h.2 with h0|⟨g,o,c,cur,z,hv,hh⟩
 ·exact .inl h0
 ·exact .inr ⟨g,o,c,cur,z,hv,(hb.block g (heap_lt hh)).trans hh⟩
theorem RdT.alloc (h:RdT w e size v n xs) (o:Obj):RdT (w.alloc o) e size v n xs:=h.below ((Below.refl _ _).alloc (Nat.le_refl _) o)
theorem RdT.of_own {base:Nat} (h:w.ownsRow base e size v n xs):RdT w e size v n xs:=by
 refine⟨Rd.of_own h,?_⟩
 obtain⟨hl,⟨rfl,rfl⟩|⟨g,cap,cur,rfl,hb,hh,_⟩⟩:=h
 ·exact .inl rfl
 ·exact .inr ⟨g,0,cap,cur,_,rfl,hh⟩
theorem RdT.grown {row:Option Nat} (h:RdT w e size v n xs) (hg:w.grownBy w' row) (hr:∀k,row=some k→∃cur e' z,w.heap[k]? = some (.cells cur e' z)∧e'≠e):RdT w' e size v n xs:=by
 obtain⟨⟨hl,A,c,hv,hc,hm,hx⟩,h2⟩:=h
 have same:∀g o c' cur z,0<n→v=.slice (some ⟨g,o,none⟩) n c'→w.heap[g]? = some (.cells cur e z)→w'.heap[g]? = w.heap[g]? := by
  intro g o c' cur z _ _ hh
  refine hg.block g (heap_lt hh) (fun he => ?_)
  obtain⟨cur',e',z',hh',hne⟩:=hr g he.symm
  rw[hh] at hh'
  injection hh' with hh'
  injection hh' with _ ht
  exact hne ht.symm
 refine⟨⟨hl,A,c,hv,hc,hm,fun hn => ?_⟩,?_⟩
 ·obtain⟨g,o,hA,hgl,hcell⟩:=hx hn
  rcases h2 with h0|⟨g',o',c',cur,z,hv',hh⟩
  ·omega
  ·have hg':g=g':=by
    rw[hv,hA] at hv'
    injection hv' with ha
    injection ha with ha
    injection ha
   subst hg'
   have hs:=same g o' c' cur z hn hv' hh
   exact⟨g,o,hA,Nat.lt_of_lt_of_le hgl hg.size,fun j u hu=>(World.cell?_of_block (w:=w) (a:=⟨g,o+j,none⟩) hs).trans (hcell j u hu)⟩
 ·rcases h2 with h0|⟨g',o',c',cur,z,hv',hh⟩
  ·exact .inl h0
  ·rcases Nat.eq_zero_or_pos n with h0|hn
   ·exact .inl h0
   ·exact .inr ⟨g',o',c',cur,z,hv',(same g' o' c' cur z hn hv' hh).trans hh⟩
theorem own_block {base:Nat} (h:w.ownsRow base e size v n xs):∀k,v.ownBlock=some k→∃cur e' z,w.heap[k]? = some (.cells cur e' z)∧e'=e:=by
 intro k hk
 obtain⟨_,⟨rfl,_⟩|⟨g,cap,cur,rfl,_,hh,_⟩⟩:=h
 ·cases hk
 ·have:g=k:=by simpa [Value.ownBlock] using hk
  subst this
  exact⟨cur,e,_,hh,rfl⟩
theorem own_apart {base base' size' n':Nat} {v':Value} {xs':List Value} {e':TypeId} (h:w.ownsRow base e size v n xs) (h':w.ownsRow base' e' size' v' n' xs') (hne:e≠e'):v.ownBlock=none∨v.ownBlock≠v'.ownBlock:=by
 cases hk:v.ownBlock with
 | none=>exact .inl rfl
 | some k =>
  right
  intro hk'
  obtain⟨cur,_,z,hh,rfl⟩:=own_block h k hk
  obtain⟨cur',_,z',hh',rfl⟩:=own_block h' k hk'.symm
  rw[hh] at hh'
  injection hh' with hh'
  injection hh' with _ ht
  exact hne ht
end
abbrev Fld:=List UInt8 × Nat
def fcells (l:List Fld):List Value:=l.flatMap fun f=>[.string (sb f.1),.int .i64 (f.2:Int)]
theorem fcells_snoc (l:List Fld) (f:Fld):fcells (l++[f])=fcells l++[.string (sb f.1),.int .i64 (f.2:Int)]:=by
 unfold fcells;rw[List.flatMap_append];rfl
def fieldsGo (cur:List UInt8) (st pos:Nat):List UInt8→List Fld
 | []=>if cur=[] then [] else [(cur,st+1)]
 | c::l=>if c=32 then (if cur=[] then fieldsGo [] 0 (pos+1) l else (cur,st+1)::fieldsGo [] 0 (pos+1) l)
  else fieldsGo (cur++[c]) (if cur=[] then pos else st) (pos+1) l
def fieldsL (l:List UInt8):List Fld:=fieldsGo [] 0 0 (cutAt 35 l).1
theorem fieldsGo_blank (st pos:Nat) (l:List UInt8):fieldsGo [] st pos (32::l)=fieldsGo [] 0 (pos+1) l:=by
 rw[fieldsGo,if_pos rfl,if_pos rfl]
theorem fieldsGo_token (t:List UInt8):∀(cur:List UInt8) (st pos:Nat) (l:List UInt8),cur≠[]→(∀c∈t,c≠32)→fieldsGo cur st pos (t++l)=fieldsGo (cur++t) st (pos+t.length) l:=by
 induction t with
 | nil=>intro cur st pos l _ _;simp
 | cons c t ih =>
  intro cur st pos l hc ht
  have h1:c≠32:=ht c (by simp)
  rw[List.cons_append,fieldsGo,if_neg h1,if_neg hc,ih _ _ _ _ (by simp) (fun x hx=>ht x (by simp[hx]))]
  rw[List.append_assoc]
  simp only[List.cons_append,List.nil_append,List.length_cons]
  rw[show pos+1+t.length=pos+(t.length+1) by omega]
theorem fieldsGo_start (t:List UInt8) (st pos:Nat) (l:List UInt8) (h0:t≠[]) (ht:∀c∈t,c≠32):fieldsGo [] st pos (t++l)=fieldsGo t pos (pos+t.length) l:=by
 match t,h0 with
 | c::t,_ =>
  have h1:c≠32:=ht c (by simp)
  rw[List.cons_append,fieldsGo,if_neg h1,if_pos rfl,List.nil_append,fieldsGo_token t [c] pos (pos+1) l (by simp) (fun x hx=>ht x (by simp[hx]))]
  simp only[List.cons_append,List.nil_append,List.length_cons]
  rw[show pos+1+t.length=pos+(t.length+1) by omega]
theorem fieldsGo_end (t:List UInt8) (st pos:Nat) (l:List UInt8) (h0:t≠[]) (hl:l=[]∨l.head? = some 32):fieldsGo t st pos l=(t,st+1)::fieldsGo [] 0 pos l:=by
 rcases hl with rfl|hl
 ·rw[fieldsGo,if_neg h0];rfl
 ·match l,hl with
  | c::l,hl =>
   have:c=32:=by simpa using hl
   subst this
   rw[fieldsGo,if_pos rfl,if_neg h0,fieldsGo_blank]

def badC (c:UInt8):Bool:=decide (c.toNat<32) || decide (126<c.toNat)
def okC (c:UInt8):Bool := !badC c
theorem okC_yes {c:UInt8} (h1:(32:Int)≤(c.toNat:Int)) (h2:(c.toNat:Int)≤126):okC c=true:=by
 unfold okC badC;rw[decide_eq_false (by omega),decide_eq_false (by omega)];rfl
theorem okC_no {c:UInt8} (h:(c.toNat:Int)<32∨126<(c.toNat:Int)):okC c=false:=by
 unfold okC badC;rcases h with h|h
 ·rw[decide_eq_true (p:=c.toNat<32) (by omega)];rfl
 ·rw[decide_eq_true (p:=126<c.toNat) (by omega),Bool.or_true];rfl
def splitF (l:List UInt8):List Fld:=if 200<l.length then [] else if l.all okC then fieldsL l else []
def splitCol (l:List UInt8):Int:=if 200<l.length then 201 else if l.all okC then 0 else (l.findIdx badC:Int)+1
def splitErr (l:List UInt8):Int:=if 200<l.length then 3 else if l.all okC then 0 else 4
theorem split_long {l:List UInt8} (h:200<l.length):splitF l=[]∧splitCol l=201∧splitErr l=3:=⟨if_pos h,if_pos h,if_pos h⟩
theorem split_ok {l:List UInt8} (h:l.length≤200) (h2:l.all okC=true):splitF l=fieldsL l∧splitCol l=0∧splitErr l=0:=by
 unfold splitF splitCol splitErr
 simp only[if_neg (show ¬200<l.length by omega),if_pos h2];exact⟨trivial,trivial,trivial⟩
theorem split_bad {l:List UInt8} {k:Nat} (h:l.length≤200) (hk:k<l.length) (h1:(l.take k).all okC=true) (h2:okC l[k]=false):splitF l=[]∧splitCol l=(k:Int)+1∧splitErr l=4:=by
 have ha:¬l.all okC=true:=by rw[all_false_at hk h2];decide
 have hi:l.findIdx badC=k:=by
  rw[List.findIdx_eq hk]
  refine⟨by unfold okC at h2;simpa using h2,fun j hj => ?_⟩
  rw[List.all_eq_true] at h1
  have hjl:j<(l.take k).length:=by rw[List.length_take];omega
  have:=h1 _ (List.getElem_mem hjl)
  rw[List.getElem_take] at this
  unfold okC at this
  simpa using this
 unfold splitF splitCol splitErr
 simp only[if_neg (show ¬200<l.length by omega),if_neg ha,hi];exact⟨trivial,trivial,trivial⟩
theorem cutAt_cons (c x:UInt8) (l:List UInt8):cutAt c (x::l)=if x=c then ([],l,true) else (x::(cutAt c l).1,(cutAt c l).2.1,(cutAt c l).2.2):=rfl
theorem cutAt_mid {c:UInt8} {r:List UInt8}:∀{a:List UInt8},c ∉ a→cutAt c (a++c::r)=(a,r,true)
 | [],_=>by rw[List.nil_append,cutAt_cons,if_pos rfl]
 | x::a,h=>by
  have hx:x≠c:=fun e=>h (by rw[e];simp)
  have ha:c ∉ a:=fun e=>h (List.mem_cons_of_mem _ e)
  rw[List.cons_append,cutAt_cons,if_neg hx,cutAt_mid ha]
theorem cutAt_none {c:UInt8} {l:List UInt8} (h:c ∉ l):cutAt c l=(l,[],false):=by
 rcases cutAt_spec c l with ⟨_,h2,_⟩|⟨h1,_,h3,h4⟩
 ·exact absurd (by rw[h2];simp) h
 ·exact Prod.ext h3 (Prod.ext h4 h1)
theorem RdP.fail {g gb ob c st:Nat} {bs:List UInt8} {a:Nat} {b:Bool} {w:World} (h:RdP g gb ob c st bs (a,b) w):RdPTo g gb ob c st bs (a,true) w (w.setCell ⟨g,3,none⟩ (.bool true)) :=
 ⟨h.to (frm_set w g 3 _) (h.bx.set 3 _) h.at_,frm_set w g 3 _⟩
theorem RdP.on {g gb ob c st:Nat} {bs:List UInt8} {a n:Nat} {w:World} (h:RdP g gb ob c st bs (a,false) w) (hn:a+n≤st):RdPTo g gb ob c st bs (a+n,false) w (w.setCell ⟨g,1,none⟩ (.int .i64 ((a+n:Nat):Int))) :=
 ⟨h.to (frm_set w g 1 _) (h.bx.set 1 _) hn,frm_set w g 1 _⟩
theorem BsA.news {w W:World} {g o:Nat} {bs:List UInt8} (h:BsA w g o bs) (hb:Below w.heap.size w W):∀j u,(bs.map u8c)[j]? = some u→W.cell? ((⟨g,o,none⟩:Addr).add j)=some u:=by
 intro j u hu
 rw[List.getElem?_map] at hu
 cases hj:bs[j]? with
 | none=>rw[hj] at hu;cases hu
 | some b =>
  rw[hj] at hu
  injection hu with hu
  rw[Addr.add_lit,←hu]
  exact(h.below hb).2 j b hj
def BsNew (bs:List UInt8) (w:World) (v:Value) (w':World):Prop:=∃gb c,v=.slice (some ⟨gb,0,none⟩) bs.length c∧bs.length≤c∧c≤maxLen∧w.heap.size≤gb∧BsA w' gb 0 bs∧Below w.heap.size w w'
theorem BsNew.of_own {bs:List UInt8} {w w':World} {g cap:Nat} (h:w'.ownsRow w.heap.size 5 1 (.slice (some ⟨g,0,none⟩) bs.length cap) bs.length (bs.map u8c)) (hb:Below w.heap.size w w'):BsNew bs w (.slice (some ⟨g,0,none⟩) bs.length cap) w':=by
 have hlt:=h.lt g rfl
 have hcs:=h.cells (g:=g) rfl
 obtain⟨_,⟨h2,_⟩|⟨b,cap',cur,hv,_,_,h3,h4,_⟩⟩:=h
 ·cases h2
 ·injection hv with e1 e2 e3
  subst e3
  refine⟨g,cap,rfl,by omega,h4,hlt.1,⟨hlt.2,fun j b hb => ?_⟩,hb⟩
  have:=hcs j (u8c b) (by rw[List.getElem?_map,hb];rfl)
  rwa [Addr.add_lit] at this
def setAll (w:World) (b:Nat):Nat→List Value→World
 | _,[]=>w
 | k,v::vs=>setAll (w.setCell ⟨b,k,none⟩ v) b (k+1) vs
def setArr (cs:Array Value):Nat→List Value→Array Value
 | _,[]=>cs
 | k,v::vs=>setArr (cs.setIfInBounds k v) (k+1) vs
theorem setAll_frm (b:Nat):∀(vs:List Value) (k:Nat) (w:World),Frm (· = b) w (setAll w b k vs)
 | [],_,w=>Frm.refl _ w
 | v::vs,k,w=>(frm_set w b k v).trans (setAll_frm b vs (k+1) _)
theorem setAll_bx {b:Nat} {t:TypeId}:∀(vs:List Value) (k:Nat) (w:World) (cs:Array Value),Bx b cs t w→Bx b (setArr cs k vs) t (setAll w b k vs)
 | [],_,_,_,h=>h
 | v::vs,k,w,cs,h=>setAll_bx vs (k+1) _ _ (h.set k v)
structure ImB (g gb ob c st:Nat) (bs:List UInt8) (q:Nat) (cs:Array Value) (T:TypeId) (s:RS) (w w':World):Prop where
 r:RdPTo g gb ob c st bs s w w'
 x:Bx q cs T w'
 ne:q≠g
 nb:gb≠q
section
variable {g gb ob c st q:Nat} {bs:List UInt8} {cs:Array Value} {T:TypeId} {s s':RS} {w w1 w2:World}
theorem ImB.then_ (h:ImB g gb ob c st bs q cs T s w w1) (k:RdPTo g gb ob c st bs s' w1 w2):ImB g gb ob c st bs q cs T s' w w2 :=
 ⟨h.r.then_ k,(k.f.block q h.x.lt h.ne).trans h.x,h.ne,h.nb⟩
theorem ImB.fin (h:ImB g gb ob c st bs q cs T s w w1) (vs:List Value) (hs:setArr cs 0 vs=vs.toArray) (hq:w.heap.size=q):Bx q vs.toArray T (setAll w1 q 0 vs)∧RdPTo g gb ob c st bs s w (setAll w1 q 0 vs):=by
 have hf:=setAll_frm q vs 0 w1
 have hx:=setAll_bx vs 0 w1 cs h.x
 rw[hs] at hx
 refine⟨hx,h.r.r.keep hf (fun e=>h.ne e.symm) h.nb,⟨hf.os.trans h.r.f.os,hf.tape.trans h.r.f.tape,hf.output.trans h.r.f.output,Nat.le_trans h.r.f.size hf.size,fun k hk hn => ?_⟩⟩
 exact(hf.block k (Nat.lt_of_lt_of_le hk h.r.f.size) (by omega)).trans (h.r.f.block k hk hn)
end
theorem own_form {base:Nat} {w:World} {e:TypeId} {size n:Nat} {v:Value} {xs:List Value} (h:w.ownsRow base e size v n xs):∃A n' c',v=.slice A n' c':=by
 obtain⟨_,⟨rfl,_⟩|⟨b,cap,cur,rfl,_⟩⟩:=h
 ·exact⟨_,_,_,rfl⟩
 ·exact⟨_,_,_,rfl⟩
structure WrR (g B:Nat) (v:Value) (out:List UInt8) (w:World):Prop where
 bx:Bx g #[v] 132 w
 own:w.ownsRow B 5 1 v out.length (out.map u8c)
 hi:B≤w.heap.size
theorem WrR.lo {g B:Nat} {v:Value} {out:List UInt8} {w:World} (h:WrR g B v out w):v.ownBlock≠some g:=fun e=>by
 obtain⟨cur,e',z,hh,he⟩:=own_block h.own g e
 have h5:=h.bx
 unfold Bx at h5
 rw[h5] at hh
 injection hh with hh
 injection hh with _ h6 _
 rw[←h6] at he
 exact absurd he (by decide)
theorem bx_ne {g b:Nat} {v:Value} {w:World} {cur:Array Value} {z:Nat × Nat} (h:Bx g #[v] 132 w) (hh:w.heap[b]? = some (.cells cur 5 z)):b≠g:=fun e=>by
 subst e
 unfold Bx at h
 rw[h] at hh
 injection hh with hh
 injection hh with _ h6 _
 exact absurd h6 (by decide)
structure WrTo (g B:Nat) (v:Value) (out:List UInt8) (w:World) (v':Value) (w':World):Prop where
 r:WrR g B v' out w'
 f:Frm (fun k=>k=g∨v.ownBlock=some k) w w'
 o:∀b,v'.ownBlock=some b→v.ownBlock=some b∨w.heap.size≤b
theorem WrTo.refl {g B:Nat} {v:Value} {out:List UInt8} {w:World} (h:WrR g B v out w):WrTo g B v out w v w:=⟨h,Frm.refl _ _,fun b hb=>.inl hb⟩
theorem WrTo.then_ {g B:Nat} {v v1 v2:Value} {o1 o2:List UInt8} {w w1 w2:World} (h:WrTo g B v o1 w v1 w1) (k:WrTo g B v1 o2 w1 v2 w2):WrTo g B v o2 w v2 w2:=by
 have hs:=h.f.size
 refine⟨k.r,⟨k.f.os.trans h.f.os,k.f.tape.trans h.f.tape,k.f.output.trans h.f.output,Nat.le_trans hs k.f.size,fun b hb hn => ?_⟩,fun b hb => ?_⟩
 ·refine(k.f.block b (by omega) (fun hc => ?_)).trans (h.f.block b hb hn)
  rcases hc with h1|h1
  ·exact hn (.inl h1)
  ·rcases h.o b h1 with h2|h2
   ·exact hn (.inr h2)
   ·omega
 ·rcases k.o b hb with h1|h1
  ·exact h.o b h1
  ·exact .inr (by omega)
theorem WrR.push {g B:Nat} {v v':Value} {out add:List UInt8} {w w3:World} {o:Obj} (h:WrR g B v out w) (hown:w3.ownsRow B 5 1 v' (out.length+add.length) (out.map u8c++add.map u8c)) (hg:(w.alloc o).grownBy w3 v.ownBlock) (ho:∀b,v'.ownBlock=some b→v.ownBlock=some b∨w.heap.size≤b) :
  WrTo g B v (out++add) w v' (w3.setCell ⟨g,0,none⟩ v'):=by
 have hlt:=h.own.lt
 have lo:=h.lo
 have hi:=h.hi
 have hgl:=h.bx.lt
 have hsz:w.heap.size≤w3.heap.size:=by have:=hg.size;rw[World.size_alloc] at this;omega
 have hk:∀k,k<w.heap.size→v.ownBlock≠some k→w3.heap[k]? = w.heap[k]? := fun k hk hn =>
  (hg.block k (by rw[World.size_alloc];omega) (fun e=>hn e.symm)).trans (((Below.refl w.heap.size w).alloc (Nat.le_refl _) o).block k hk)
 have hoth:∀k,k≠g→(w3.setCell ⟨g,0,none⟩ v').heap[k]? = w3.heap[k]? := fun k hk=>heap_setCell_other w3 ⟨g,0,none⟩ k v' (fun e=>hk (by simpa using e))
 have hng:v.ownBlock≠some g:=h.lo
 have hx3:Bx g #[v] 132 w3:=(hk g hgl hng).trans h.bx
 refine⟨⟨hx3.set 0 v',?_,by simp;omega⟩,⟨hg.os,hg.tape,hg.output,by simpa using hsz,fun k hkl hn => ?_⟩,ho⟩
 ·rw[List.length_append,List.map_append]
  obtain⟨hl,h2|⟨b,cap,cur,hv,hb,hh,r⟩⟩:=hown
  ·exact⟨hl,.inl h2⟩
  ·exact⟨hl,.inr ⟨b,cap,cur,hv,hb,(hoth b (bx_ne hx3 hh)).trans hh,r⟩⟩
 ·exact(hoth k (fun e=>hn (.inl e))).trans (hk k hkl (fun e=>hn (.inr e)))
def fourC (x:Int):Array Value := #[.int .u8 (x%256),.int .u8 (x/256%256),.int .u8 (x/65536%256),.int .u8 (x/16777216%256)]
structure Cmp4 (g o q:Nat) (bs:List UInt8) (S:Int) (w wr:World):Prop where
 b:BsA wr g o bs
 x:Bx q (fourC S) 5 wr
 e:Below w.heap.size w wr
theorem Cmp4.drewN {g o q:Nat} {bs:List UInt8} {S:Int} {w wr:World} (h:Cmp4 g o q bs S w wr) (n:Nat):Cmp4 g o q bs S w (wr.drewN n):=⟨h.b.below (below_drewN' (Below.refl _ _) n),h.x,below_drewN' h.e n⟩
section
variable {P:Program} {w:World}
theorem run_append_noneG (base:Nat) (t ty e:TypeId) (i:TypeInfo) (size c:Nat) (ht:P.underlying t=some (.slice e)) (hi:P.info? e=some i)
  (v:Value) (n:Nat) (xs:List Value) (hown:w.ownsRow base e size v n xs) :
  (Builtin.append_ #[t,t] ty #[v,.slice none 0 c]).run P w=.ok v w:=by
 rcases hown.2 with ⟨rfl,rfl⟩|⟨g,cap,cur,rfl,_,_,hnc,_⟩
 ·simp[Builtin.append_,run_underlying ht,sizeOf,typeInfo,hi,Builtin.lenOf,Builtin.firstCells]
 ·simp[Builtin.append_,run_underlying ht,sizeOf,typeInfo,hi,Builtin.lenOf,Builtin.firstCells,hnc,storeCells]
theorem wpList_append_any {ops:Array Oper} {rest:List Oper} {o:Oper} {a:Act} {Q:Exit→Act→World→Prop} (hgd:o.guard=none) (s x:Operand) (t:TypeId)
  (ho:o.op=.call {callee:=.builtin .append,args := #[s,x],argTypes := #[t,t]})
  (base:Nat) (e:TypeId) (i:TypeInfo) (z:Value) (size bytes:Nat) (ht:P.underlying t=some (.slice e)) (hi:P.info? e=some i) (hz:i.zero=some z)
  (hsize:i.size=size) (hby:i.bytes=bytes) (hzs:z.cells.size=size) (hsz:0<size)
  (v:Value) (n:Nat) (xs:List Value) (hs:a.eval s=v) (hown:w.ownsRow base e size v n xs)
  (A:Option Addr) (m c:Nat) (news:List Value) (hx:a.eval x=.slice A m c) (hl:news.length=m*size) (hA:0<m→∃ad,A=some ad∧∀j u,news[j]? = some u→w.cell? (ad.add j)=some u) (h1:∀u∈news,u.oneCell'=true)
  (h63:n+m≤maxLen) (hbytes:(n+m)*bytes≤140737488355328) (hbase:base≤w.heap.size)
  (h:∀v' w',w'.ownsRow base e size v' (n+m) (xs++news)→w.grownBy w' v.ownBlock→(∀b,v'.ownBlock=some b→v.ownBlock=some b∨w.heap.size≤b)→wpList P ops Q rest (a.put o.dst v') w'):wpList P ops Q (o::rest) a w:=by
 have key:∃v' w',(Builtin.append_ #[t,t] o.type #[v,.slice A m c]).run P w=.ok v' w'∧w'.ownsRow base e size v' (n+m) (xs++news)∧w.grownBy w' v.ownBlock∧(∀b,v'.ownBlock=some b→v.ownBlock=some b∨w.heap.size≤b):=by
  cases A with
  | none =>
   have hm:m=0:=by
    rcases Nat.eq_zero_or_pos m with h0|h0
    ·exact h0
    ·obtain⟨ad,hh,_⟩:=hA h0;cases hh
   subst hm
   have hn:news=[]:=List.eq_nil_of_length_eq_zero (by rw[hl,Nat.zero_mul])
   subst hn
   refine⟨v,w,run_append_noneG base t o.type e i size c ht hi v n xs hown,?_,⟨rfl,rfl,rfl,Nat.le_refl _,fun _ _ _=>rfl⟩,fun b hb=>.inl hb⟩
   rw[Nat.add_zero,List.append_nil];exact hown
  | some ad =>
   have hnews:∀j u,news[j]? = some u→w.cell? (ad.add j)=some u:=by
    rcases Nat.eq_zero_or_pos m with h0|h0
    ·intro j u hu
     have hn:news=[]:=List.eq_nil_of_length_eq_zero (by rw[hl,h0,Nat.zero_mul])
     rw[hn] at hu;simp at hu
    ·obtain⟨ad',hh,hx2⟩:=hA h0
     injection hh with hh
     subst hh
     exact hx2
   obtain⟨v',w',hr,h2,h3,_,h5⟩:=run_append_own_at (P:=P) w base t o.type e i z size bytes ht hi hz hsize hby hzs hsz v n xs hown ad m c news hl hnews h1 h63 hbytes hbase
   refine⟨v',w',hr,h2,h3,fun b hb => ?_⟩
   rcases h5 with h5|h5
   ·rw[h5] at hb;exact .inl hb
   ·rw[h5] at hb
    injection hb with hb
    exact .inr (by omega)
 obtain⟨v',w',hr,h2,h3,h4⟩:=key
 refine wpList_plain hgd fun K hK => ?_
 unfold Oper.wp execOp
 simp only[ho,resolve,invoke,builtin,Sem.run_bind,Sem.run_pure,Result.andThen_ok,List.map_toArray,List.map_cons,List.map_nil,hs,hx,hr]
 exact hK _ _ (h v' w' h2 h3 h4)
end
end Go.Proofs.YtgmehlgfilpleaaGreatDoor
