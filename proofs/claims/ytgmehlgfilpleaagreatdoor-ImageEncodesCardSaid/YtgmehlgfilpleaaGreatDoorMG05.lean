/-
  Several texts as one.
-/
import Derived.Test.YtgmehlgfilpleaaGreatDoorMG03
import Derived.Test.YtgmehlgfilpleaaGreatDoorMG04
import Derived.Test.YtgmehlgfilpleaaGreatDoorBase
import Derived.Laws.Rows
import Derived.Deep.WholeRow
import Derived.Laws.Tables
import Derived.Test.YtgmehlgfilpleaaGreatDoorMG15
import Derived.Test.YtgmehlgfilpleaaGreatDoorMG02
import Derived.Test.YtgmehlgfilpleaaGreatDoorMG19
import Derived.Test.YtgmehlgfilpleaaGreatDoorShelf2
namespace Go.Proofs.YtgmehlgfilpleaaGreatDoor
open Go.RowKit
set_option linter.unusedVariables false
set_option linter.unusedSimpArgs false
def setAll (w:World) (b:Nat):Nat→List Value→World
 | _,[]=>w
 | k,v::vs=>setAll (w.setCell ⟨b,k,none⟩ v) b (k+1) vs
theorem setAll_frm (b:Nat):∀(vs:List Value) (k:Nat) (w:World),Frm (· = b) w (setAll w b k vs)
 | [],_,w=>Frm.refl _ w
 | v::vs,k,w=>(frm_set w b k v).trans (setAll_frm b vs (k+1) _)
structure ImB (g gb ob c st:Nat) (bs:List UInt8) (q:Nat) (cs:Array Value) (T:TypeId) (s:RS) (w w':World):Prop where
 r:RdPTo g gb ob c st bs s w w'
 x:Bx q cs T w'
 ne:q≠g
 nb:gb≠q
section
variable {g gb ob c st q:Nat} {bs:List UInt8} {cs:Array Value} {T:TypeId} {s s':RS} {w w1 w2:World}
theorem ImB.then_ (h:ImB g gb ob c st bs q cs T s w w1) (k:RdPTo g gb ob c st bs s' w1 w2):ImB g gb ob c st bs q cs T s' w w2 :=
 ⟨h.r.then_ k,(k.f.block q h.x.lt h.ne).trans h.x,h.ne,h.nb⟩
end
theorem own_frm2 {base g:Nat} {w w':World} {e:TypeId} {size n:Nat} {v:Value} {xs:List Value} (h:w.ownsRow base e size v n xs) (hf:Frm (· = g) w w') (hg:g<base):w'.ownsRow base e size v n xs:=by
 obtain⟨hl,h2|⟨b,cap,cur,hv,hb,hh,r⟩⟩:=h
 ·exact⟨hl,.inl h2⟩
 ·exact⟨hl,.inr ⟨b,cap,cur,hv,hb,(hf.block b (heap_lt hh) (by omega)).trans hh,r⟩⟩
theorem own_form {base:Nat} {w:World} {e:TypeId} {size n:Nat} {v:Value} {xs:List Value} (h:w.ownsRow base e size v n xs):∃A n' c',v=.slice A n' c':=by
 obtain⟨_,⟨rfl,_⟩|⟨b,cap,cur,rfl,_⟩⟩:=h
 ·exact⟨_,_,_,rfl⟩
 ·exact⟨_,_,_,rfl⟩
section
variable {P:Program} {ops:Array Oper} {rest:List Oper} {o:Oper} {a:Act} {w:World} {Q:Exit→Act→World→Prop}
theorem wpList_load_wide (hgd:o.guard=none) (ty:TypeId) (x:Operand) (ho:o.op=.load ty x) (g k:Nat) (hx:a.eval x=.pointer (some ⟨g,k,none⟩)) (cs:List Value) (n:Nat) (hn:cs.length=n)
  (ha:(isAgg ty).run P w=.ok true w) (hs:(Go.sizeOf ty).run P w=.ok n w) (hc:∀j u,cs[j]? = some u→w.cell? ⟨g,k+j,none⟩=some u)
  (h:wpList P ops Q rest (a.put o.dst (.agg cs.toArray)) w):wpList P ops Q (o::rest) a w:=by
 have hl:(loadCells ⟨g,k,none⟩ cs.length).run P w=.ok cs.toArray w:=run_loadCells_list (P:=P) w ⟨g,k,none⟩ cs (fun j v hv=>by
  have hadd:(⟨g,k,none⟩:Addr).add j=⟨g,k+j,none⟩:=by unfold Addr.add;split <;> simp_all
  rw[hadd];exact hc j v hv)
 rw[hn] at hl
 have hlv:(loadVar ty ⟨g,k,none⟩).run P w=.ok (.agg cs.toArray) w:=by
  simp[loadVar,Sem.run_bind,ha,hs,hl]
 refine wpList_plain hgd fun _ hK => ?_
 unfold Oper.wp execOp
 simp only[ho,hx,Instr.loadAt,Instr.sureAddr,Sem.run_bind,Sem.run_pure,Result.andThen_ok,hlv]
 exact hK _ _ h
theorem wpList_store_last (W:World) (old:Array Value) (hgd:o.guard=none) (ty:TypeId) (x y:Operand) (ho:o.op=.store ty x y) (hx:a.eval x=.pointer (some ⟨W.heap.size,0,none⟩)) (cs:List Value) (hy:a.eval y=.agg cs.toArray)
  (hi:(P.info? ty).map (·.size)=some cs.length) (hold:old.size=cs.length) (h1:∀u∈cs,u.oneCell'=true)
  (h:wpList P ops Q rest (a.put o.dst undef) (W.alloc (.cells cs.toArray ty))):wpList P ops Q (o::rest) a (W.alloc (.cells old ty)):=by
 refine wpList_plain hgd fun _ hK => ?_
 unfold Oper.wp execOp
 have:=run_storeAt_new (P:=P) W ty old cs.toArray (by simpa using hi) (by simpa using hold) (by simpa using h1)
 simp only[ho,hx,hy,Sem.run_bind,Sem.run_pure,Result.andThen_ok,this]
 exact hK _ _ h
end
theorem ImB.row {g gb ob c st q:Nat} {bs:List UInt8} {cs:Array Value} {T:TypeId} {s:RS} {w w1:World} (h:ImB g gb ob c st bs q cs T s w w1) (vs:Array Value) (hq:w.heap.size=q):Bx q vs T (w1.setRow q vs)∧RdPTo g gb ob c st bs s w (w1.setRow q vs):=by
 have hx:=setRow_heap w1 q cs vs T (0,0) h.x
 have hf:Frm (· = q) w1 (w1.setRow q vs):=⟨rfl,rfl,rfl,by simp[World.setRow],fun k hk hn=>setRow_other w1 q k vs hn⟩
 refine⟨hx,h.r.r.keep hf (fun e=>h.ne e.symm) h.nb,⟨hf.os.trans h.r.f.os,hf.tape.trans h.r.f.tape,hf.output.trans h.r.f.output,Nat.le_trans h.r.f.size hf.size,fun k hk hn => ?_⟩⟩
 exact(hf.block k (Nat.lt_of_lt_of_le hk h.r.f.size) (by omega)).trans (h.r.f.block k hk hn)
theorem Bx.l4 {b:Nat} {x0 x1 x2 x3 x4 x5 x6 x7 x8 x9 x10 x11 x12:Value} {t:TypeId} {w:World} (h:Bx b #[x0,x1,x2,x3,x4,x5,x6,x7,x8,x9,x10,x11,x12] t w) (u:Value):Bx b #[x0,x1,x2,x3,u,x5,x6,x7,x8,x9,x10,x11,x12] t (w.setCell ⟨b,4,none⟩ u):=h.set 4 u
theorem Bx.l5 {b:Nat} {x0 x1 x2 x3 x4 x5 x6 x7 x8 x9 x10 x11 x12:Value} {t:TypeId} {w:World} (h:Bx b #[x0,x1,x2,x3,x4,x5,x6,x7,x8,x9,x10,x11,x12] t w) (u:Value):Bx b #[x0,x1,x2,x3,x4,u,x6,x7,x8,x9,x10,x11,x12] t (w.setCell ⟨b,5,none⟩ u):=h.set 5 u
theorem Bx.l6 {b:Nat} {x0 x1 x2 x3 x4 x5 x6 x7 x8 x9 x10 x11 x12:Value} {t:TypeId} {w:World} (h:Bx b #[x0,x1,x2,x3,x4,x5,x6,x7,x8,x9,x10,x11,x12] t w) (u:Value):Bx b #[x0,x1,x2,x3,x4,x5,u,x7,x8,x9,x10,x11,x12] t (w.setCell ⟨b,6,none⟩ u):=h.set 6 u
theorem Bx.l7 {b:Nat} {x0 x1 x2 x3 x4 x5 x6 x7 x8 x9 x10 x11 x12:Value} {t:TypeId} {w:World} (h:Bx b #[x0,x1,x2,x3,x4,x5,x6,x7,x8,x9,x10,x11,x12] t w) (u:Value):Bx b #[x0,x1,x2,x3,x4,x5,x6,u,x8,x9,x10,x11,x12] t (w.setCell ⟨b,7,none⟩ u):=h.set 7 u
theorem Bx.l8 {b:Nat} {x0 x1 x2 x3 x4 x5 x6 x7 x8 x9 x10 x11 x12:Value} {t:TypeId} {w:World} (h:Bx b #[x0,x1,x2,x3,x4,x5,x6,x7,x8,x9,x10,x11,x12] t w) (u:Value):Bx b #[x0,x1,x2,x3,x4,x5,x6,x7,u,x9,x10,x11,x12] t (w.setCell ⟨b,8,none⟩ u):=h.set 8 u
theorem Bx.l9 {b:Nat} {x0 x1 x2 x3 x4 x5 x6 x7 x8 x9 x10 x11 x12:Value} {t:TypeId} {w:World} (h:Bx b #[x0,x1,x2,x3,x4,x5,x6,x7,x8,x9,x10,x11,x12] t w) (u:Value):Bx b #[x0,x1,x2,x3,x4,x5,x6,x7,x8,u,x10,x11,x12] t (w.setCell ⟨b,9,none⟩ u):=h.set 9 u
theorem Bx.l10 {b:Nat} {x0 x1 x2 x3 x4 x5 x6 x7 x8 x9 x10 x11 x12:Value} {t:TypeId} {w:World} (h:Bx b #[x0,x1,x2,x3,x4,x5,x6,x7,x8,x9,x10,x11,x12] t w) (u:Value):Bx b #[x0,x1,x2,x3,x4,x5,x6,x7,x8,x9,u,x11,x12] t (w.setCell ⟨b,10,none⟩ u):=h.set 10 u
theorem Bx.l11 {b:Nat} {x0 x1 x2 x3 x4 x5 x6 x7 x8 x9 x10 x11 x12:Value} {t:TypeId} {w:World} (h:Bx b #[x0,x1,x2,x3,x4,x5,x6,x7,x8,x9,x10,x11,x12] t w) (u:Value):Bx b #[x0,x1,x2,x3,x4,x5,x6,x7,x8,x9,x10,u,x12] t (w.setCell ⟨b,11,none⟩ u):=h.set 11 u
theorem Bx.l12 {b:Nat} {x0 x1 x2 x3 x4 x5 x6 x7 x8 x9 x10 x11 x12:Value} {t:TypeId} {w:World} (h:Bx b #[x0,x1,x2,x3,x4,x5,x6,x7,x8,x9,x10,x11,x12] t w) (u:Value):Bx b #[x0,x1,x2,x3,x4,x5,x6,x7,x8,x9,x10,x11,u] t (w.setCell ⟨b,12,none⟩ u):=h.set 12 u
theorem RdPTo.box {g gb ob c st q:Nat} {bs:List UInt8} {s:RS} {cs:Array Value} {T:TypeId} {w1 w2:World} (k:RdPTo g gb ob c st bs s w1 w2) (hx:Bx q cs T w1) (hne:q≠g):Bx q cs T w2:=(k.f.block q hx.lt hne).trans hx
theorem ImB.alloc {g gb ob c st q:Nat} {bs:List UInt8} {cs:Array Value} {T:TypeId} {s:RS} {w w1:World} (h:ImB g gb ob c st bs q cs T s w w1) (o:Obj):ImB g gb ob c st bs q cs T s w (w1.alloc o):=by
 have hb:=(Below.refl w1.heap.size w1).alloc (Nat.le_refl _) o
 exact⟨⟨h.r.r.below hb,h.r.f.trans (Frm.of_below hb)⟩,h.x.via hb,h.ne,h.nb⟩
theorem ImB.put {g gb ob c st q b:Nat} {bs:List UInt8} {cs:Array Value} {T:TypeId} {s:RS} {w w1:World} (h:ImB g gb ob c st bs q cs T s w w1) (hb:w.heap.size≤b) (h1:b≠g) (h2:b≠gb) (h3:b≠q) (j:Nat) (u:Value):ImB g gb ob c st bs q cs T s w (w1.setCell ⟨b,j,none⟩ u):=by
 have hf:=frm_set w1 b j u
 refine⟨⟨h.r.r.keep hf (fun e=>h1 e.symm) (fun e=>h2 e.symm),⟨hf.os.trans h.r.f.os,hf.tape.trans h.r.f.tape,hf.output.trans h.r.f.output,Nat.le_trans h.r.f.size hf.size,fun k hk hn => ?_⟩⟩,(hf.block q h.x.lt (fun e=>h3 e.symm)).trans h.x,h.ne,h.nb⟩
 exact(hf.block k (Nat.lt_of_lt_of_le hk h.r.f.size) (by omega)).trans (h.r.f.block k hk hn)
theorem flatC_at {α : Type} (cf : α → List Value) (k:Nat) (hcf:∀a,(cf a).length=k):∀(l:List α) (i:Nat) (hi:i<l.length) (j:Nat),j<k→(l.flatMap cf)[i*k+j]? = (cf l[i])[j]?
 | a::l,0,_,j,hj=>by
  rw[List.flatMap_cons,Nat.zero_mul,Nat.zero_add,List.getElem?_append_left (by rw[hcf];exact hj)];rfl
 | a::l,i+1,hi,j,hj=>by
  rw[List.flatMap_cons,List.getElem?_append_right (by rw[hcf,Nat.succ_mul];omega),hcf,show(i+1)*k+j-k=i*k+j by rw[Nat.succ_mul];omega]
  exact flatC_at cf k hcf l i (by simpa using hi) j hj
theorem flatC_len {α : Type} (cf : α → List Value) (k:Nat) (hcf:∀a,(cf a).length=k):∀l:List α,(l.flatMap cf).length=l.length*k
 | []=>by simp
 | a::l=>by rw[List.flatMap_cons,List.length_append,hcf,flatC_len cf k hcf l,List.length_cons,Nat.succ_mul];omega
theorem flatC_one {α : Type} {cf : α → List Value} (h:∀a,∀u∈cf a,u.oneCell'=true) (l:List α):∀u∈l.flatMap cf,u.oneCell'=true:=by
 intro u hu
 obtain⟨a,_,ha⟩:=List.mem_flatMap.1 hu
 exact h a u ha
theorem Rd.chunk {α : Type} {w:World} {k:Nat} {v:Value} {l:List α} {cf : α → List Value} (h:Rd w k v l.length (l.flatMap cf)) (hcf:∀a,(cf a).length=k) {i:Nat} (hi:i<l.length) :
  ∃g o c,v=.slice (some ⟨g,o,none⟩) l.length c∧l.length≤c∧c≤maxLen∧g<w.heap.size∧∀j u,(cf l[i])[j]? = some u→w.cell? ⟨g,o+i*k+j,none⟩=some u:=by
 obtain⟨hl,A,c,rfl,hc,hm,hx⟩:=h
 obtain⟨g,o,rfl,hg,hcell⟩:=hx (by omega)
 refine⟨g,o,c,rfl,hc,hm,hg,fun j u hu => ?_⟩
 have hj:j<k:=by rw[←hcf l[i]];exact(List.getElem?_eq_some_iff.1 hu).1
 have h2:=flatC_at cf k hcf l i hi j hj
 rw[hu] at h2
 have h3:=hcell _ _ h2
 rw[show o+(i*k+j)=o+i*k+j by omega] at h3
 exact h3
theorem lgC_len (l:Lg):(lgc l).length=13:=rfl
theorem paC_len (p:Value × Pa):(pac p).length=3:=rfl
theorem prC_len (p:Value × Prc):(prc p).length=4:=rfl
theorem awC_len (p:Value × AwD):(awc p).length=2:=rfl
theorem lgc_one (l:Lg):∀u∈lgc l,u.oneCell'=true:=by
 intro u hu
 unfold lgc at hu
 simp only[List.mem_cons,List.not_mem_nil,or_false] at hu
 rcases hu with rfl|rfl|rfl|rfl|rfl|rfl|rfl|rfl|rfl|rfl|rfl|rfl|rfl <;> rfl
theorem Rd.one {w:World} {k n:Nat} {v:Value} {xs:List Value} (h:Rd w k v n xs):v.oneCell'=true:=by obtain⟨A,c,rfl,_,_⟩:=h.form;rfl
def LgAt (w:World) (g o:Nat) (l:Lg):Prop:=∀j u,(lgc l)[j]? = some u→w.cell? ⟨g,o+j,none⟩=some u
theorem LgsR.at_ {w:World} {v:Value} {l:List Lg} (h:LgsR w v l) {i:Nat} (hi:i<l.length) :
  ∃g o c,v=.slice (some ⟨g,o,none⟩) l.length c∧g<w.heap.size∧LgAt w g (o+i*13) l[i]∧LgOk l[i]:=by
 obtain⟨g,o,c,hv,_,_,hg,hx⟩:=h.1.chunk lgC_len hi
 exact⟨g,o,c,hv,hg,hx,h.2 _ (List.getElem_mem hi)⟩
theorem LgsR.form {w:World} {v:Value} {l:List Lg} (h:LgsR w v l):∃A c,v=.slice A l.length c∧l.length≤c∧c≤maxLen:=h.1.form
structure PaAt (w:World) (g o:Nat) (lv:Value) (x:Pa):Prop where
 c0:w.cell? ⟨g,o,none⟩=some (.int .u8 (x.kd:Int))
 c1:w.cell? ⟨g,o+1,none⟩=some (.string (sb x.nm))
 c2:w.cell? ⟨g,o+2,none⟩=some lv
theorem PasR.form {w:World} {v:Value} {l:List Pa} (h:PasR w v l):∃A c,v=.slice A l.length c∧l.length≤c∧c≤maxLen:=by
 obtain⟨L,rfl,h2,_⟩:=h
 rw[List.length_map];exact h2.form
theorem PasR.at_ {w:World} {v:Value} {l:List Pa} (h:PasR w v l) {i:Nat} (hi:i<l.length) :
  ∃g o c lv,v=.slice (some ⟨g,o,none⟩) l.length c∧g<w.heap.size∧PaAt w g (o+i*3) lv l[i]∧l[i].nm.length≤maxLen∧l[i].kd<256∧LgsR w lv l[i].lg:=by
 obtain⟨L,rfl,h2,h3⟩:=h
 rw[List.length_map] at hi
 obtain⟨g,o,c,hv,_,_,hg,hx⟩:=h2.chunk paC_len hi
 have h4:=h3 _ (List.getElem_mem hi)
 rw[List.length_map,List.getElem_map]
 exact⟨g,o,c,L[i].1,hv,hg,⟨hx 0 _ rfl,hx 1 _ rfl,hx 2 _ rfl⟩,h4.1,h4.2.1,h4.2.2⟩
theorem PaAt.below {w w':World} {g o:Nat} {lv:Value} {x:Pa} (h:PaAt w g o lv x) (hg:g<w.heap.size) (hb:Below w.heap.size w w'):PaAt w' g o lv x :=
 ⟨(hb.cell (p:=⟨g,o,none⟩) hg).trans h.c0,(hb.cell (p:=⟨g,o+1,none⟩) hg).trans h.c1,(hb.cell (p:=⟨g,o+2,none⟩) hg).trans h.c2⟩
structure PrAt (w:World) (g o:Nat) (pv:Value) (x:Prc):Prop where
 c0:w.cell? ⟨g,o,none⟩=some (.string (sb x.ap))
 c1:w.cell? ⟨g,o+1,none⟩=some (.string (sb x.nm))
 c2:w.cell? ⟨g,o+2,none⟩=some (.int .u8 (x.kd:Int))
 c3:w.cell? ⟨g,o+3,none⟩=some pv
theorem PrcsR.form {w:World} {v:Value} {l:List Prc} (h:PrcsR w v l):∃A c,v=.slice A l.length c∧l.length≤c∧c≤maxLen:=by
 obtain⟨L,rfl,h2,_⟩:=h
 rw[List.length_map];exact h2.form
theorem PrcsR.at_ {w:World} {v:Value} {l:List Prc} (h:PrcsR w v l) {i:Nat} (hi:i<l.length) :
  ∃g o c pv,v=.slice (some ⟨g,o,none⟩) l.length c∧g<w.heap.size∧PrAt w g (o+i*4) pv l[i]∧l[i].ap.length≤maxLen∧l[i].nm.length≤maxLen∧l[i].kd<256∧PasR w pv l[i].pa:=by
 obtain⟨L,rfl,h2,h3⟩:=h
 rw[List.length_map] at hi
 obtain⟨g,o,c,hv,_,_,hg,hx⟩:=h2.chunk prC_len hi
 have h4:=h3 _ (List.getElem_mem hi)
 rw[List.length_map,List.getElem_map]
 exact⟨g,o,c,L[i].1,hv,hg,⟨hx 0 _ rfl,hx 1 _ rfl,hx 2 _ rfl,hx 3 _ rfl⟩,h4.1,h4.2.1,h4.2.2.1,h4.2.2.2⟩
theorem PrAt.below {w w':World} {g o:Nat} {pv:Value} {x:Prc} (h:PrAt w g o pv x) (hg:g<w.heap.size) (hb:Below w.heap.size w w'):PrAt w' g o pv x :=
 ⟨(hb.cell (p:=⟨g,o,none⟩) hg).trans h.c0,(hb.cell (p:=⟨g,o+1,none⟩) hg).trans h.c1,(hb.cell (p:=⟨g,o+2,none⟩) hg).trans h.c2,(hb.cell (p:=⟨g,o+3,none⟩) hg).trans h.c3⟩
structure AwAt (w:World) (g o:Nat) (av:Value) (x:AwD):Prop where
 c0:w.cell? ⟨g,o,none⟩=some (.string (sb x.nm))
 c1:w.cell? ⟨g,o+1,none⟩=some av
theorem AwsD.form {w:World} {v:Value} {l:List AwD} (h:AwsD w v l):∃A c,v=.slice A l.length c∧l.length≤c∧c≤maxLen:=by
 obtain⟨L,rfl,h2,_⟩:=h
 rw[List.length_map];exact h2.form
theorem AwsD.at_ {w:World} {v:Value} {l:List AwD} (h:AwsD w v l) {i:Nat} (hi:i<l.length) :
  ∃g o c av,v=.slice (some ⟨g,o,none⟩) l.length c∧g<w.heap.size∧AwAt w g (o+i*2) av l[i]∧l[i].nm.length≤maxLen∧PtsR w av l[i].ps:=by
 obtain⟨L,rfl,h2,h3⟩:=h
 rw[List.length_map] at hi
 obtain⟨g,o,c,hv,_,_,hg,hx⟩:=h2.chunk awC_len hi
 have h4:=h3 _ (List.getElem_mem hi)
 rw[List.length_map,List.getElem_map]
 exact⟨g,o,c,L[i].1,hv,hg,⟨hx 0 _ rfl,hx 1 _ rfl⟩,h4.1,h4.2⟩
theorem AwAt.below {w w':World} {g o:Nat} {av:Value} {x:AwD} (h:AwAt w g o av x) (hg:g<w.heap.size) (hb:Below w.heap.size w w'):AwAt w' g o av x :=
 ⟨(hb.cell (p:=⟨g,o,none⟩) hg).trans h.c0,(hb.cell (p:=⟨g,o+1,none⟩) hg).trans h.c1⟩
theorem aggLegD (w:World):(isAgg 65).run Tryz.prog w=.ok true w:=by kernel_rfl
theorem sizeLegD (w:World):(Go.sizeOf 65).run Tryz.prog w=.ok 13 w:=by kernel_rfl
theorem infoLegSD:(Tryz.prog.info? 65).map (·.size)=some 13:=by kernel_rfl
def KndR (w:World) (v:Value) (k:Nat):Prop:=(kndL k=[]∧v=.slice none 0 0)∨∃g a b d,v=.slice (some ⟨g,0,none⟩) 3 3∧g<w.heap.size∧kndL k=[a,b,d]∧w.cell? ⟨g,0,none⟩=some (.int .u8 (a:Int))∧w.cell? ⟨g,1,none⟩=some (.int .u8 (b:Int))∧w.cell? ⟨g,2,none⟩=some (.int .u8 (d:Int))
theorem KndR.below {w w':World} {v:Value} {k:Nat} (h:KndR w v k) (hb:Below w.heap.size w w'):KndR w' v k:=by
 rcases h with h|⟨g,a,b,d,hv,hg,hk,h0,h1,h2⟩
 ·exact .inl h
 ·exact .inr ⟨g,a,b,d,hv,Nat.lt_of_lt_of_le hg hb.size,hk,(hb.cell (p:=⟨g,0,none⟩) hg).trans h0,(hb.cell (p:=⟨g,1,none⟩) hg).trans h1,(hb.cell (p:=⟨g,2,none⟩) hg).trans h2⟩
theorem KndR.form {w:World} {v:Value} {k:Nat} (h:KndR w v k):∃A n,v=.slice A n n:=by
 rcases h with ⟨_,rfl⟩|⟨g,a,b,d,rfl,_⟩
 ·exact⟨_,_,rfl⟩
 ·exact⟨_,_,rfl⟩
theorem kndR_new {w:World} {a b d k:Nat} (hk:kndL k=[a,b,d]) (t:TypeId):KndR (w.alloc (.cells #[.int .u8 (a:Int),.int .u8 (b:Int),.int .u8 (d:Int)] t)) (.slice (some ⟨w.heap.size,0,none⟩) 3 3) k:=by
 have h:=Bx.last w #[.int .u8 (a:Int),.int .u8 (b:Int),.int .u8 (d:Int)] t
 exact .inr ⟨_,a,b,d,rfl,h.lt,hk,h.cell 0 rfl,h.cell 1 rfl,h.cell 2 rfl⟩
set_option maxHeartbeats 1000000 in
theorem porder_any (k:Nat) (w:World) (hk:k<256):Calls Tryz.prog 70 #[.int .u8 (k:Int)] w fun e w'=>∃v,e=.returned v∧KndR w' v k∧(v=.slice none 0 0↔kndL k=[])∧Below w.heap.size w w':=by
 by_cases h1:k=1
 ·subst h1
  go_enter Tryz.func70,Tryz.ntmps70
  go_wp2
  go_ret
  exact⟨_,rfl,kndR_new (a:=1) (b:=2) (d:=3) rfl _,by simp[kndL],(Below.refl _ _).alloc (Nat.le_refl _) _⟩
 by_cases h2:k=2
 ·subst h2
  go_enter Tryz.func70,Tryz.ntmps70
  go_wp2
  go_ret
  exact⟨_,rfl,kndR_new (a:=3) (b:=2) (d:=1) rfl _,by simp[kndL],(Below.refl _ _).alloc (Nat.le_refl _) _⟩
 by_cases h3:k=3
 ·subst h3
  go_enter Tryz.func70,Tryz.ntmps70
  go_wp2
  go_ret
  exact⟨_,rfl,kndR_new (a:=3) (b:=2) (d:=4) rfl _,by simp[kndL],(Below.refl _ _).alloc (Nat.le_refl _) _⟩
 have e1:((k:Int) == 1)=false:=beq_eq_false_iff_ne.2 (by omega)
 have e2:((k:Int) == 2)=false:=beq_eq_false_iff_ne.2 (by omega)
 have e3:((k:Int) == 3)=false:=beq_eq_false_iff_ne.2 (by omega)
 have HK:Hid (kndL k=[]):=by unfold Hid kndL;rw[if_neg h1,if_neg h2,if_neg h3]
 clear h1 h2 h3
 go_enter Tryz.func70,Tryz.ntmps70
 go_wp2
 go_ret
 exact⟨_,rfl,.inl ⟨HK.out,rfl⟩,by simp[HK.out],Below.refl _ _⟩
def idxK (l:List Nat) (x:Nat):Int:=if x∈l then (l.idxOf x:Int) else -1
theorem idxK_nil (x:Nat):idxK [] x = -1:=rfl
theorem idxK_3 (a b d x:Nat):idxK [a,b,d] x=if a=x then 0 else if b=x then 1 else if d=x then 2 else -1:=by
 unfold idxK
 by_cases h1:a=x
 ·subst h1;simp
 ·by_cases h2:b=x
  ·subst h2;simp[List.idxOf_cons,h1,beq_eq_false_iff_ne.2 h1]
  ·by_cases h3:d=x
   ·subst h3;simp[List.idxOf_cons,h1,h2,beq_eq_false_iff_ne.2 h1,beq_eq_false_iff_ne.2 h2]
   ·have e1:¬x=a:=fun e=>h1 e.symm
    have e2:¬x=b:=fun e=>h2 e.symm
    have e3:¬x=d:=fun e=>h3 e.symm
    simp[h1,h2,h3,e1,e2,e3]
set_option maxHeartbeats 2000000 in
theorem pindex_any (v:Value) (k x:Nat) (w:World) (h:KndR w v k):Calls Tryz.prog 150 #[v,.int .u8 (x:Int)] w fun e w'=>e=.returned (.int .i64 (idxK (kndL k) x))∧w=w':=by
 rcases h with ⟨hk,rfl⟩|⟨g,a,b,d,rfl,hg,hk,c0,c1,c2⟩
 ·rw[hk,idxK_nil]
  go_enter Tryz.func150,Tryz.ntmps150
  go_wp2
  go_loopw [8] (fun iv wr=>iv=.int .i64 0∧w=wr) (fun iv _=>0)
  case atStart=>exact⟨rfl,rfl⟩
  case round =>
   obtain⟨rfl,rfl⟩:=hrel
   go_wp2
   go_ret
   exact⟨rfl,rfl⟩
 ·rw[hk,idxK_3]
  obtain⟨R,hR⟩:∃R:Int,(if a=x then (0:Int) else if b=x then 1 else if d=x then 2 else -1)=R:=⟨_,rfl⟩
  have HR:=Lib.hid hR
  rw[hR]
  clear hR hk
  go_enter Tryz.func150,Tryz.ntmps150
  go_wp2
  go_loopw [8] (fun iv wr=>w=wr∧((iv=.int .i64 0∧Hid True)∨(iv=.int .i64 1∧Hid (a≠x))∨(iv=.int .i64 2∧Hid (a≠x∧b≠x))∨(iv=.int .i64 3∧Hid (a≠x∧b≠x∧d≠x)))) (fun iv _=>3-(intOf iv).toNat)
  case atStart=>exact⟨rfl,.inl ⟨rfl,trivial⟩⟩
  case round =>
   obtain⟨rfl,⟨rfl,hx⟩|⟨rfl,hx⟩|⟨rfl,hx⟩|⟨rfl,hx⟩⟩:=hrel
   ·by_cases hax:a=x
    ·have e:((x:Int) == (a:Int))=true:=by rw[hax];simp
     have HE:Hid (R=0):=by unfold Hid;rw[←HR.out,if_pos hax]
     clear hax
     go_wp2
     go_ret
     exact⟨ret_int HE.out.symm,rfl⟩
    ·have e:((x:Int) == (a:Int))=false:=beq_eq_false_iff_ne.2 (by omega)
     have HX:=Lib.hid hax
     clear hax hx
     go_wp2
     go_roundw
     case rel=>exact⟨by first|rfl|trivial,.inr (.inl ⟨by first|rfl|go_num,HX⟩)⟩
     case measure=>simp[intOf]
   ·by_cases hax:b=x
    ·have e:((x:Int) == (b:Int))=true:=by rw[hax];simp
     have HE:Hid (R=1):=by unfold Hid;rw[←HR.out,if_neg hx.out,if_pos hax]
     clear hax
     go_wp2
     go_ret
     exact⟨ret_int HE.out.symm,rfl⟩
    ·have e:((x:Int) == (b:Int))=false:=beq_eq_false_iff_ne.2 (by omega)
     have HX:Hid (a≠x∧b≠x):=⟨hx.out,hax⟩
     clear hax hx
     go_wp2
     go_roundw
     case rel=>exact⟨by first|rfl|trivial,.inr (.inr (.inl ⟨by first|rfl|go_num,HX⟩))⟩
     case measure=>simp[intOf]
   ·by_cases hax:d=x
    ·have e:((x:Int) == (d:Int))=true:=by rw[hax];simp
     have HE:Hid (R=2):=by unfold Hid;rw[←HR.out,if_neg hx.out.1,if_neg hx.out.2,if_pos hax]
     clear hax
     go_wp2
     go_ret
     exact⟨ret_int HE.out.symm,rfl⟩
    ·have e:((x:Int) == (d:Int))=false:=beq_eq_false_iff_ne.2 (by omega)
     have HX:Hid (a≠x∧b≠x∧d≠x):=⟨hx.out.1,hx.out.2,hax⟩
     clear hax hx
     go_wp2
     go_roundw
     case rel=>exact⟨by first|rfl|trivial,.inr (.inr (.inr ⟨by first|rfl|go_num,HX⟩))⟩
     case measure=>simp[intOf]
   ·have HE:Hid (R = -1):=by unfold Hid;rw[←HR.out,if_neg hx.out.1,if_neg hx.out.2.1,if_neg hx.out.2.2]
    go_wp2
    go_ret
    exact⟨ret_int HE.out.symm,rfl⟩
theorem u8_beq (a b:Nat):((a:Int) == (b:Int))=(a == b):=by rw[Bool.eq_iff_iff,beq_iff_eq,beq_iff_eq];omega
set_option maxRecDepth 100000 in
set_option maxHeartbeats 8000000 in
theorem opens_any (pv:Value) (p:Prc) (k t:Nat) (w:World) (hpv:pv.oneCell'=true) :
  Calls Tryz.prog 152 #[.agg (prc (pv,p)).toArray,.int .u8 (k:Int),.int .u8 (t:Int)] w fun e w'=>e=.returned (.bool (opnB p.kd k t))∧Below w.heap.size w w':=by
 obtain⟨ap,nm,kd,pa⟩:=p
 unfold prc
 simp only
 obtain⟨w0,hw0⟩:∃W,w.alloc (.cells #[.string (sb ap),.string (sb nm),.int .u8 (kd:Int),pv] 57)=W:=⟨_,rfl⟩
 have B0:Hid (Below w.heap.size w w0):=by rw[←hw0];exact(Below.refl _ _).alloc (Nat.le_refl _) _
 have X0:Hid (Bx w.heap.size #[.string (sb ap),.string (sb nm),.int .u8 (kd:Int),pv] 57 w0):=by rw[←hw0];exact Bx.last w _ _
 have x2:=X0.out.cell 2 (u:=.int .u8 (kd:Int)) rfl
 have xl:=X0.out.lt
 have HW0:=Lib.hid hw0
 have HV:Hid (opnB kd k t=(((k == 4 || (k == 1&&kd == 1))&&(t == 3 || t == 4 || t == 7 || t == 8 || t == 10)) || t == 1)):=rfl
 have b4:=u8_beq k 4
 have b1:=u8_beq k 1
 have p1:=u8_beq kd 1
 have t3:=u8_beq t 3
 have t4:=u8_beq t 4
 have t7:=u8_beq t 7
 have t8:=u8_beq t 8
 have t10:=u8_beq t 10
 have t1:=u8_beq t 1
 obtain⟨B4,h4⟩:∃b,(k == 4)=b:=⟨_,rfl⟩
 obtain⟨B1,h1⟩:∃b,(k == 1)=b:=⟨_,rfl⟩
 obtain⟨P1,hp1⟩:∃b,(kd == 1)=b:=⟨_,rfl⟩
 obtain⟨T3,ht3⟩:∃b,(t == 3)=b:=⟨_,rfl⟩
 obtain⟨T4,ht4⟩:∃b,(t == 4)=b:=⟨_,rfl⟩
 obtain⟨T7,ht7⟩:∃b,(t == 7)=b:=⟨_,rfl⟩
 obtain⟨T8,ht8⟩:∃b,(t == 8)=b:=⟨_,rfl⟩
 obtain⟨TA,hta⟩:∃b,(t == 10)=b:=⟨_,rfl⟩
 obtain⟨T1,ht1⟩:∃b,(t == 1)=b:=⟨_,rfl⟩
 rw[h4,h1,hp1,ht3,ht4,ht7,ht8,hta,ht1] at HV
 rw[h4] at b4
 rw[h1] at b1
 rw[hp1] at p1
 rw[ht3] at t3
 rw[ht4] at t4
 rw[ht7] at t7
 rw[ht8] at t8
 rw[hta] at t10
 rw[ht1] at t1
 replace b4:((k:Int) == 4)=B4:=b4
 replace b1:((k:Int) == 1)=B1:=b1
 replace p1:((kd:Int) == 1)=P1:=p1
 replace t3:((t:Int) == 3)=T3:=t3
 replace t4:((t:Int) == 4)=T4:=t4
 replace t7:((t:Int) == 7)=T7:=t7
 replace t8:((t:Int) == 8)=T8:=t8
 replace t10:((t:Int) == 10)=TA:=t10
 replace t1:((t:Int) == 1)=T1:=t1
 rw[HV.out]
 clear HV hw0 h4 h1 hp1 ht3 ht4 ht7 ht8 hta ht1
 go_enter Tryz.func152,Tryz.ntmps152
 go_upto_region 1 with fail
 rw[HW0.out]
 go_cut [17] (fun v wx=>v=.bool (B4 || (B1&&P1))∧Hid (wx=w0))
 ·cases B4
  ·cases B1
   ·go_wp2;go_meet;exact⟨rfl,rfl⟩
   ·cases P1
    ·go_wp2;go_meet;exact⟨rfl,rfl⟩
    ·go_wp2;go_meet;exact⟨rfl,rfl⟩
  ·go_wp2;go_meet;exact⟨rfl,rfl⟩
 ·obtain⟨rfl,hwx⟩:=hcut
  obtain rfl:=hwx.out
  obtain⟨G,hG⟩:∃g,(B4 || (B1&&P1))=g:=⟨_,rfl⟩
  have HG:=Lib.hid hG
  rw[hG]
  clear hG b4 b1 p1 hwx
  cases G
  ·go_wp2;go_ret;exact⟨ret_bool (by rw[HG.out];simp),B0.out⟩
  ·cases T3
   ·cases T4
    ·cases T7
     ·cases T8
      ·cases TA
       ·go_wp2;go_ret;exact⟨ret_bool (by rw[HG.out];simp),B0.out⟩
       ·go_wp2;go_ret;exact⟨ret_bool (by rw[HG.out];simp),B0.out⟩
      ·go_wp2;go_ret;exact⟨ret_bool (by rw[HG.out];simp),B0.out⟩
     ·go_wp2;go_ret;exact⟨ret_bool (by rw[HG.out];simp),B0.out⟩
    ·go_wp2;go_ret;exact⟨ret_bool (by rw[HG.out];simp),B0.out⟩
   ·go_wp2;go_ret;exact⟨ret_bool (by rw[HG.out];simp),B0.out⟩
set_option maxHeartbeats 2000000 in
theorem lfrom_any (t:Nat) (w:World) (ht:t<256):Calls Tryz.prog 228 #[.int .u8 (t:Int)] w fun e w'=>e=.returned (.bool (fromB t))∧w=w':=by
 by_cases h:11≤t∧t≤17
 ·have hc:t=11∨t=12∨t=13∨t=14∨t=15∨t=16∨t=17:=by omega
  clear h ht
  rcases hc with rfl|rfl|rfl|rfl|rfl|rfl|rfl
  all_goals
   go_enter Tryz.func228,Tryz.ntmps228
   go_wp2
   go_ret
   exact⟨rfl,rfl⟩
 ·have HV:Hid (fromB t=false):=by unfold Hid fromB;rw[Bool.eq_false_iff];intro h2;simp only[Bool.and_eq_true,decide_eq_true_eq] at h2;exact h h2
  have e1:((t:Int) == 11)=false:=beq_eq_false_iff_ne.2 (by omega)
  have e2:((t:Int) == 12)=false:=beq_eq_false_iff_ne.2 (by omega)
  have e3:((t:Int) == 13)=false:=beq_eq_false_iff_ne.2 (by omega)
  have e4:((t:Int) == 14)=false:=beq_eq_false_iff_ne.2 (by omega)
  have e5:((t:Int) == 15)=false:=beq_eq_false_iff_ne.2 (by omega)
  have e6:((t:Int) == 16)=false:=beq_eq_false_iff_ne.2 (by omega)
  have e7:((t:Int) == 17)=false:=beq_eq_false_iff_ne.2 (by omega)
  clear h
  go_enter Tryz.func228,Tryz.ntmps228
  go_wp2
  go_ret
  exact⟨ret_bool HV.out.symm,rfl⟩
theorem flw_no {a b:Nat} (h:¬(1≤a∧a≤17)∨¬(1≤b∧b≤17)):flwB a b=false:=by
 unfold flwB
 rcases h with h|h
 ·by_cases h1:1≤a
  ·simp[show ¬a≤17 by omega]
  ·simp[h1]
 ·by_cases h1:1≤b
  ·simp[show ¬b≤17 by omega]
  ·simp[h1]
set_option maxRecDepth 100000 in
set_option maxHeartbeats 40000000 in
theorem lfollows_any (a b:Nat) (w:World) (ha:a<256) (hb:b<256):Calls Tryz.prog 227 #[.int .u8 (a:Int),.int .u8 (b:Int)] w fun e w'=>e=.returned (.bool (flwB a b))∧w=w':=by
 have ka:=fun w=>legKnown_any a w ha
 have kb:=fun w=>legKnown_any b w hb
 by_cases h1:1≤a∧a≤17
 ·by_cases h2:1≤b∧b≤17
  ·rw[decide_eq_true h1] at ka
   rw[decide_eq_true h2] at kb
   by_cases h6:a≤6
   ·have HV:Hid (flwB a b=(b != 1)):=by unfold Hid flwB;simp[h1,h2,h6]
    have ebx:((b:Int) != 1)=(b != 1):=by show(!((b:Int) == 1)) = !(b == 1);rw[show(1:Int)=((1:Nat):Int) from rfl,u8_beq]
    have hc:a=1∨a=2∨a=3∨a=4∨a=5∨a=6:=by omega
    obtain⟨B,hB⟩:∃x,(b != 1)=x:=⟨_,rfl⟩
    rw[hB] at HV ebx
    clear h1 h2 h6 hB ha hb
    rcases hc with rfl|rfl|rfl|rfl|rfl|rfl
    all_goals
     go_enter Tryz.func227,Tryz.ntmps227
     go_wp2_with fail
     refine(ka _).mono ?_
     rintro e w1 ⟨rfl,rfl⟩
     go_wp2_with fail
     refine(kb _).mono ?_
     rintro e w1 ⟨rfl,rfl⟩
     go_wp2
     go_ret
     exact⟨ret_bool HV.out.symm,rfl⟩
   ·have hc:a=7∨a=8∨a=9∨a=10∨a=11∨a=12∨a=13∨a=14∨a=15∨a=16∨a=17:=by omega
    have hd:b=1∨b=2∨b=3∨b=4∨b=5∨b=6∨b=7∨b=8∨b=9∨b=10∨b=11∨b=12∨b=13∨b=14∨b=15∨b=16∨b=17:=by omega
    clear h1 h2 h6 ha hb
    rcases hc with rfl|rfl|rfl|rfl|rfl|rfl|rfl|rfl|rfl|rfl|rfl
    all_goals
     rcases hd with rfl|rfl|rfl|rfl|rfl|rfl|rfl|rfl|rfl|rfl|rfl|rfl|rfl|rfl|rfl|rfl|rfl
    all_goals
     go_enter Tryz.func227,Tryz.ntmps227
     go_wp2_with fail
     refine(ka _).mono ?_
     rintro e w1 ⟨rfl,rfl⟩
     go_wp2_with fail
     refine(kb _).mono ?_
     rintro e w1 ⟨rfl,rfl⟩
     go_wp2
     go_ret
     exact⟨rfl,rfl⟩
  ·rw[decide_eq_true h1] at ka
   rw[decide_eq_false h2] at kb
   have HV:=Lib.hid (flw_no (a:=a) (.inr h2))
   clear h1 h2
   go_enter Tryz.func227,Tryz.ntmps227
   go_wp2_with fail
   refine(ka _).mono ?_
   rintro e w1 ⟨rfl,rfl⟩
   go_wp2_with fail
   refine(kb _).mono ?_
   rintro e w1 ⟨rfl,rfl⟩
   go_wp2
   go_ret
   exact⟨ret_bool HV.out.symm,rfl⟩
 ·rw[decide_eq_false h1] at ka
  have HV:=Lib.hid (flw_no (b:=b) (.inl h1))
  clear h1
  go_enter Tryz.func227,Tryz.ntmps227
  go_wp2_with fail
  refine(ka _).mono ?_
  rintro e w1 ⟨rfl,rfl⟩
  go_wp2
  go_ret
  exact⟨ret_bool HV.out.symm,rfl⟩
theorem Lg.boxes {w w0:World} (a b:Lg) (h:(w.alloc (.cells (lgc a).toArray 65)).alloc (.cells (lgc b).toArray 65)=w0) :
  Below w.heap.size w w0∧Bx w.heap.size (lgc a).toArray 65 w0∧Bx (w.heap.size+1) (lgc b).toArray 65 w0:=by
 subst h
 exact⟨((Below.refl _ _).alloc (Nat.le_refl _) _).alloc (by simp) _,(Bx.last w _ _).grow _,Bx.last2 w _ _ _⟩
set_option maxRecDepth 100000 in
set_option maxHeartbeats 4000000 in
theorem joins_any (a b:Lg) (w:World) (ha:LgOk a) (hb:LgOk b):Calls Tryz.prog 153 #[.agg (lgc a).toArray,.agg (lgc b).toArray] w fun e w'=>e=.returned (.bool (jnB a b))∧Below w.heap.size w w':=by
 have fl:=fun w=>lfollows_any a.ty b.ty w ha.2.2.1 hb.2.2.1
 have fr:=fun w=>lfrom_any b.ty w hb.2.2.1
 have HV:Hid (jnB a b=(flwB a.ty b.ty&&(!fromB b.ty || decide (a.fi=b.fi)))):=rfl
 obtain⟨w0,hw0⟩:∃W,(w.alloc (.cells (lgc a).toArray 65)).alloc (.cells (lgc b).toArray 65)=W:=⟨_,rfl⟩
 obtain⟨b0,X0,Y0⟩:=Lg.boxes a b hw0
 have B0:=Lib.hid b0
 have x0:=X0.cell 0 (u:=.int .u8 (a.ty:Int)) rfl
 have x1:=X0.cell 1 (u:=.string (sb a.fi)) rfl
 have y0:=Y0.cell 0 (u:=.int .u8 (b.ty:Int)) rfl
 have y1:=Y0.cell 1 (u:=.string (sb b.fi)) rfl
 have xl:=X0.lt
 have yl:=Y0.lt
 have es:((sb a.fi).toList == (sb b.fi).toList)=decide (a.fi=b.fi):=by rw[str_eqB,bl_sb,bl_sb]
 obtain⟨F,hF⟩:∃x,flwB a.ty b.ty=x:=⟨_,rfl⟩
 obtain⟨G,hG⟩:∃x,fromB b.ty=x:=⟨_,rfl⟩
 obtain⟨E,hE⟩:∃x,decide (a.fi=b.fi)=x:=⟨_,rfl⟩
 rw[hF] at fl HV
 rw[hG] at fr HV
 rw[hE] at es HV
 rw[HV.out]
 clear HV hF hG hE ha hb b0 X0 Y0
 obtain⟨aty,afi,ace,atn,aov,acr,ads,ara,ath,alo,ahi,asp,arn⟩:=a
 obtain⟨bty,bfi,bce,btn,bov,bcr,bds,bra,bth,blo,bhi,bsp,brn⟩:=b
 unfold lgc at hw0 ⊢
 simp only at x0 x1 y0 y1 es fl fr hw0 ⊢
 have HW0:=Lib.hid hw0
 clear hw0
 go_enter Tryz.func153,Tryz.ntmps153
 go_wp2_with fail
 rw[HW0.out]
 clear HW0
 refine(fl _).mono ?_
 rintro e w1 ⟨rfl,rfl⟩
 cases F
 ·go_wp2
  go_ret
  exact⟨rfl,B0.out⟩
 ·go_wp2_with fail
  refine(fr _).mono ?_
  rintro e w1 ⟨rfl,rfl⟩
  cases G
  ·go_wp2
   go_ret
   exact⟨rfl,B0.out⟩
  ·go_wp2
   go_ret
   exact⟨by first|rfl|simp,B0.out⟩
end Go.Proofs.YtgmehlgfilpleaaGreatDoor
