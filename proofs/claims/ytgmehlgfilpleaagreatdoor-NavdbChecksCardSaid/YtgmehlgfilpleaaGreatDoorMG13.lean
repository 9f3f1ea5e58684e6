/-
  Several texts as one.
-/
import Derived.Test.YtgmehlgfilpleaaGreatDoorBase
import Derived.Laws.Rows
import Derived.Deep.WholeRow
import Derived.Test.YtgmehlgfilpleaaGreatDoorMG12
import Derived.Test.YtgmehlgfilpleaaGreatDoorMG01
import Derived.Test.YtgmehlgfilpleaaGreatDoorMG04
import Derived.Laws.Tables
namespace Go.Proofs.YtgmehlgfilpleaaGreatDoor
open Go.RowKit
set_option linter.unusedVariables false
set_option linter.unusedSimpArgs false
section
variable {P:Program} {ops:Array Oper} {rest:List Oper} {o:Oper} {a:Act} {w:World} {Q:Exit→Act→World→Prop}
theorem wpList_load_wide (hgd:o.guard=none) (ty:TypeId) (x:Operand) (ho:o.op=.load ty x) (g k:Nat) (hx:a.eval x=.pointer (some ⟨g,k,none⟩)) (cs:List Value) (n:Nat) (hn:cs.length=n)
  (ha:(isAgg ty).run P w=.ok true w) (hs:(Go.sizeOf ty).run P w=.ok n w) (hc:∀j u,cs[j]? = some u→w.cell? ⟨g,k+j,none⟩=some u)
  (h:wpList P ops Q rest (a.put o.dst (.agg cs.toArray)) w):wpList P ops Q (o::rest) a w:=by
 have hl:(loadCells ⟨g,k,none⟩ cs.length).run P w=.ok cs.toArray w:=run_loadCells_list (P:=P) w ⟨g,k,none⟩ cs (fun j v hv=>by
  have hadd:(⟨g,k,none⟩:Addr).add j=⟨g,k+j,none⟩:=by unfold Addr.add;split <;> simp_all
  rw[hadd];exact hc j v hv)
 rw[hn] at hl
 have hlv:(loadVar ty ⟨g,k,none⟩).run P w=.ok (.agg cs.toArray) w:=by
  simp[loadVar,Sem.run_bind,ha,hs,hl]
 refine wpList_plain hgd fun _ hK => ?_
 unfold Oper.wp execOp
 simp only[ho,hx,Instr.loadAt,Instr.sureAddr,Sem.run_bind,Sem.run_pure,Result.andThen_ok,hlv]
 exact hK _ _ h
theorem wpList_store_last (W:World) (old:Array Value) (hgd:o.guard=none) (ty:TypeId) (x y:Operand) (ho:o.op=.store ty x y) (hx:a.eval x=.pointer (some ⟨W.heap.size,0,none⟩)) (cs:List Value) (hy:a.eval y=.agg cs.toArray)
  (hi:(P.info? ty).map (·.size)=some cs.length) (hold:old.size=cs.length) (h1:∀u∈cs,u.oneCell'=true)
  (h:wpList P ops Q rest (a.put o.dst undef) (W.alloc (.cells cs.toArray ty))):wpList P ops Q (o::rest) a (W.alloc (.cells old ty)):=by
 refine wpList_plain hgd fun _ hK => ?_
 unfold Oper.wp execOp
 have:=run_storeAt_new (P:=P) W ty old cs.toArray (by simpa using hi) (by simpa using hold) (by simpa using h1)
 simp only[ho,hx,hy,Sem.run_bind,Sem.run_pure,Result.andThen_ok,this]
 exact hK _ _ h
end
theorem flatC_at {α : Type} (cf : α → List Value) (k:Nat) (hcf:∀a,(cf a).length=k):∀(l:List α) (i:Nat) (hi:i<l.length) (j:Nat),j<k→(l.flatMap cf)[i*k+j]? = (cf l[i])[j]?
 | a::l,0,_,j,hj=>by
  rw[List.flatMap_cons,Nat.zero_mul,Nat.zero_add,List.getElem?_append_left (by rw[hcf];exact hj)];rfl
 | a::l,i+1,hi,j,hj=>by
  rw[List.flatMap_cons,List.getElem?_append_right (by rw[hcf,Nat.succ_mul];omega),hcf,show(i+1)*k+j-k=i*k+j by rw[Nat.succ_mul];omega]
  exact flatC_at cf k hcf l i (by simpa using hi) j hj
theorem flatC_len {α : Type} (cf : α → List Value) (k:Nat) (hcf:∀a,(cf a).length=k):∀l:List α,(l.flatMap cf).length=l.length*k
 | []=>by simp
 | a::l=>by rw[List.flatMap_cons,List.length_append,hcf,flatC_len cf k hcf l,List.length_cons,Nat.succ_mul];omega
theorem flatC_one {α : Type} {cf : α → List Value} (h:∀a,∀u∈cf a,u.oneCell'=true) (l:List α):∀u∈l.flatMap cf,u.oneCell'=true:=by
 intro u hu
 obtain⟨a,_,ha⟩:=List.mem_flatMap.1 hu
 exact h a u ha
theorem Rd.chunk {α : Type} {w:World} {k:Nat} {v:Value} {l:List α} {cf : α → List Value} (h:Rd w k v l.length (l.flatMap cf)) (hcf:∀a,(cf a).length=k) {i:Nat} (hi:i<l.length) :
  ∃g o c,v=.slice (some ⟨g,o,none⟩) l.length c∧l.length≤c∧c≤maxLen∧g<w.heap.size∧∀j u,(cf l[i])[j]? = some u→w.cell? ⟨g,o+i*k+j,none⟩=some u:=by
 obtain⟨hl,A,c,rfl,hc,hm,hx⟩:=h
 obtain⟨g,o,rfl,hg,hcell⟩:=hx (by omega)
 refine⟨g,o,c,rfl,hc,hm,hg,fun j u hu => ?_⟩
 have hj:j<k:=by rw[←hcf l[i]];exact(List.getElem?_eq_some_iff.1 hu).1
 have h2:=flatC_at cf k hcf l i hi j hj
 rw[hu] at h2
 have h3:=hcell _ _ h2
 rw[show o+(i*k+j)=o+i*k+j by omega] at h3
 exact h3
theorem lgC_len (l:Lg):(lgc l).length=13:=rfl
theorem paC_len (p:Value × Pa):(pac p).length=3:=rfl
theorem prC_len (p:Value × Prc):(prc p).length=4:=rfl
theorem awC_len (p:Value × AwD):(awc p).length=2:=rfl
theorem lgc_one (l:Lg):∀u∈lgc l,u.oneCell'=true:=by
 intro u hu
 unfold lgc at hu
 simp only[List.mem_cons,List.not_mem_nil,or_false] at hu
 rcases hu with rfl|rfl|rfl|rfl|rfl|rfl|rfl|rfl|rfl|rfl|rfl|rfl|rfl <;> rfl
theorem Rd.one {w:World} {k n:Nat} {v:Value} {xs:List Value} (h:Rd w k v n xs):v.oneCell'=true:=by obtain⟨A,c,rfl,_,_⟩:=h.form;rfl
def LgAt (w:World) (g o:Nat) (l:Lg):Prop:=∀j u,(lgc l)[j]? = some u→w.cell? ⟨g,o+j,none⟩=some u
theorem LgsR.at_ {w:World} {v:Value} {l:List Lg} (h:LgsR w v l) {i:Nat} (hi:i<l.length) :
  ∃g o c,v=.slice (some ⟨g,o,none⟩) l.length c∧g<w.heap.size∧LgAt w g (o+i*13) l[i]∧LgOk l[i]:=by
 obtain⟨g,o,c,hv,_,_,hg,hx⟩:=h.1.chunk lgC_len hi
 exact⟨g,o,c,hv,hg,hx,h.2 _ (List.getElem_mem hi)⟩
theorem LgsR.form {w:World} {v:Value} {l:List Lg} (h:LgsR w v l):∃A c,v=.slice A l.length c∧l.length≤c∧c≤maxLen:=h.1.form
structure PaAt (w:World) (g o:Nat) (lv:Value) (x:Pa):Prop where
 c0:w.cell? ⟨g,o,none⟩=some (.int .u8 (x.kd:Int))
 c1:w.cell? ⟨g,o+1,none⟩=some (.string (sb x.nm))
 c2:w.cell? ⟨g,o+2,none⟩=some lv
theorem PasR.form {w:World} {v:Value} {l:List Pa} (h:PasR w v l):∃A c,v=.slice A l.length c∧l.length≤c∧c≤maxLen:=by
 obtain⟨L,rfl,h2,_⟩:=h
 rw[List.length_map];exact h2.form
theorem PasR.at_ {w:World} {v:Value} {l:List Pa} (h:PasR w v l) {i:Nat} (hi:i<l.length) :
  ∃g o c lv,v=.slice (some ⟨g,o,none⟩) l.length c∧g<w.heap.size∧PaAt w g (o+i*3) lv l[i]∧l[i].nm.length≤maxLen∧l[i].kd<256∧LgsR w lv l[i].lg:=by
 obtain⟨L,rfl,h2,h3⟩:=h
 rw[List.length_map] at hi
 obtain⟨g,o,c,hv,_,_,hg,hx⟩:=h2.chunk paC_len hi
 have h4:=h3 _ (List.getElem_mem hi)
 rw[List.length_map,List.getElem_map]
 exact⟨g,o,c,L[i].1,hv,hg,⟨hx 0 _ rfl,hx 1 _ rfl,hx 2 _ rfl⟩,h4.1,h4.2.1,h4.2.2⟩
theorem PaAt.below {w w':World} {g o:Nat} {lv:Value} {x:Pa} (h:PaAt w g o lv x) (hg:g<w.heap.size) (hb:Below w.heap.size w w'):PaAt w' g o lv x :=
 ⟨(hb.cell (p:=⟨g,o,none⟩) hg).trans h.c0,(hb.cell (p:=⟨g,o+1,none⟩) hg).trans h.c1,(hb.cell (p:=⟨g,o+2,none⟩) hg).trans h.c2⟩
structure PrAt (w:World) (g o:Nat) (pv:Value) (x:Prc):Prop where
 c0:w.cell? ⟨g,o,none⟩=some (.string (sb x.ap))
 c1:w.cell? ⟨g,o+1,none⟩=some (.string (sb x.nm))
 c2:w.cell? ⟨g,o+2,none⟩=some (.int .u8 (x.kd:Int))
 c3:w.cell? ⟨g,o+3,none⟩=some pv
theorem PrcsR.form {w:World} {v:Value} {l:List Prc} (h:PrcsR w v l):∃A c,v=.slice A l.length c∧l.length≤c∧c≤maxLen:=by
 obtain⟨L,rfl,h2,_⟩:=h
 rw[List.length_map];exact h2.form
theorem PrcsR.at_ {w:World} {v:Value} {l:List Prc} (h:PrcsR w v l) {i:Nat} (hi:i<l.length) :
  ∃g o c pv,v=.slice (some ⟨g,o,none⟩) l.length c∧g<w.heap.size∧PrAt w g (o+i*4) pv l[i]∧l[i].ap.length≤maxLen∧l[i].nm.length≤maxLen∧l[i].kd<256∧PasR w pv l[i].pa:=by
 obtain⟨L,rfl,h2,h3⟩:=h
 rw[List.length_map] at hi
 obtain⟨g,o,c,hv,_,_,hg,hx⟩:=h2.chunk prC_len hi
 have h4:=h3 _ (List.getElem_mem hi)
 rw[List.length_map,List.getElem_map]
 exact⟨g,o,c,L[i].1,hv,hg,⟨hx 0 _ rfl,hx 1 _ rfl,hx 2 _ rfl,hx 3 _ rfl⟩,h4.1,h4.2.1,h4.2.2.1,h4.2.2.2⟩
theorem PrAt.below {w w':World} {g o:Nat} {pv:Value} {x:Prc} (h:PrAt w g o pv x) (hg:g<w.heap.size) (hb:Below w.heap.size w w'):PrAt w' g o pv x :=
 ⟨(hb.cell (p:=⟨g,o,none⟩) hg).trans h.c0,(hb.cell (p:=⟨g,o+1,none⟩) hg).trans h.c1,(hb.cell (p:=⟨g,o+2,none⟩) hg).trans h.c2,(hb.cell (p:=⟨g,o+3,none⟩) hg).trans h.c3⟩
structure AwAt (w:World) (g o:Nat) (av:Value) (x:AwD):Prop where
 c0:w.cell? ⟨g,o,none⟩=some (.string (sb x.nm))
 c1:w.cell? ⟨g,o+1,none⟩=some av
theorem AwsD.form {w:World} {v:Value} {l:List AwD} (h:AwsD w v l):∃A c,v=.slice A l.length c∧l.length≤c∧c≤maxLen:=by
 obtain⟨L,rfl,h2,_⟩:=h
 rw[List.length_map];exact h2.form
theorem AwsD.at_ {w:World} {v:Value} {l:List AwD} (h:AwsD w v l) {i:Nat} (hi:i<l.length) :
  ∃g o c av,v=.slice (some ⟨g,o,none⟩) l.length c∧g<w.heap.size∧AwAt w g (o+i*2) av l[i]∧l[i].nm.length≤maxLen∧PtsR w av l[i].ps:=by
 obtain⟨L,rfl,h2,h3⟩:=h
 rw[List.length_map] at hi
 obtain⟨g,o,c,hv,_,_,hg,hx⟩:=h2.chunk awC_len hi
 have h4:=h3 _ (List.getElem_mem hi)
 rw[List.length_map,List.getElem_map]
 exact⟨g,o,c,L[i].1,hv,hg,⟨hx 0 _ rfl,hx 1 _ rfl⟩,h4.1,h4.2⟩
theorem AwAt.below {w w':World} {g o:Nat} {av:Value} {x:AwD} (h:AwAt w g o av x) (hg:g<w.heap.size) (hb:Below w.heap.size w w'):AwAt w' g o av x :=
 ⟨(hb.cell (p:=⟨g,o,none⟩) hg).trans h.c0,(hb.cell (p:=⟨g,o+1,none⟩) hg).trans h.c1⟩
theorem aggLegD (w:World):(isAgg 65).run Tryz.prog w=.ok true w:=by kernel_rfl
theorem sizeLegD (w:World):(Go.sizeOf 65).run Tryz.prog w=.ok 13 w:=by kernel_rfl
theorem infoLegSD:(Tryz.prog.info? 65).map (·.size)=some 13:=by kernel_rfl
theorem ImB.row {g gb ob c st q:Nat} {bs:List UInt8} {cs:Array Value} {T:TypeId} {s:RS} {w w1:World} (h:ImB g gb ob c st bs q cs T s w w1) (vs:Array Value) (hq:w.heap.size=q):Bx q vs T (w1.setRow q vs)∧RdPTo g gb ob c st bs s w (w1.setRow q vs):=by
 have hx:=setRow_heap w1 q cs vs T (0,0) h.x
 have hf:Frm (· = q) w1 (w1.setRow q vs):=⟨rfl,rfl,rfl,by simp[World.setRow],fun k hk hn=>setRow_other w1 q k vs hn⟩
 refine⟨hx,h.r.r.keep hf (fun e=>h.ne e.symm) h.nb,⟨hf.os.trans h.r.f.os,hf.tape.trans h.r.f.tape,hf.output.trans h.r.f.output,Nat.le_trans h.r.f.size hf.size,fun k hk hn => ?_⟩⟩
 exact(hf.block k (Nat.lt_of_lt_of_le hk h.r.f.size) (by omega)).trans (h.r.f.block k hk hn)
theorem Bx.l4 {b:Nat} {x0 x1 x2 x3 x4 x5 x6 x7 x8 x9 x10 x11 x12:Value} {t:TypeId} {w:World} (h:Bx b #[x0,x1,x2,x3,x4,x5,x6,x7,x8,x9,x10,x11,x12] t w) (u:Value):Bx b #[x0,x1,x2,x3,u,x5,x6,x7,x8,x9,x10,x11,x12] t (w.setCell ⟨b,4,none⟩ u):=h.set 4 u
theorem Bx.l5 {b:Nat} {x0 x1 x2 x3 x4 x5 x6 x7 x8 x9 x10 x11 x12:Value} {t:TypeId} {w:World} (h:Bx b #[x0,x1,x2,x3,x4,x5,x6,x7,x8,x9,x10,x11,x12] t w) (u:Value):Bx b #[x0,x1,x2,x3,x4,u,x6,x7,x8,x9,x10,x11,x12] t (w.setCell ⟨b,5,none⟩ u):=h.set 5 u
theorem Bx.l6 {b:Nat} {x0 x1 x2 x3 x4 x5 x6 x7 x8 x9 x10 x11 x12:Value} {t:TypeId} {w:World} (h:Bx b #[x0,x1,x2,x3,x4,x5,x6,x7,x8,x9,x10,x11,x12] t w) (u:Value):Bx b #[x0,x1,x2,x3,x4,x5,u,x7,x8,x9,x10,x11,x12] t (w.setCell ⟨b,6,none⟩ u):=h.set 6 u
theorem Bx.l7 {b:Nat} {x0 x1 x2 x3 x4 x5 x6 x7 x8 x9 x10 x11 x12:Value} {t:TypeId} {w:World} (h:Bx b #[x0,x1,x2,x3,x4,x5,x6,x7,x8,x9,x10,x11,x12] t w) (u:Value):Bx b #[x0,x1,x2,x3,x4,x5,x6,u,x8,x9,x10,x11,x12] t (w.setCell ⟨b,7,none⟩ u):=h.set 7 u
theorem Bx.l8 {b:Nat} {x0 x1 x2 x3 x4 x5 x6 x7 x8 x9 x10 x11 x12:Value} {t:TypeId} {w:World} (h:Bx b #[x0,x1,x2,x3,x4,x5,x6,x7,x8,x9,x10,x11,x12] t w) (u:Value):Bx b #[x0,x1,x2,x3,x4,x5,x6,x7,u,x9,x10,x11,x12] t (w.setCell ⟨b,8,none⟩ u):=h.set 8 u
theorem Bx.l9 {b:Nat} {x0 x1 x2 x3 x4 x5 x6 x7 x8 x9 x10 x11 x12:Value} {t:TypeId} {w:World} (h:Bx b #[x0,x1,x2,x3,x4,x5,x6,x7,x8,x9,x10,x11,x12] t w) (u:Value):Bx b #[x0,x1,x2,x3,x4,x5,x6,x7,x8,u,x10,x11,x12] t (w.setCell ⟨b,9,none⟩ u):=h.set 9 u
theorem Bx.l10 {b:Nat} {x0 x1 x2 x3 x4 x5 x6 x7 x8 x9 x10 x11 x12:Value} {t:TypeId} {w:World} (h:Bx b #[x0,x1,x2,x3,x4,x5,x6,x7,x8,x9,x10,x11,x12] t w) (u:Value):Bx b #[x0,x1,x2,x3,x4,x5,x6,x7,x8,x9,u,x11,x12] t (w.setCell ⟨b,10,none⟩ u):=h.set 10 u
theorem Bx.l11 {b:Nat} {x0 x1 x2 x3 x4 x5 x6 x7 x8 x9 x10 x11 x12:Value} {t:TypeId} {w:World} (h:Bx b #[x0,x1,x2,x3,x4,x5,x6,x7,x8,x9,x10,x11,x12] t w) (u:Value):Bx b #[x0,x1,x2,x3,x4,x5,x6,x7,x8,x9,x10,u,x12] t (w.setCell ⟨b,11,none⟩ u):=h.set 11 u
theorem Bx.l12 {b:Nat} {x0 x1 x2 x3 x4 x5 x6 x7 x8 x9 x10 x11 x12:Value} {t:TypeId} {w:World} (h:Bx b #[x0,x1,x2,x3,x4,x5,x6,x7,x8,x9,x10,x11,x12] t w) (u:Value):Bx b #[x0,x1,x2,x3,x4,x5,x6,x7,x8,x9,x10,x11,u] t (w.setCell ⟨b,12,none⟩ u):=h.set 12 u
theorem RdPTo.box {g gb ob c st q:Nat} {bs:List UInt8} {s:RS} {cs:Array Value} {T:TypeId} {w1 w2:World} (k:RdPTo g gb ob c st bs s w1 w2) (hx:Bx q cs T w1) (hne:q≠g):Bx q cs T w2:=(k.f.block q hx.lt hne).trans hx
theorem ImB.alloc {g gb ob c st q:Nat} {bs:List UInt8} {cs:Array Value} {T:TypeId} {s:RS} {w w1:World} (h:ImB g gb ob c st bs q cs T s w w1) (o:Obj):ImB g gb ob c st bs q cs T s w (w1.alloc o):=by
 have hb:=(Below.refl w1.heap.size w1).alloc (Nat.le_refl _) o
 exact⟨⟨h.r.r.below hb,h.r.f.trans (Frm.of_below hb)⟩,h.x.via hb,h.ne,h.nb⟩
theorem ImB.put {g gb ob c st q b:Nat} {bs:List UInt8} {cs:Array Value} {T:TypeId} {s:RS} {w w1:World} (h:ImB g gb ob c st bs q cs T s w w1) (hb:w.heap.size≤b) (h1:b≠g) (h2:b≠gb) (h3:b≠q) (j:Nat) (u:Value):ImB g gb ob c st bs q cs T s w (w1.setCell ⟨b,j,none⟩ u):=by
 have hf:=frm_set w1 b j u
 refine⟨⟨h.r.r.keep hf (fun e=>h1 e.symm) (fun e=>h2 e.symm),⟨hf.os.trans h.r.f.os,hf.tape.trans h.r.f.tape,hf.output.trans h.r.f.output,Nat.le_trans h.r.f.size hf.size,fun k hk hn => ?_⟩⟩,(hf.block q h.x.lt (fun e=>h3 e.symm)).trans h.x,h.ne,h.nb⟩
 exact(hf.block k (Nat.lt_of_lt_of_le hk h.r.f.size) (by omega)).trans (h.r.f.block k hk hn)
def dbI (h:ImHd) (f a p:Value):Array Value := #[.string (sb h.nm),.int .i64 h.cy,.int .i64 h.fr,.int .i64 h.tu,.int .i64 h.la,.int .i64 h.lo,f,a,p]
def dbZ9:Array Value := #[.string ⟨#[]⟩,.int .i64 0,.int .i64 0,.int .i64 0,.int .i64 0,.int .i64 0,.slice none 0 0,.slice none 0 0,.slice none 0 0]
def secC (s:Sec):List Value:=[.int .u8 (s.1:Int),.int .i64 (s.2.1:Int),.int .i64 (s.2.2.1:Int),.int .i64 (s.2.2.2:Int)]
def seccells (L:List Sec):List Value:=L.flatMap secC
theorem seccells_snoc (L:List Sec) (s:Sec):seccells (L++[s])=seccells L++secC s:=by unfold seccells;rw[List.flatMap_append];simp
def LF (v:Value) (n:Nat):Prop:=∃A c,v=.slice A n c∧(n=0→v=.slice none 0 0)
theorem LF.nil:LF (.slice none 0 0) 0:=⟨_,_,rfl,fun _=>rfl⟩
structure DbK (body:List UInt8) (k:Nat) (db:Array Value) (L:List Sec):Prop where
 ex:∃(f a p:Value) (nf na np:Nat),db=dbI (if k=0 then hd0 else imHdF body) f a p∧LF f nf∧LF a na∧LF p np∧(k<2→nf=0)∧(k<3→na=0)∧(k<4→np=0)∧L.map (·.2.2.2)=([1,nf,na,np]:List Nat).take k
structure RdI (w:World) (q1 q2 gb ob c B:Nat) (body:List UInt8) (db:Array Value) (s:RS) (sv:Value) (L:List Sec) (wr:World):Prop where
 res:Bx w.heap.size dbZ9 30 wr
 rd:RdP q1 gb ob c body.length body s wr
 dbx:Bx q2 db 30 wr
 own:wr.ownsRow B 129 4 sv L.length (seccells L)
 be:Below w.heap.size w wr
 o1:w.heap.size<gb
 o2:gb<q1
 o3:q1<q2
 o4:q2<B
 hi:B≤wr.heap.size
section
variable {w wr wr':World} {q1 q2 gb ob c B:Nat} {body:List UInt8} {db db':Array Value} {s s':RS} {sv:Value} {L:List Sec}
theorem own_keep {S:Nat→Prop} {base:Nat} {w w':World} {e:TypeId} {size n:Nat} {v:Value} {xs:List Value} (h:w.ownsRow base e size v n xs) (hf:Frm S w w') (hS:∀b,base≤b→b<w.heap.size→¬S b):w'.ownsRow base e size v n xs:=by
 obtain⟨hl,h2|⟨b,cap,cur,hv,hb,hh,r⟩⟩:=h
 ·exact⟨hl,.inl h2⟩
 ·exact⟨hl,.inr ⟨b,cap,cur,hv,hb,(hf.block b (heap_lt hh) (hS b hb (heap_lt hh))).trans hh,r⟩⟩
theorem RdI.frm (h:RdI w q1 q2 gb ob c B body db s sv L wr) {S:Nat→Prop} (hf:Frm S wr wr') (hS:∀k,S k→k=q2∨wr.heap.size≤k) (hdb:Bx q2 db' 30 wr'):RdI w q1 q2 gb ob c B body db' s sv L wr':=by
 have o1:=h.o1;have o2:=h.o2;have o3:=h.o3;have o4:=h.o4;have hi:=h.hi
 have hn:∀b,b<wr.heap.size→b≠q2→¬S b:=fun b hb hne hs=>by rcases hS b hs with h1|h1 <;> omega
 refine⟨(hf.block _ (by omega) (hn _ (by omega) (by omega))).trans h.res,h.rd.keep hf (hn _ (by omega) (by omega)) (hn _ (by omega) (by omega)),hdb,own_keep h.own hf (fun b hb hl=>hn b hl (by omega)),h.be.trans (hf.below (by omega) (fun k hk=>by rcases hS k hk with h1|h1 <;> omega)),o1,o2,o3,o4,Nat.le_trans hi hf.size⟩
theorem RdI.below (h:RdI w q1 q2 gb ob c B body db s sv L wr) (hb:Below wr.heap.size wr wr'):RdI w q1 q2 gb ob c B body db s sv L wr' :=
 h.frm (S:=fun _=>False) (Frm.of_below hb) (fun _ hk=>hk.elim) (h.dbx.via hb)
theorem RdI.call (h:RdI w q1 q2 gb ob c B body db s sv L wr) (k:RdPTo q1 gb ob c body.length body s' wr wr'):RdI w q1 q2 gb ob c B body db s' sv L wr':=by
 have o1:=h.o1;have o2:=h.o2;have o3:=h.o3;have o4:=h.o4;have hi:=h.hi
 have hf:=k.f
 refine⟨(hf.block _ (by omega) (by omega)).trans h.res,k.r,(hf.block _ (by omega) (by omega)).trans h.dbx,own_keep h.own hf (fun b hb hl=>by omega),h.be.trans (hf.below (by omega) (fun k hk=>by omega)),o1,o2,o3,o4,Nat.le_trans hi hf.size⟩
theorem RdI.push (h:RdI w q1 q2 gb ob c B body db s sv L wr) {v':Value} {x:Sec} {o:Obj} (hown:wr'.ownsRow B 129 4 v' (L.length+1) (seccells L++secC x)) (hg:(wr.alloc o).grownBy wr' sv.ownBlock):RdI w q1 q2 gb ob c B body db s v' (L++[x]) wr':=by
 have o1:=h.o1;have o2:=h.o2;have o3:=h.o3;have o4:=h.o4;have hi:=h.hi
 have hlo:=h.own.lt
 have hF:Frm (fun b=>B≤b) wr wr':=by
  refine⟨hg.os,hg.tape,hg.output,?_,fun b hb hn => ?_⟩
  ·have:=hg.size
   rw[World.size_alloc] at this;omega
  ·have h1:=hg.block b (by rw[World.size_alloc];omega) (by intro e;have:=(hlo b e.symm).1;omega)
   rw[h1]
   exact((Below.refl wr.heap.size wr).alloc (Nat.le_refl _) o).block b hb
 refine⟨(hF.block _ (by omega) (by omega)).trans h.res,h.rd.keep hF (by omega) (by omega),(hF.block _ (by omega) (by omega)).trans h.dbx,?_,h.be.trans (hF.below (by omega) (fun k hk=>by omega)),o1,o2,o3,o4,Nat.le_trans hi hF.size⟩
 rw[List.length_append,seccells_snoc];exact hown
end
theorem infoDB9:(Tryz.prog.info? 30).map (·.size)=some 9:=by kernel_rfl
theorem aggDB9 (w:World):(isAgg 30).run Tryz.prog w=.ok true w:=by kernel_rfl
theorem sizeDB9 (w:World):(Go.sizeOf 30).run Tryz.prog w=.ok 9 w:=by kernel_rfl
theorem row_below {w W:World} {q:Nat} {cs:Array Value} (h:Below w.heap.size w W) (hq:w.heap.size=q):Below w.heap.size w (W.setRow q cs) :=
 ⟨h.os,h.tape,h.output,by have:=h.size;simp[World.setRow];omega,fun k hk=>(setRow_other W q k cs (by omega)).trans (h.block k hk)⟩
theorem Bx.d6 {q:Nat} {hd:ImHd} {f a p:Value} {t:TypeId} {w:World} (h:Bx q (dbI hd f a p) t w) (u:Value):Bx q (dbI hd u a p) t (w.setCell ⟨q,6,none⟩ u):=h.set 6 u
theorem Bx.h9 {b:Nat} {x0 x1 x2 x3 x4 x5 x6 x7 x8:Value} {t:TypeId} {w:World} (h:Bx b #[x0,x1,x2,x3,x4,x5,x6,x7,x8] t w) (y0 y1 y2 y3 y4 y5:Value) :
  Bx b #[y0,y1,y2,y3,y4,y5,x6,x7,x8] t ((((((w.setCell ⟨b,0,none⟩ y0).setCell ⟨b,1,none⟩ y1).setCell ⟨b,2,none⟩ y2).setCell ⟨b,3,none⟩ y3).setCell ⟨b,4,none⟩ y4).setCell ⟨b,5,none⟩ y5):=by
 have h0:Bx b #[y0,x1,x2,x3,x4,x5,x6,x7,x8] t _:=h.set 0 y0
 have h1:Bx b #[y0,y1,x2,x3,x4,x5,x6,x7,x8] t _:=h0.set 1 y1
 have h2:Bx b #[y0,y1,y2,x3,x4,x5,x6,x7,x8] t _:=h1.set 2 y2
 have h3:Bx b #[y0,y1,y2,y3,x4,x5,x6,x7,x8] t _:=h2.set 3 y3
 have h4:Bx b #[y0,y1,y2,y3,y4,x5,x6,x7,x8] t _:=h3.set 4 y4
 have h5:Bx b #[y0,y1,y2,y3,y4,y5,x6,x7,x8] t _:=h4.set 5 y5
 exact h5
theorem Bx.h6 {q:Nat} {hd:ImHd} {f a p:Value} {t:TypeId} {w:World} (h:Bx q (dbI hd f a p) t w) (y0 y1 y2 y3 y4 y5:Value) :
  Bx q #[y0,y1,y2,y3,y4,y5,f,a,p] t ((((((w.setCell ⟨q,0,none⟩ y0).setCell ⟨q,1,none⟩ y1).setCell ⟨q,2,none⟩ y2).setCell ⟨q,3,none⟩ y3).setCell ⟨q,4,none⟩ y4).setCell ⟨q,5,none⟩ y5):=Bx.h9 h y0 y1 y2 y3 y4 y5
theorem DbK.s0 {body:List UInt8} {L:List Sec} {f a p:Value} {nf na np o n:Nat} (hf:LF f nf) (ha:LF a na) (hp:LF p np) (h1:nf=0) (h2:na=0) (h3:np=0) (hm:L.map (·.2.2.2)=([1,nf,na,np]:List Nat).take 0):DbK body 1 (dbI (imHdF body) f a p) (L++[(1,o,n,1)]) :=
 ⟨f,a,p,nf,na,np,rfl,hf,ha,hp,fun _=>h1,fun _=>h2,fun _=>h3,by rw[List.map_append,hm];rfl⟩
theorem DbK.s1 {body:List UInt8} {L:List Sec} {v a p:Value} {nv nf na np o n:Nat} (hv:LF v nv) (ha:LF a na) (hp:LF p np) (h2:na=0) (h3:np=0) (hm:L.map (·.2.2.2)=([1,nf,na,np]:List Nat).take 1):DbK body 2 (dbI (imHdF body) v a p) (L++[(2,o,n,nv)]) :=
 ⟨v,a,p,nv,na,np,rfl,hv,ha,hp,fun h=>absurd h (by decide),fun _=>h2,fun _=>h3,by rw[List.map_append,hm];rfl⟩
theorem DbK.s2 {body:List UInt8} {L:List Sec} {v f p:Value} {nv nf na np o n:Nat} (hf:LF f nf) (hv:LF v nv) (hp:LF p np) (h3:np=0) (hm:L.map (·.2.2.2)=([1,nf,na,np]:List Nat).take 2):DbK body 3 (dbI (imHdF body) f v p) (L++[(3,o,n,nv)]) :=
 ⟨f,v,p,nf,nv,np,rfl,hf,hv,hp,fun h=>absurd h (by decide),fun h=>absurd h (by decide),fun _=>h3,by rw[List.map_append,hm];rfl⟩
theorem DbK.s3 {body:List UInt8} {L:List Sec} {v f a:Value} {nv nf na np o n:Nat} (hf:LF f nf) (ha:LF a na) (hv:LF v nv) (hm:L.map (·.2.2.2)=([1,nf,na,np]:List Nat).take 3):DbK body 4 (dbI (imHdF body) f a v) (L++[(4,o,n,nv)]) :=
 ⟨f,a,v,nf,na,nv,rfl,hf,ha,hv,fun h=>absurd h (by decide),fun h=>absurd h (by decide),fun h=>absurd h (by decide),by rw[List.map_append,hm];rfl⟩
theorem RdI.step {w wr wr':World} {q1 q2 gb ob c B:Nat} {body:List UInt8} {db db':Array Value} {s:RS} {sv:Value} {L:List Sec} (h:RdI w q1 q2 gb ob c B body db s sv L wr) {S:Nat→Prop} (hf:Frm S wr wr') (hS:∀k,S k→k=q2∨(B≤k∧sv.ownBlock≠some k)) (hdb:Bx q2 db' 30 wr'):RdI w q1 q2 gb ob c B body db' s sv L wr':=by
 have o1:=h.o1;have o2:=h.o2;have o3:=h.o3;have o4:=h.o4;have hi:=h.hi
 have hn:∀b,b<B→b≠q2→¬S b:=fun b hb hne hs=>by rcases hS b hs with h1|h1 <;> omega
 refine⟨(hf.block _ (by omega) (hn _ (by omega) (by omega))).trans h.res,h.rd.keep hf (hn _ (by omega) (by omega)) (hn _ (by omega) (by omega)),hdb,?_,h.be.trans (hf.below (by omega) (fun k hk=>by rcases hS k hk with h1|h1 <;> omega)),o1,o2,o3,o4,Nat.le_trans hi hf.size⟩
 obtain⟨hl,h2|⟨b,cap,cur,hv,hb,hh,r⟩⟩:=h.own
 ·exact⟨hl,.inl h2⟩
 ·refine⟨hl,.inr ⟨b,cap,cur,hv,hb,(hf.block b (heap_lt hh) (fun hs => ?_)).trans hh,r⟩⟩
  rcases hS b hs with h1|⟨_,h1⟩
  ·omega
  ·exact h1 (by rw[hv];rfl)
end Go.Proofs.YtgmehlgfilpleaaGreatDoor
