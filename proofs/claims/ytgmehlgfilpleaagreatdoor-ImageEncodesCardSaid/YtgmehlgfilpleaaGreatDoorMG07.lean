/-
  Several texts as one.
-/
import Derived.Test.YtgmehlgfilpleaaGreatDoorMG06
import Derived.Test.YtgmehlgfilpleaaGreatDoorMG05
import Derived.Lib.AppendStr
import Derived.Deep.RegionLaw
import Derived.Test.YtgmehlgfilpleaaGreatDoorMG15
import Derived.Test.YtgmehlgfilpleaaGreatDoorDbO
import Derived.Test.YtgmehlgfilpleaaGreatDoorCkP
import Derived.SizedLaws
namespace Go.Proofs.YtgmehlgfilpleaaGreatDoor
open Go.RowKit
set_option linter.unusedVariables false
set_option linter.unusedSimpArgs false
def fourC (x:Int):Array Value := #[.int .u8 (x%256),.int .u8 (x/256%256),.int .u8 (x/65536%256),.int .u8 (x/16777216%256)]
set_option maxHeartbeats 2000000 in
theorem rfour_any (x:Int) (w:World) (h0:0≤x) (h1:x<4294967296) :
  Calls Tryz.prog 244 #[.int .u32 x] w fun e w'=>e=.returned (.slice (some ⟨w.heap.size,0,none⟩) 4 4)∧w'=w.alloc (.cells (fourC x) 5):=by
 have hl:x/16777216%256=x/16777216:=by omega
 unfold fourC
 rw[hl]
 clear hl
 go_enter Tryz.func244,Tryz.ntmps244
 go_wp2
 go_ret
 exact⟨rfl,by trivial⟩
structure Cmp4 (g o q:Nat) (bs:List UInt8) (S:Int) (w wr:World):Prop where
 b:BsA wr g o bs
 x:Bx q (fourC S) 5 wr
 e:Below w.heap.size w wr
theorem Cmp4.drewN {g o q:Nat} {bs:List UInt8} {S:Int} {w wr:World} (h:Cmp4 g o q bs S w wr) (n:Nat):Cmp4 g o q bs S w (wr.drewN n):=⟨h.b.below (below_drewN' (Below.refl _ _) n),h.x,below_drewN' h.e n⟩
def dbI (h:ImHd) (f a p:Value):Array Value := #[.string (sb h.nm),.int .i64 h.cy,.int .i64 h.fr,.int .i64 h.tu,.int .i64 h.la,.int .i64 h.lo,f,a,p]
def dbZ9:Array Value := #[.string ⟨#[]⟩,.int .i64 0,.int .i64 0,.int .i64 0,.int .i64 0,.int .i64 0,.slice none 0 0,.slice none 0 0,.slice none 0 0]
def secC (s:Sec):List Value:=[.int .u8 (s.1:Int),.int .i64 (s.2.1:Int),.int .i64 (s.2.2.1:Int),.int .i64 (s.2.2.2:Int)]
def seccells (L:List Sec):List Value:=L.flatMap secC
theorem seccells_snoc (L:List Sec) (s:Sec):seccells (L++[s])=seccells L++secC s:=by unfold seccells;rw[List.flatMap_append];simp
def LF (v:Value) (n:Nat):Prop:=∃A c,v=.slice A n c∧(n=0→v=.slice none 0 0)
theorem LF.nil:LF (.slice none 0 0) 0:=⟨_,_,rfl,fun _=>rfl⟩
structure DbK (body:List UInt8) (k:Nat) (db:Array Value) (L:List Sec):Prop where
 ex:∃(f a p:Value) (nf na np:Nat),db=dbI (if k=0 then hd0 else imHdF body) f a p∧LF f nf∧LF a na∧LF p np∧(k<2→nf=0)∧(k<3→na=0)∧(k<4→np=0)∧L.map (·.2.2.2)=([1,nf,na,np]:List Nat).take k
def rdRes (bs:List UInt8):Int × ImHd × List Sec :=
 if bs.length<4 then (4,hd0,[]) else if opOk bs=false then (12,hd0,[]) else match rdF (bs.take (bs.length-4)) with
  | none=>(4,hd0,[])
  | some (h,l)=>(0,h,l)
def ImReadPost (bs:List UInt8) (w:World) (e:Ending) (w':World):Prop :=
 ∃(f a p sv:Value) (nf na np:Nat),e=.returned (.tuple #[.agg (dbI (rdRes bs).2.1 f a p),sv,.int .i64 (rdRes bs).1])∧Rd w' 4 sv (rdRes bs).2.2.length (seccells (rdRes bs).2.2)∧LF f nf∧LF a na∧LF p np∧((rdRes bs).1=0→(rdRes bs).2.2.map (·.2.2.2)=[1,nf,na,np])∧Below w.heap.size w w'
theorem rdRes_some {bs:List UInt8} (h4:4≤bs.length) (ho:opOk bs=true) {h:ImHd} {l:List Sec} (hr:rdF (bs.take (bs.length-4))=some (h,l)):rdRes bs=(0,h,l):=by
 unfold rdRes;rw[if_neg (by omega),if_neg (by rw[ho];simp),hr]
structure RdI (w:World) (q1 q2 gb ob c B:Nat) (body:List UInt8) (db:Array Value) (s:RS) (sv:Value) (L:List Sec) (wr:World):Prop where
 res:Bx w.heap.size dbZ9 30 wr
 rd:RdP q1 gb ob c body.length body s wr
 dbx:Bx q2 db 30 wr
 own:wr.ownsRow B 129 4 sv L.length (seccells L)
 be:Below w.heap.size w wr
 o1:w.heap.size<gb
 o2:gb<q1
 o3:q1<q2
 o4:q2<B
 hi:B≤wr.heap.size
section
variable {w wr wr':World} {q1 q2 gb ob c B:Nat} {body:List UInt8} {db db':Array Value} {s s':RS} {sv:Value} {L:List Sec}
theorem own_keep {S:Nat→Prop} {base:Nat} {w w':World} {e:TypeId} {size n:Nat} {v:Value} {xs:List Value} (h:w.ownsRow base e size v n xs) (hf:Frm S w w') (hS:∀b,base≤b→b<w.heap.size→¬S b):w'.ownsRow base e size v n xs:=by
 obtain⟨hl,h2|⟨b,cap,cur,hv,hb,hh,r⟩⟩:=h
 ·exact⟨hl,.inl h2⟩
 ·exact⟨hl,.inr ⟨b,cap,cur,hv,hb,(hf.block b (heap_lt hh) (hS b hb (heap_lt hh))).trans hh,r⟩⟩
theorem RdI.frm (h:RdI w q1 q2 gb ob c B body db s sv L wr) {S:Nat→Prop} (hf:Frm S wr wr') (hS:∀k,S k→k=q2∨wr.heap.size≤k) (hdb:Bx q2 db' 30 wr'):RdI w q1 q2 gb ob c B body db' s sv L wr':=by
 have o1:=h.o1;have o2:=h.o2;have o3:=h.o3;have o4:=h.o4;have hi:=h.hi
 have hn:∀b,b<wr.heap.size→b≠q2→¬S b:=fun b hb hne hs=>by rcases hS b hs with h1|h1 <;> omega
 refine⟨(hf.block _ (by omega) (hn _ (by omega) (by omega))).trans h.res,h.rd.keep hf (hn _ (by omega) (by omega)) (hn _ (by omega) (by omega)),hdb,own_keep h.own hf (fun b hb hl=>hn b hl (by omega)),h.be.trans (hf.below (by omega) (fun k hk=>by rcases hS k hk with h1|h1 <;> omega)),o1,o2,o3,o4,Nat.le_trans hi hf.size⟩
theorem RdI.below (h:RdI w q1 q2 gb ob c B body db s sv L wr) (hb:Below wr.heap.size wr wr'):RdI w q1 q2 gb ob c B body db s sv L wr' :=
 h.frm (S:=fun _=>False) (Frm.of_below hb) (fun _ hk=>hk.elim) (h.dbx.via hb)
theorem RdI.call (h:RdI w q1 q2 gb ob c B body db s sv L wr) (k:RdPTo q1 gb ob c body.length body s' wr wr'):RdI w q1 q2 gb ob c B body db s' sv L wr':=by
 have o1:=h.o1;have o2:=h.o2;have o3:=h.o3;have o4:=h.o4;have hi:=h.hi
 have hf:=k.f
 refine⟨(hf.block _ (by omega) (by omega)).trans h.res,k.r,(hf.block _ (by omega) (by omega)).trans h.dbx,own_keep h.own hf (fun b hb hl=>by omega),h.be.trans (hf.below (by omega) (fun k hk=>by omega)),o1,o2,o3,o4,Nat.le_trans hi hf.size⟩
theorem RdP.seek {g gb ob c st:Nat} {bs:List UInt8} {a n:Nat} {w:World} (h:RdP g gb ob c st bs (a,false) w) (hn:n≤st):RdPTo g gb ob c st bs (n,false) w (w.setCell ⟨g,1,none⟩ (.int .i64 (n:Int))) :=
 ⟨h.to (frm_set w g 1 _) (h.bx.set 1 _) hn,frm_set w g 1 _⟩
theorem RdI.push (h:RdI w q1 q2 gb ob c B body db s sv L wr) {v':Value} {x:Sec} {o:Obj} (hown:wr'.ownsRow B 129 4 v' (L.length+1) (seccells L++secC x)) (hg:(wr.alloc o).grownBy wr' sv.ownBlock):RdI w q1 q2 gb ob c B body db s v' (L++[x]) wr':=by
 have o1:=h.o1;have o2:=h.o2;have o3:=h.o3;have o4:=h.o4;have hi:=h.hi
 have hlo:=h.own.lt
 have hF:Frm (fun b=>B≤b) wr wr':=by
  refine⟨hg.os,hg.tape,hg.output,?_,fun b hb hn => ?_⟩
  ·have:=hg.size
   rw[World.size_alloc] at this;omega
  ·have h1:=hg.block b (by rw[World.size_alloc];omega) (by intro e;have:=(hlo b e.symm).1;omega)
   rw[h1]
   exact((Below.refl wr.heap.size wr).alloc (Nat.le_refl _) o).block b hb
 refine⟨(hF.block _ (by omega) (by omega)).trans h.res,h.rd.keep hF (by omega) (by omega),(hF.block _ (by omega) (by omega)).trans h.dbx,?_,h.be.trans (hF.below (by omega) (fun k hk=>by omega)),o1,o2,o3,o4,Nat.le_trans hi hF.size⟩
 rw[List.length_append,seccells_snoc];exact hown
end
theorem infoDB9:(Tryz.prog.info? 30).map (·.size)=some 9:=by kernel_rfl
theorem aggDB9 (w:World):(isAgg 30).run Tryz.prog w=.ok true w:=by kernel_rfl
theorem sizeDB9 (w:World):(Go.sizeOf 30).run Tryz.prog w=.ok 9 w:=by kernel_rfl
theorem infoSecI:(Tryz.prog.info? 129).map (fun i=>(i.zero,i.size,i.bytes))=some (some (.agg #[.int .u8 0,.int .i64 0,.int .i64 0,.int .i64 0]),4,32):=by kernel_rfl
theorem row_below {w W:World} {q:Nat} {cs:Array Value} (h:Below w.heap.size w W) (hq:w.heap.size=q):Below w.heap.size w (W.setRow q cs) :=
 ⟨h.os,h.tape,h.output,by have:=h.size;simp[World.setRow];omega,fun k hk=>(setRow_other W q k cs (by omega)).trans (h.block k hk)⟩
def dbL (h:ImHd) (f a p:Value):List Value:=[.string (sb h.nm),.int .i64 h.cy,.int .i64 h.fr,.int .i64 h.tu,.int .i64 h.la,.int .i64 h.lo,f,a,p]
theorem dbL_one (h:ImHd) {f a p:Value} {nf na np:Nat} (hf:LF f nf) (ha:LF a na) (hp:LF p np):∀u∈dbL h f a p,u.oneCell'=true:=by
 obtain⟨_,_,rfl,_⟩:=hf
 obtain⟨_,_,rfl,_⟩:=ha
 obtain⟨_,_,rfl,_⟩:=hp
 intro u hu
 unfold dbL at hu
 simp only[List.mem_cons,List.not_mem_nil,or_false] at hu
 rcases hu with rfl|rfl|rfl|rfl|rfl|rfl|rfl|rfl|rfl <;> rfl
theorem len9 {l:List Value} (h:l.length=9):∃v0 v1 v2 v3 v4 v5 v6 v7 v8,l=[v0,v1,v2,v3,v4,v5,v6,v7,v8]:=by
 match l,h with
 | [v0,v1,v2,v3,v4,v5,v6,v7,v8],_=>exact⟨_,_,_,_,_,_,_,_,_,rfl⟩
theorem Bx.d6 {q:Nat} {hd:ImHd} {f a p:Value} {t:TypeId} {w:World} (h:Bx q (dbI hd f a p) t w) (u:Value):Bx q (dbI hd u a p) t (w.setCell ⟨q,6,none⟩ u):=h.set 6 u
theorem Bx.d7 {q:Nat} {hd:ImHd} {f a p:Value} {t:TypeId} {w:World} (h:Bx q (dbI hd f a p) t w) (u:Value):Bx q (dbI hd f u p) t (w.setCell ⟨q,7,none⟩ u):=h.set 7 u
theorem Bx.d8 {q:Nat} {hd:ImHd} {f a p:Value} {t:TypeId} {w:World} (h:Bx q (dbI hd f a p) t w) (u:Value):Bx q (dbI hd f a u) t (w.setCell ⟨q,8,none⟩ u):=h.set 8 u
theorem Bx.s43 {q:Nat} {x0 x1 x2 x3:Value} {t:TypeId} {w:World} (h:Bx q #[x0,x1,x2,x3] t w) (u:Value):Bx q #[x0,x1,x2,u] t (w.setCell ⟨q,3,none⟩ u):=h.set 3 u
theorem Bx.h9 {b:Nat} {x0 x1 x2 x3 x4 x5 x6 x7 x8:Value} {t:TypeId} {w:World} (h:Bx b #[x0,x1,x2,x3,x4,x5,x6,x7,x8] t w) (y0 y1 y2 y3 y4 y5:Value) :
  Bx b #[y0,y1,y2,y3,y4,y5,x6,x7,x8] t ((((((w.setCell ⟨b,0,none⟩ y0).setCell ⟨b,1,none⟩ y1).setCell ⟨b,2,none⟩ y2).setCell ⟨b,3,none⟩ y3).setCell ⟨b,4,none⟩ y4).setCell ⟨b,5,none⟩ y5):=by
 have h0:Bx b #[y0,x1,x2,x3,x4,x5,x6,x7,x8] t _:=h.set 0 y0
 have h1:Bx b #[y0,y1,x2,x3,x4,x5,x6,x7,x8] t _:=h0.set 1 y1
 have h2:Bx b #[y0,y1,y2,x3,x4,x5,x6,x7,x8] t _:=h1.set 2 y2
 have h3:Bx b #[y0,y1,y2,y3,x4,x5,x6,x7,x8] t _:=h2.set 3 y3
 have h4:Bx b #[y0,y1,y2,y3,y4,x5,x6,x7,x8] t _:=h3.set 4 y4
 have h5:Bx b #[y0,y1,y2,y3,y4,y5,x6,x7,x8] t _:=h4.set 5 y5
 exact h5
theorem Bx.h6 {q:Nat} {hd:ImHd} {f a p:Value} {t:TypeId} {w:World} (h:Bx q (dbI hd f a p) t w) (y0 y1 y2 y3 y4 y5:Value) :
  Bx q #[y0,y1,y2,y3,y4,y5,f,a,p] t ((((((w.setCell ⟨q,0,none⟩ y0).setCell ⟨q,1,none⟩ y1).setCell ⟨q,2,none⟩ y2).setCell ⟨q,3,none⟩ y3).setCell ⟨q,4,none⟩ y4).setCell ⟨q,5,none⟩ y5):=Bx.h9 h y0 y1 y2 y3 y4 y5
theorem own_len {base:Nat} {w:World} {e:TypeId} {size n m c:Nat} {A:Option Addr} {xs:List Value} (h:w.ownsRow base e size (.slice A n c) m xs):n=m:=by
 obtain⟨_,⟨h1,h2⟩|⟨b,cap,cur,hv,_⟩⟩:=h
 ·injection h1 with _ e1 _;omega
 ·injection hv
theorem DbK.s0 {body:List UInt8} {L:List Sec} {f a p:Value} {nf na np o n:Nat} (hf:LF f nf) (ha:LF a na) (hp:LF p np) (h1:nf=0) (h2:na=0) (h3:np=0) (hm:L.map (·.2.2.2)=([1,nf,na,np]:List Nat).take 0):DbK body 1 (dbI (imHdF body) f a p) (L++[(1,o,n,1)]) :=
 ⟨f,a,p,nf,na,np,rfl,hf,ha,hp,fun _=>h1,fun _=>h2,fun _=>h3,by rw[List.map_append,hm];rfl⟩
theorem DbK.s1 {body:List UInt8} {L:List Sec} {v a p:Value} {nv nf na np o n:Nat} (hv:LF v nv) (ha:LF a na) (hp:LF p np) (h2:na=0) (h3:np=0) (hm:L.map (·.2.2.2)=([1,nf,na,np]:List Nat).take 1):DbK body 2 (dbI (imHdF body) v a p) (L++[(2,o,n,nv)]) :=
 ⟨v,a,p,nv,na,np,rfl,hv,ha,hp,fun h=>absurd h (by decide),fun _=>h2,fun _=>h3,by rw[List.map_append,hm];rfl⟩
theorem DbK.s2 {body:List UInt8} {L:List Sec} {v f p:Value} {nv nf na np o n:Nat} (hf:LF f nf) (hv:LF v nv) (hp:LF p np) (h3:np=0) (hm:L.map (·.2.2.2)=([1,nf,na,np]:List Nat).take 2):DbK body 3 (dbI (imHdF body) f v p) (L++[(3,o,n,nv)]) :=
 ⟨f,v,p,nf,nv,np,rfl,hf,hv,hp,fun h=>absurd h (by decide),fun h=>absurd h (by decide),fun _=>h3,by rw[List.map_append,hm];rfl⟩
theorem DbK.s3 {body:List UInt8} {L:List Sec} {v f a:Value} {nv nf na np o n:Nat} (hf:LF f nf) (ha:LF a na) (hv:LF v nv) (hm:L.map (·.2.2.2)=([1,nf,na,np]:List Nat).take 3):DbK body 4 (dbI (imHdF body) f a v) (L++[(4,o,n,nv)]) :=
 ⟨f,a,v,nf,na,nv,rfl,hf,ha,hv,fun h=>absurd h (by decide),fun h=>absurd h (by decide),fun h=>absurd h (by decide),by rw[List.map_append,hm];rfl⟩
theorem RdI.step {w wr wr':World} {q1 q2 gb ob c B:Nat} {body:List UInt8} {db db':Array Value} {s:RS} {sv:Value} {L:List Sec} (h:RdI w q1 q2 gb ob c B body db s sv L wr) {S:Nat→Prop} (hf:Frm S wr wr') (hS:∀k,S k→k=q2∨(B≤k∧sv.ownBlock≠some k)) (hdb:Bx q2 db' 30 wr'):RdI w q1 q2 gb ob c B body db' s sv L wr':=by
 have o1:=h.o1;have o2:=h.o2;have o3:=h.o3;have o4:=h.o4;have hi:=h.hi
 have hn:∀b,b<B→b≠q2→¬S b:=fun b hb hne hs=>by rcases hS b hs with h1|h1 <;> omega
 refine⟨(hf.block _ (by omega) (hn _ (by omega) (by omega))).trans h.res,h.rd.keep hf (hn _ (by omega) (by omega)) (hn _ (by omega) (by omega)),hdb,?_,h.be.trans (hf.below (by omega) (fun k hk=>by rcases hS k hk with h1|h1 <;> omega)),o1,o2,o3,o4,Nat.le_trans hi hf.size⟩
 obtain⟨hl,h2|⟨b,cap,cur,hv,hb,hh,r⟩⟩:=h.own
 ·exact⟨hl,.inl h2⟩
 ·refine⟨hl,.inr ⟨b,cap,cur,hv,hb,(hf.block b (heap_lt hh) (fun hs => ?_)).trans hh,r⟩⟩
  rcases hS b hs with h1|⟨_,h1⟩
  ·omega
  ·exact h1 (by rw[hv];rfl)
def txtB (l:List ByteArray):List UInt8:=l.flatMap fun s=>u8of (s.size:Int)::bl s
theorem txtB_snoc (l:List ByteArray) (k:Nat) (hk:k<l.length):txtB (l.take (k+1))=txtB (l.take k)++(u8of (l[k].size:Int)::bl l[k]):=by
 unfold txtB;rw[List.take_succ_eq_append_getElem hk,List.flatMap_append];simp
theorem WrR.two {g B ga:Nat} {v v1 v2:Value} {out out2:List UInt8} {w w3 w4:World} {o:Obj} (h:WrR g B v out w) (hg:(w.alloc o).grownBy w3 v.ownBlock) (h1:∀b,v1.ownBlock=some b→v.ownBlock=some b∨w.heap.size≤b) (hg2:w3.grownBy w4 v1.ownBlock)
  (hown:w4.ownsRow B 5 1 v2 out2.length (out2.map u8c)) (hga:v.ownBlock≠some ga) (hgl:ga<w.heap.size) (hgg:ga≠g) :
  WrR g B v2 out2 (w4.setCell ⟨g,0,none⟩ v2)∧Frm (fun j=>j=g∨(B≤j∧j≠ga)) w (w4.setCell ⟨g,0,none⟩ v2)∧Bx g #[v] 132 w4:=by
 have hlt:=h.own.lt
 have lo:=h.lo
 have hi:=h.hi
 have hgl0:=h.bx.lt
 have hs3:w.heap.size≤w3.heap.size:=by have:=hg.size;rw[World.size_alloc] at this;omega
 have hs4:=hg2.size
 have hk:∀k,k<w.heap.size→v.ownBlock≠some k→w4.heap[k]? = w.heap[k]? := fun k hk hn =>
  (hg2.block k (by omega) (fun e=>by rcases h1 k e.symm with e2|e2;exact hn e2;omega)).trans ((hg.block k (by rw[World.size_alloc];omega) (fun e=>hn e.symm)).trans (((Below.refl w.heap.size w).alloc (Nat.le_refl _) o).block k hk))
 have hoth:∀k,k≠g→(w4.setCell ⟨g,0,none⟩ v2).heap[k]? = w4.heap[k]? := fun k hk=>heap_setCell_other w4 ⟨g,0,none⟩ k v2 (fun e=>hk (by simpa using e))
 have hng:v.ownBlock≠some g:=h.lo
 have hx4:Bx g #[v] 132 w4:=(hk g hgl0 hng).trans h.bx
 refine⟨⟨hx4.set 0 v2,?_,by simp;omega⟩,⟨hg2.os.trans hg.os,hg2.tape.trans hg.tape,hg2.output.trans hg.output,by simp;omega,fun k hkl hn => ?_⟩,hx4⟩
 ·obtain⟨hl,h2|⟨b,cap,cur,hv,hb,hh,r⟩⟩:=hown
  ·exact⟨hl,.inl h2⟩
  ·exact⟨hl,.inr ⟨b,cap,cur,hv,hb,(hoth b (bx_ne hx4 hh)).trans hh,r⟩⟩
 ·refine(hoth k (fun e=>hn (.inl e))).trans (hk k hkl (fun e => ?_))
  have:=(hlt _ e).1
  exact hn (.inr ⟨this,fun e2=>hga (e2 ▸ e)⟩)
theorem WrR.below {g B:Nat} {v:Value} {out:List UInt8} {w w':World} (h:WrR g B v out w) (hb:Below w.heap.size w w'):WrR g B v out w' :=
 ⟨h.bx.via hb,own_below h.own hb,Nat.le_trans h.hi hb.size⟩
theorem WrR.beside {g1 B1 g2 B2:Nat} {v1 v2 v2':Value} {out1 out2:List UInt8} {w w':World} (h:WrR g1 B1 v1 out1 w) (k:WrTo g2 B2 v2 out2 w v2' w') (hg:g1≠g2) (h1:v2.ownBlock≠some g1) (hd:∀b,v1.ownBlock=some b→v2.ownBlock≠some b∧b≠g2):WrR g1 B1 v1 out1 w':=by
 refine⟨(k.f.block g1 h.bx.lt (fun e=>by rcases e with e|e;exact hg e;exact h1 e)).trans h.bx,?_,Nat.le_trans h.hi k.f.size⟩
 obtain⟨hl,h2|⟨b,cap,cur,hv,hb,hh,r⟩⟩:=h.own
 ·exact⟨hl,.inl h2⟩
 ·refine⟨hl,.inr ⟨b,cap,cur,hv,hb,(k.f.block b (heap_lt hh) (fun e => ?_)).trans hh,r⟩⟩
  obtain⟨e1,e2⟩:=hd b (by rw[hv];rfl)
  rcases e with e|e
  ·exact e2 e
  ·exact e1 e
theorem WrTo.of_below {g B:Nat} {v v':Value} {out:List UInt8} {w w1 w':World} (hb:Below w.heap.size w w1) (h:WrTo g B v out w1 v' w'):WrTo g B v out w v' w' :=
 ⟨h.r,(Frm.of_below hb).trans h.f,fun b e=>by rcases h.o b e with h1|h1;exact .inl h1;exact .inr (Nat.le_trans hb.size h1)⟩
theorem sep_to {g1 B1 g2:Nat} {v1 v2 va:Value} {out1:List UInt8} {w:World} (h1:WrR g1 B1 v1 out1 w) (hgo:v2.ownBlock≠some g1) (hd:∀b,v1.ownBlock=some b→v2.ownBlock≠some b∧b≠g2) (o:∀b,va.ownBlock=some b→v2.ownBlock=some b∨w.heap.size≤b) :
  va.ownBlock≠some g1∧∀b,v1.ownBlock=some b→va.ownBlock≠some b∧b≠g2:=by
 have hl:=h1.bx.lt
 refine⟨fun e => ?_,fun b hb=>⟨fun e => ?_,(hd b hb).2⟩⟩
 ·rcases o _ e with h|h
  ·exact hgo h
  ·omega
 ·have:=(h1.own.lt b hb).2
  rcases o _ e with h|h
  ·exact(hd b hb).1 h
  ·omega
def secB (tag:UInt8) (out:List UInt8):List UInt8:=([tag]++lowB (out.length:Int) 4)++out
set_option maxRecDepth 100000 in
set_option maxHeartbeats 8000000 in
theorem wsectionG_any {g1 B1 g2 B2:Nat} {v1 v2:Value} {out1 out2:List UInt8} (tag:UInt8) (w:World) (h1:WrR g1 B1 v1 out1 w) (hby:∀(ga:Nat) (w0:World),Below w.heap.size w w0→BsA w0 ga 0 [tag]→Calls Tryz.prog 80 #[.pointer (some ⟨g2,0,none⟩),.slice (some ⟨ga,0,none⟩) 1 1] w0 fun e w'=>e=.returned (.tuple #[])∧∃v',WrTo g2 B2 v2 (out2++[tag]) w0 v' w') (hg:g1≠g2) (hgo:v2.ownBlock≠some g1) (hd:∀b,v1.ownBlock=some b→v2.ownBlock≠some b∧b≠g2) (h0:0<out1.length) (hN:out1.length+out2.length≤1000000) :
  Calls Tryz.prog 78 #[.pointer (some ⟨g1,0,none⟩),.pointer (some ⟨g2,0,none⟩),.int .u8 (tag.toNat:Int)] w fun e w'=>e=.returned (.tuple #[])∧∃v2',WrTo g2 B2 v2 (out2++secB tag out1) w v2' w':=by
 obtain⟨i0,hi,hz0,hz1,hz2⟩:=info_parts infoU8b
 obtain⟨T,hT⟩:∃T:Nat,tag.toNat=T:=⟨_,rfl⟩
 have HT:=Lib.hid hT
 obtain⟨w0,hw0⟩:∃W,w.alloc (.cells #[.int .u8 (T:Int)] 5)=W:=⟨_,rfl⟩
 have hb0:Below w.heap.size w w0:=by rw[←hw0];exact(Below.refl _ _).alloc (Nat.le_refl _) _
 have A0:BsA w0 w.heap.size 0 [tag]:=by
  have hx:Bx w.heap.size #[.int .u8 (T:Int)] 5 w0:=by rw[←hw0];exact Bx.last _ _ _
  refine⟨hx.lt,fun j b hb => ?_⟩
  cases j with
  | zero =>
   simp at hb
   subst hb
   have:=hx.cell 0 (u:=.int .u8 (T:Int)) rfl
   unfold u8c
   rw[hT]
   exact this
  | succ j=>simp at hb
 have hbs:=hby w.heap.size w0 hb0 A0
 have HBS:=Lib.hid hbs
 have H1W:=Lib.hid h1
 have HB0:=Lib.hid hb0
 have H1:=Lib.hid (h1.below hb0)
 have HW0:=Lib.hid hw0
 obtain⟨m,hm⟩:∃m,out1.length=m:=⟨_,rfl⟩
 have HM:=Lib.hid hm
 rw[hT]
 rw[hm] at h0 hN
 have HD:=Lib.hid hd
 have HGO:=Lib.hid hgo
 clear h1 hby hb0 A0 hbs hw0 hT hm hd hgo
 go_enter Tryz.func78,Tryz.ntmps78
 go_wp2_with fail
 rw[HW0.out]
 clear HW0
 refine HBS.out.mono ?_
 rintro e w1 ⟨rfl,va,hta⟩
 have T1:Hid (WrTo g2 B2 v2 (out2++[tag]) w va w1):=hta.of_below HB0.out
 have S1:Hid (WrR g1 B1 v1 out1 w1):=H1.out.beside hta hg HGO.out HD.out
 clear HBS hta H1 HB0
 obtain⟨A1,n1,c1,rfl⟩:=own_form S1.out.own
 obtain rfl:n1=m:=(own_len S1.out.own).trans HM.out
 have k1:=S1.out.bx.cell 0 (u:=.slice A1 n1 c1) rfl
 have k1l:=S1.out.bx.lt
 have hlw:=wlow_any (g:=g2) (B:=B2) (n1:Int) 4 (by omega) w1 T1.out.r (by simp;omega)
 have HLW:=Lib.hid hlw
 clear hlw
 go_wp2_with fail
 refine HLW.out.mono ?_
 rintro e w2 ⟨rfl,vb,htb⟩
 have T2:=Lib.hid (T1.out.then_ htb)
 have S2:Hid (WrR g1 B1 (.slice A1 n1 c1) out1 w2):=S1.out.beside htb hg (sep_to H1W.out HGO.out HD.out T1.out.o).1 (sep_to H1W.out HGO.out HD.out T1.out.o).2
 clear HLW htb S1 T1 k1 k1l
 have k1:=S2.out.bx.cell 0 (u:=.slice A1 n1 c1) rfl
 have k1l:=S2.out.bx.lt
 obtain⟨g3,o3,hA,hcs⟩:∃g3 o3,A1=some ⟨g3,o3,none⟩∧∀W,Below w2.heap.size w2 W→∀j u,(out1.map u8c)[j]? = some u→W.cell? ((⟨g3,o3,none⟩:Addr).add j)=some u:=by
  obtain⟨_,A',c',hv,hc',hm',hx⟩:=Rd.of_own S2.out.own
  injection hv with e1 e2 e3
  obtain⟨g3,o3,hA,hgl,hcell⟩:=hx (by rw[HM.out];exact h0)
  refine⟨g3,o3,e1.trans hA,fun W hW j u hu => ?_⟩
  have hadd:(⟨g3,o3,none⟩:Addr).add j=⟨g3,o3+j,none⟩:=by unfold Addr.add;split <;> simp_all
  rw[hadd]
  exact(hW.cell (p:=⟨g3,o3+j,none⟩) hgl).trans (hcell j u hu)
 subst hA
 have HCS:=Lib.hid hcs
 obtain⟨A2,n2,c2,rfl⟩:=own_form T2.out.r.own
 have kv:=T2.out.r.bx.cell 0 (u:=.slice A2 n2 c2) rfl
 have kf:=T2.out.r.bx.free 0
 have kl:=T2.out.r.bx.lt
 have hown:=T2.out.r.own
 have hlt0:=hown.lt
 have hBz:=T2.out.r.hi
 have hBlo:=T2.out.r.lo
 have HL2:Hid ((out1.map u8c).length=n1*1):=by unfold Hid;rw[List.length_map,HM.out];omega
 have HONE:=Lib.hid (u8cells_one out1)
 have HLEN:Hid ((out2++[tag]++lowB (n1:Int) 4).length=out2.length+5):=by unfold Hid;rw[List.length_append,List.length_append,lowB_len];rfl
 rw[HLEN.out] at hown
 have HOUT:Hid (out2++secB tag out1=(out2++[tag]++lowB (n1:Int) 4)++out1):=by unfold Hid secB;rw[HM.out];simp
 obtain⟨L,hL⟩:∃l,(out2++[tag]++lowB (n1:Int) 4).map u8c=l:=⟨_,rfl⟩
 rw[hL] at hown
 have HLL:=Lib.hid hL
 have nbw:(Value.slice A2 n2 c2).ownBlock≠some g2:=T2.out.r.lo
 have NBW:=Lib.hid nbw
 obtain⟨w3',hw3'⟩:∃W,w2.drew=W:=⟨_,rfl⟩
 have hown2:w2.drew.ownsRow B2 5 1 (.slice A2 n2 c2) (out2.length+5) L:=hown.drew
 have HX:=Lib.hid (hcs w2.drew ((Below.refl _ _).drew))
 have hm6:n1≤1000000:=by omega
 clear hcs hL hown hw3'
 go_upto_region 2 with fail
 go_region_law (
  (refine step_append_lies _ (by rfl) _ _ _ (by rfl) B2 5 i0 (.int .u8 0) 1 1 Tryz.underlying68 hi hz0 hz1 hz2 rfl (by omega) (.slice A2 n2 c2) (out2.length+5) L (by rfl) hown2 ⟨g3,o3,none⟩ n1 c1 (out1.map u8c) (by rfl) HL2.out HX.out HONE.out h0 (by unfold maxLen;omega) (by omega) hBz w2.heap.size (by rfl) ?_;intro gg cap w3 hown3 hgrow hat hlt3;have kv3:w3.cell? ⟨g2,0,none⟩=some (.slice A2 n2 c2):=(hgrow.cell_far ⟨g2,0,none⟩ kl (Ne.symm NBW.out)).trans kv;have kf3:w3.frozen? ⟨g2,0,none⟩=false:=(hgrow.frozen_far ⟨g2,0,none⟩ kl (Ne.symm NBW.out)).trans kf;have kl3:g2<w3.heap.size:=Nat.lt_of_lt_of_le kl hgrow.size))
 all_goals
  have T3:WrTo g2 B2 (.slice A2 n2 c2) ((out2++[tag]++lowB (n1:Int) 4)++out1) w2.drew (.slice (some ⟨gg,0,none⟩) (out2.length+5+n1) cap) (w3.setCell ⟨g2,0,none⟩ (.slice (some ⟨gg,0,none⟩) (out2.length+5+n1) cap)):=by
   refine WrR.push2 (T2.out.r.below ((Below.refl _ _).drew)) ?_ hgrow ?_
   ·rw[HLEN.out,HM.out,HLL.out]
    exact hown3
   ·intro b hb
    have e:gg=b:=by simpa [Value.ownBlock] using hb
    subst e
    rcases hat with h1|h1
    ·exact .inl h1
    ·exact .inr (by rw[h1];exact Nat.le_refl _)
  have T4:=Lib.hid (T2.out.then_ (T3.of_below ((Below.refl _ _).drew)))
  clear T3 hown3 hgrow hat hlt3 hown2 T2 S2 kv kf k1 k1l hlt0 nbw
  go_wp2
  go_end0
  rw[HOUT.out]
  exact⟨rfl,_,T4.out⟩
theorem wsection_any {g1 B1 g2 B2:Nat} {v1 v2:Value} {out1 out2:List UInt8} (tag:UInt8) (w:World) (h1:WrR g1 B1 v1 out1 w) (h2:WrR g2 B2 v2 out2 w) (hg:g1≠g2) (hgo:v2.ownBlock≠some g1) (hd:∀b,v1.ownBlock=some b→v2.ownBlock≠some b∧b≠g2) (h0:0<out1.length) (hN:out1.length+out2.length≤1000000) :
  Calls Tryz.prog 78 #[.pointer (some ⟨g1,0,none⟩),.pointer (some ⟨g2,0,none⟩),.int .u8 (tag.toNat:Int)] w fun e w'=>e=.returned (.tuple #[])∧∃v2',WrTo g2 B2 v2 (out2++secB tag out1) w v2' w' :=
 wsectionG_any tag w h1 (fun ga w0 hb ha=>wbytes_any (g:=g2) (B:=B2) (v:=v2) (out:=out2) ga 0 1 [tag] w0 (h2.below hb) ha (by simp) (by simp;omega)) hg hgo hd h0 hN
section
variable {P:Program} (w:World)
theorem run_append_full2 (base:Nat) (t ty e:TypeId) (i:TypeInfo) (z:Value) (size bytes:Nat) (ht:P.underlying t=some (.slice e)) (hi:P.info? e=some i) (hz:i.zero=some z)
  (hsize:i.size=size) (hby:i.bytes=bytes) (hzs:z.cells.size=size)
  (b:Addr) (n:Nat) (xs:List Value) (hxl:xs.length=n*size) (hxs:∀j u,xs[j]? = some u→w.cell? (b.add j)=some u)
  (a:Addr) (m c:Nat) (news:List Value) (hl:news.length=m*size) (hnews:∀j u,news[j]? = some u→w.cell? (a.add j)=some u) (hm:0<m)
  (h63:n+m≤maxLen) (hbytes:(n+m)*bytes≤140737488355328) (hbase:base≤w.heap.size) :
  ∃v' w',(Builtin.append_ #[t,t] ty #[.slice (some b) n n,.slice (some a) m c]).run P w=.ok v' w'∧w'.ownsRow base e size v' (n+m) (xs++news)∧w.grownBy w' none∧v'.ownBlock=some w.heap.size:=by
 subst hsize
 subst hby
 have hsmall:n+m≤9223372036854775807:=by simp only[maxLen] at h63;omega
 have hlen:(xs++news).length=(n+m)*i.size:=by rw[List.length_append,hxl,hl,Nat.add_mul]
 have hr:=run_append_grow (P:=P) w t ty e i z ht hi hz b n n xs hxl hxs a m c news hl hnews (by omega) (by omega) (growslice_fits (by omega) hbytes)
 have hge:=grownCap_ge w (n+m) n e
 have hcm:grownCap w (n+m) n e≤maxLen:=grownCap_le_maxLen w (n+m) n e h63
 refine⟨_,_,hr,⟨hlen,.inr ⟨w.heap.size,_,_,rfl,hbase,heap_alloc_new w.drew _,hge,hcm,?_,?_⟩⟩,⟨rfl,rfl,rfl,by simp,fun k hk _=>Below.heap_alloc w.drew _ k hk⟩,rfl⟩
 ·simp only[Array.size_append,List.size_toArray,size_zeroCells,hzs,hxl,hl,←Nat.add_mul]
  congr 1
  omega
 ·simp only[Array.toList_append,List.append_assoc]
  rw[←List.append_assoc,←hlen]
  exact List.take_left
theorem wpList_append_full {ops:Array Oper} {rest:List Oper} {o:Oper} {a:Act} {Q:Exit→Act→World→Prop} (hgd:o.guard=none) (s x:Operand) (t:TypeId)
  (ho:o.op=.call {callee:=.builtin .append,args := #[s,x],argTypes := #[t,t]})
  (base:Nat) (e:TypeId) (i:TypeInfo) (z:Value) (size bytes:Nat) (ht:P.underlying t=some (.slice e)) (hi:P.info? e=some i) (hz:i.zero=some z)
  (hsize:i.size=size) (hby:i.bytes=bytes) (hzs:z.cells.size=size)
  (b:Addr) (n:Nat) (xs:List Value) (hs:a.eval s=.slice (some b) n n) (hxl:xs.length=n*size) (hxs:∀j u,xs[j]? = some u→w.cell? (b.add j)=some u)
  (ad:Addr) (m c:Nat) (news:List Value) (hx:a.eval x=.slice (some ad) m c) (hl:news.length=m*size) (hnews:∀j u,news[j]? = some u→w.cell? (ad.add j)=some u) (hm:0<m)
  (h63:n+m≤maxLen) (hbytes:(n+m)*bytes≤140737488355328) (hbase:base≤w.heap.size)
  (h:∀v' w',w'.ownsRow base e size v' (n+m) (xs++news)→w.grownBy w' none→v'.ownBlock=some w.heap.size→wpList P ops Q rest (a.put o.dst v') w'):wpList P ops Q (o::rest) a w :=
 wpList_plain hgd fun _ hK=>by
  obtain⟨v',w',hr,h2,h3,h4⟩:=run_append_full2 (P:=P) w base t o.type e i z size bytes ht hi hz hsize hby hzs b n xs hxl hxs ad m c news hl hnews hm h63 hbytes hbase
  unfold Oper.wp execOp
  simp only[ho,resolve,invoke,builtin,Sem.run_bind,Sem.run_pure,Result.andThen_ok,List.map_toArray,List.map_cons,List.map_nil,hs,hx,hr]
  exact hK _ _ (h v' w' h2 h3 h4)
end
structure WrF (g:Nat) (v:Value) (out:List UInt8) (w:World):Prop where
 bx:Bx g #[v] 132 w
 v:∃b,v=.slice (some ⟨b,0,none⟩) out.length out.length∧BsA w b 0 out
theorem WrF.below {g:Nat} {v:Value} {out:List UInt8} {w w':World} (h:WrF g v out w) (hb:Below w.heap.size w w'):WrF g v out w':=by
 obtain⟨hx,b,hv,hbs⟩:=h
 exact⟨hx.via hb,b,hv,hbs.below hb⟩
set_option maxRecDepth 100000 in
set_option maxHeartbeats 8000000 in
theorem wbytesF_any {g:Nat} {v:Value} {out:List UInt8} (B ga oa ca:Nat) (add:List UInt8) (w:World) (h:WrF g v out w) (ha:BsA w ga oa add) (h0:0<add.length) (hN:out.length+add.length≤100000000) (hB:B≤w.heap.size) :
  Calls Tryz.prog 80 #[.pointer (some ⟨g,0,none⟩),.slice (some ⟨ga,oa,none⟩) add.length ca] w fun e w'=>e=.returned (.tuple #[])∧∃v',WrTo g B v (out++add) w v' w':=by
 obtain⟨i0,hi,hz0,hz1,hz2⟩:=info_parts infoU8b
 obtain⟨hx,b,rfl,hbs⟩:=h
 have k0:=hx.cell 0 (u:=.slice (some ⟨b,0,none⟩) out.length out.length) rfl
 have f0:=hx.free 0
 have gl:=hx.lt
 have HBX:=Lib.hid hx
 have HX0:=Lib.hid (hbs.news (Below.refl _ _))
 have HX:=Lib.hid (ha.news (Below.refl _ _))
 obtain⟨m,hm⟩:∃m,out.length=m:=⟨_,rfl⟩
 obtain⟨p,hp⟩:∃p,add.length=p:=⟨_,rfl⟩
 have HL1:Hid ((out.map u8c).length=m*1):=by unfold Hid;rw[List.length_map,hm];omega
 have HL2:Hid ((add.map u8c).length=p*1):=by unfold Hid;rw[List.length_map,hp];omega
 rw[hm] at hN k0 ⊢
 rw[hp] at h0 hN ⊢
 have HM:=Lib.hid hm
 have HP:=Lib.hid hp
 have hal:=ha.1
 clear ha hm hp hx hbs
 go_enter Tryz.func80,Tryz.ntmps80
 go_wp2_with (at_builtin;(refine wpList_append_full _ rfl _ _ 68 rfl B 5 i0 (.int .u8 0) 1 1 Tryz.underlying68 hi hz0 hz1 hz2 rfl ⟨b,0,none⟩ m (out.map u8c) rfl HL1.out HX0.out ⟨ga,oa,none⟩ p ca (add.map u8c) rfl HL2.out HX.out h0 ?c3 ?c4 hB ?_))
 case c3=>unfold maxLen;omega
 case c4=>omega
 intro v' w3 hown3 hgrow hob
 obtain⟨A',n',c',rfl⟩:=own_form hown3
 have hb3:=hgrow.block g gl (by simp)
 have kg:w3.cell? ⟨g,0,none⟩=some (.slice (some ⟨b,0,none⟩) m m):=(World.cell?_of_block (w:=w) (a:=⟨g,0,none⟩) hb3).trans k0
 have hx3:Bx g #[.slice (some ⟨b,0,none⟩) out.length out.length] 132 w3:=hb3.trans HBX.out
 have fg:=hx3.free 0
 have gl3:=hx3.lt
 have R:Hid (WrTo g B (.slice (some ⟨b,0,none⟩) out.length out.length) (out++add) w (.slice A' n' c') (w3.setCell ⟨g,0,none⟩ (.slice A' n' c'))):=by
  have hoth:∀k,k≠g→(w3.setCell ⟨g,0,none⟩ (.slice A' n' c')).heap[k]? = w3.heap[k]? := fun k hk=>heap_setCell_other w3 ⟨g,0,none⟩ k _ (fun e=>hk (by simpa using e))
  have hown4:w3.ownsRow B 5 1 (.slice A' n' c') (out++add).length ((out++add).map u8c):=by rw[List.length_append,HM.out,HP.out,List.map_append];exact hown3
  refine⟨⟨hx3.set 0 _,?_,by simp;have:=hgrow.size;omega⟩,⟨hgrow.os,hgrow.tape,hgrow.output,by simpa using hgrow.size,fun k hkl hn => ?_⟩,fun k hk => ?_⟩
  ·obtain⟨hl,h2|⟨q,cap,cur,hv,hb,hh,r⟩⟩:=hown4
   ·exact⟨hl,.inl h2⟩
   ·exact⟨hl,.inr ⟨q,cap,cur,hv,hb,(hoth q (bx_ne hx3 hh)).trans hh,r⟩⟩
  ·exact(hoth k (fun e=>hn (.inl e))).trans (hgrow.block k hkl (by simp))
  ·rw[hob] at hk;injection hk with hk;exact .inr (by omega)
 clear hown3 hgrow hob k0 f0 hb3 hx3
 go_wp2
 go_end0
 rw[HM.out] at R
 exact⟨rfl,_,R.out⟩
theorem wsectionF_any {g1 B1 g2 B2:Nat} {v1 v2:Value} {out1 out2:List UInt8} (tag:UInt8) (w:World) (h1:WrR g1 B1 v1 out1 w) (h2:WrF g2 v2 out2 w) (hg:g1≠g2) (hgo:v2.ownBlock≠some g1) (hd:∀b,v1.ownBlock=some b→v2.ownBlock≠some b∧b≠g2) (h0:0<out1.length) (hN:out1.length+out2.length≤1000000) (hB:B2≤w.heap.size) :
  Calls Tryz.prog 78 #[.pointer (some ⟨g1,0,none⟩),.pointer (some ⟨g2,0,none⟩),.int .u8 (tag.toNat:Int)] w fun e w'=>e=.returned (.tuple #[])∧∃v2',WrTo g2 B2 v2 (out2++secB tag out1) w v2' w' :=
 wsectionG_any tag w h1 (fun ga w0 hb ha=>wbytesF_any (g:=g2) (v:=v2) (out:=out2) B2 ga 0 1 [tag] w0 (h2.below hb) ha (by simp) (by simp;omega) (Nat.le_trans hB hb.size)) hg hgo hd h0 hN
def secsB:Nat→List (List UInt8)→List UInt8
 | _,[]=>[]
 | t,c::cs=>secB (UInt8.ofNat t) c++secsB (t+1) cs
theorem secB_len (t:UInt8) (c:List UInt8):(secB t c).length=5+c.length:=by
 unfold secB;rw[List.length_append,List.length_append,lowB_len];rfl
def txtL (l:List (List UInt8)):List UInt8:=l.flatMap fun s=>u8of (s.length:Int)::s
theorem txtB_map (l:List (List UInt8)):txtB (l.map sb)=txtL l:=by
 unfold txtB txtL
 rw[List.flatMap_map]
 first
  | rfl
  | (congr 1;funext s;rw[bl_sb];rfl)
  | (congr 1;funext s;simp[bl_sb])
def u8b (n:Nat):UInt8:=u8of (n:Int)
def hdB (h:ImHd):List UInt8:=txtL [h.nm]++numB [h.cy,h.fr,h.tu,h.la,h.lo]
def fxB (f:Fx):List UInt8:=txtL [f.id,f.rg]++([u8b f.kd]++numB [f.lat,f.lon,f.el,f.ra])
def ptB (p:Pt):List UInt8:=txtL [p.ref]++(numB [p.lo,p.hi]++[u8b p.dir])
def awB (a:AwD):List UInt8:=txtL [a.nm]++(lowB (a.ps.length:Int) 2++a.ps.flatMap ptB)
def lgB (l:Lg):List UInt8:=[u8b l.ty]++(txtL [l.fi,l.ce]++([u8b l.tn,if l.ov then 1 else 0]++numB [l.cr,l.ds,l.ra,l.th,l.lo,l.hi,l.sp,l.rn]))
def paB (x:Pa):List UInt8:=[u8b x.kd]++(txtL [x.nm]++(lowB (x.lg.length:Int) 2++x.lg.flatMap lgB))
def prB (p:Prc):List UInt8:=txtL [p.ap,p.nm]++([u8b p.kd]++(lowB (p.pa.length:Int) 2++p.pa.flatMap paB))
def conB (d:DbD):List (List UInt8) :=
 [hdB d.hd,lowB (d.fx.length:Int) 2++d.fx.flatMap fxB,lowB (d.aw.length:Int) 2++d.aw.flatMap awB,lowB (d.pr.length:Int) 2++d.pr.flatMap prB]
def dbB (d:DbD):List UInt8:=magicL++secsB 1 (conB d)
def fewA (a:AwD):AwD:={a with ps:=a.ps.take 8}
def fewP (x:Pa):Pa:={x with lg:=x.lg.take 6}
def fewR (p:Prc):Prc:={p with pa:=(p.pa.take 5).map fewP}
def fewD (d:DbD):DbD:={d with fx:=d.fx.take 24,aw:=(d.aw.take 6).map fewA,pr:=(d.pr.take 4).map fewR}
def FormPost (bs:List UInt8) (w:World) (e:Ending) (w':World):Prop :=
 ∃(f a p sv:Value),e=.returned (.tuple #[.agg (dbI (rdRes bs).2.1 f a p),sv,.int .i64 (rdRes bs).1])∧Rd w' 4 sv (rdRes bs).2.2.length (seccells (rdRes bs).2.2)∧(∃A n c,f=.slice A n c)∧(∃A n c,a=.slice A n c)∧(∃A n c,p=.slice A n c)∧Below w.heap.size w w'
theorem ImReadPost.form {bs:List UInt8} {w w':World} {e:Ending} (h:ImReadPost bs w e w'):FormPost bs w e w':=by
 obtain⟨f,a,p,sv,nf,na,np,he,hr,⟨A1,c1,h1,_⟩,⟨A2,c2,h2,_⟩,⟨A3,c3,h3,_⟩,_,hb⟩:=h
 exact⟨f,a,p,sv,he,hr,⟨_,_,_,h1⟩,⟨_,_,_,h2⟩,⟨_,_,_,h3⟩,hb⟩
set_option maxRecDepth 100000 in
set_option maxHeartbeats 8000000 in
theorem imSections_any (v:Value) (bs:List UInt8) (w:World) (hc:Calls Tryz.prog 156 #[v] w (FormPost bs w)) :
  Calls Tryz.prog 75 #[v] w fun e w'=>∃sv,e=.returned (.tuple #[sv,.int .i64 (rdRes bs).1])∧Rd w' 4 sv (rdRes bs).2.2.length (seccells (rdRes bs).2.2)∧Below w.heap.size w w':=by
 obtain⟨er,her⟩:∃x,(rdRes bs).1=x:=⟨_,rfl⟩
 unfold FormPost at hc
 rw[her] at hc ⊢
 obtain⟨hd,hhd⟩:∃x,(rdRes bs).2.1=x:=⟨_,rfl⟩
 rw[hhd] at hc
 obtain⟨l,hl⟩:∃x,(rdRes bs).2.2=x:=⟨_,rfl⟩
 rw[hl] at hc ⊢
 clear her hhd hl
 go_enter Tryz.func75,Tryz.ntmps75
 go_wp2_with fail
 refine hc.mono ?_
 rintro e w1 ⟨f,a,p,sv,rfl,hr,⟨A1,n1,c1,rfl⟩,⟨A2,n2,c2,rfl⟩,⟨A3,n3,c3,rfl⟩,hb⟩
 obtain⟨As,cs,hsv,hsc,hsm⟩:=hr.form
 have HR:=Lib.hid hr
 have HB:=Lib.hid hb
 rw[hsv] at HR ⊢
 clear hc hr hb hsv
 unfold dbI
 go_wp2
 go_ret2
 exact⟨_,rfl,HR.out.below ((Below.refl _ _).alloc (Nat.le_refl _) _),Below.then_ HB.out ((Below.refl _ _).alloc (Nat.le_refl _) _)⟩
end Go.Proofs.YtgmehlgfilpleaaGreatDoor
namespace Go.Proofs.YtgmehlgfilpleaaGreatDoor
open Go.ChangeShapes Go.WideShapes Go.Deep Go.RowKit
set_option linter.unusedVariables false
set_option linter.unusedSimpArgs false
section
variable {H:Type} {enc:TypeId × Value→H} {w:World} {base:Nat} {held:Bool}
def FixDat (l:List Fx) (d:DataW H):Prop:=l=[]∨∃es sp:List (DataW H),d=.slice es sp∧es.length=l.length∧∀i (h:i<l.length),∃r:List (DataW H),es[i]? = some (.agg (.lit (.string l[i].id) :: .lit (.string l[i].rg)::r))
set_option maxRecDepth 100000 in
theorem open_fixS {fuel:Nat} {cs:List Value} {x:DataW H × List MemPlace} (h:DataW.trod enc Tryz.prog w base (fun _=>true) held fuel 38 cs=some x) :
  ∃(f:Fx) (r:List (DataW H)),cs=fxc f∧FxOk f∧x.1=.agg (.lit (.string f.id) :: .lit (.string f.rg)::r):=by
 obtain⟨f,rfl,hok⟩:=open_fixD h
 obtain⟨ys,n,_,hx,hl,hyl,hf⟩:=DataW.trod_struct Tryz.underlying38 h
 have h0:DataW.trod enc Tryz.prog w base (fun _=>true) held n 9 (((fxc f).drop 0).take (Tryz.prog.cellsOf 9))=ys[0]? := hf 0 _ rfl
 have h1:DataW.trod enc Tryz.prog w base (fun _=>true) held n 9 (((fxc f).drop 1).take (Tryz.prog.cellsOf 9))=ys[1]? := hf 1 _ rfl
 rw[db_cString] at h0 h1
 match ys,hyl with
 | [z0,z1,z2,z3,z4,z5],_ =>
  obtain⟨s,e0,hz0,_⟩:=DataW.trod_string Tryz.underlying9 (show DataW.trod enc Tryz.prog w base (fun _=>true) held n 9 [.string (sb f.id)]=some z0 from h0)
  obtain⟨t,e1,hz1,_⟩:=DataW.trod_string Tryz.underlying9 (show DataW.trod enc Tryz.prog w base (fun _=>true) held n 9 [.string (sb f.rg)]=some z1 from h1)
  obtain rfl:sb f.id=s:=by simpa using e0
  obtain rfl:sb f.rg=t:=by simpa using e1
  refine⟨f,[z2.1,z3.1,z4.1,z5.1],rfl,hok,?_⟩
  rw[hx,hz0,hz1]
  show DataW.agg [.lit (.string (bl (sb f.id))),.lit (.string (bl (sb f.rg))),z2.1,z3.1,z4.1,z5.1]=_
  rw[bl_sb,bl_sb]
theorem open_fixesS {fuel:Nat} {v:Value} {x:DataW H × List MemPlace} (h:DataW.trod enc Tryz.prog w base (fun _=>true) held fuel 26 [v]=some x) :
  ∃l,FxsD w v l∧FixDat l x.1:=by
 rcases open_slice Tryz.underlying26 h with ⟨hcs,_⟩|⟨a,len,cap,m,n,D,Pl,hcs,hb,hl,hm,hmm,hx,hi⟩
 ·obtain rfl:v=.slice none 0 0:=by simpa using hcs
  exact⟨[],⟨Rd.nil w 7,by simp⟩,.inl rfl⟩
 ·obtain rfl:v=.slice (some a) len cap:=by simpa using hcs
  obtain rfl:m=cap:=hmm
  obtain⟨l,rfl,hp⟩:=list_of (P:=fun i (p:Fx)=>(∀j,j<7→w.cell? ((a.add (i*7)).add j)=(fxc p)[j]?)∧FxOk p∧∃r:List (DataW H),D i=.agg (.lit (.string p.id) :: .lit (.string p.rg)::r)) len (fun i hil=>by
   obtain⟨cs',hc,ht'⟩:=hi i (by omega)
   rw[db_cApiFix] at hc
   obtain⟨_,hcl,hat⟩:=World.cells?_some hc
   obtain⟨f,r,rfl,hok,hD⟩:=open_fixS ht'
   exact⟨f,hat,hok,r,hD⟩)
  refine⟨l,⟨?_,fun p hpm => ?_⟩,.inr ⟨_,_,by rw[hx],by rw[List.length_map,List.length_range],fun i hil => ?_⟩⟩
  ·have h2:=rdK_new (w:=w) (a:=a) (cap:=m) (k:=7) (l.map fxc) (by intro c hc;rw[List.mem_map] at hc;obtain⟨p,_,rfl⟩:=hc;rfl) (by decide) (by rw[List.length_map];exact hl) hm (fun i hi2 j hj=>by
    rw[List.length_map] at hi2
    rw[List.getElem_map]
    exact(hp i hi2).1 j hj)
   rw[List.length_map] at h2
   exact h2
  ·obtain⟨i,hi2,rfl⟩:=List.getElem_of_mem hpm
   exact(hp i hi2).2.1
  ·obtain⟨_,_,r,hD⟩:=hp i hil
   exact⟨r,by rw[List.getElem?_map,List.getElem?_range hil,←hD];rfl⟩
set_option maxRecDepth 100000 in
theorem open_dbS {fuel:Nat} {cs:List Value} {x:DataW H × List MemPlace} (h:DataW.trod enc Tryz.prog w base (fun _=>true) held fuel 30 cs=some x) :
  ∃(D:DbD) (f a p:Value) (d0 d1 d2 d3:DataW H),cs=dbC D.hd f a p∧DbV w f a p D∧x.1=.agg [d0,d1,d2,d3]∧FixDat D.fx d1:=by
 obtain⟨D,f,a,p,rfl,hv⟩:=open_db h
 obtain⟨ys,n,_,hx,hl,hyl,hf⟩:=DataW.trod_struct Tryz.underlying30 h
 have h1:DataW.trod enc Tryz.prog w base (fun _=>true) held n 26 (((dbC D.hd f a p).drop 6).take (Tryz.prog.cellsOf 26))=ys[1]? := hf 1 _ rfl
 rw[db_cSlApiFix] at h1
 match ys,hyl with
 | [z0,z1,z2,z3],_ =>
  obtain⟨l,hl2,hd⟩:=open_fixesS (show DataW.trod enc Tryz.prog w base (fun _=>true) held n 26 [f]=some z1 from h1)
  exact⟨{D with fx:=l},f,a,p,z0.1,z1.1,z2.1,z3.1,rfl,⟨hv.nm,hl2,hv.aw,hv.pr⟩,by rw[hx];rfl,hd⟩
theorem weights_all_mem {P:Program} {e:TypeId}:∀{ds:List (DataW H)} {i:Nat} {d:DataW H},ds[i]? = some d→∀n∈d.weights P e,n∈DataW.weightsAll P e ds
 | [],i,d,h,n,_=>by simp at h
 | d'::ds,0,d,h,n,hn=>by
  simp only[List.getElem?_cons_zero,Option.some.injEq] at h
  subst h
  rw[DataW.weightsAll]
  exact List.mem_append_left _ hn
 | d'::ds,i+1,d,h,n,hn=>by
  simp only[List.getElem?_cons_succ] at h
  rw[DataW.weightsAll]
  exact List.mem_append_right _ (weights_all_mem h n hn)
set_option maxRecDepth 100000 in
theorem sized_db {ts:List TypeId} {ds:List (DataW H)} {d0 d1 d2 d3:DataW H} {l:List Fx} (h:(DataW.weightsEach Tryz.prog ts ds).all (· ≤ reachBytes)=true) {j:Nat} (ht:ts[j]? = some 30) (hd:ds[j]? = some (.agg [d0,d1,d2,d3]))
  (hl:FixDat l d1):SzL l:=by
 have hrb:reachBytes=140737488351232:=by decide
 rcases hl with rfl|⟨es,sp,rfl,hlen,hes⟩
 ·intro f hf;cases hf
 ·intro f hf
  obtain⟨i,hi,rfl⟩:=List.getElem_of_mem hf
  obtain⟨r,he⟩:=hes i hi
  have key:∀n:Nat,n∈DataW.weights Tryz.prog 38 (.agg (.lit (.string l[i].id) :: .lit (.string l[i].rg)::r):DataW H)→n≤140737488351232:=fun n hn=>by
   have hmem:n∈DataW.weightsEach Tryz.prog ts ds:=by
    refine DataW.weights_mem_each ht hd _ ?_
    rw[DataW.weights,Tryz.underlying30]
    show _∈DataW.weightsEach Tryz.prog [25,26,27,28] [d0,.slice es sp,d2,d3]
    refine DataW.weights_mem_each (j:=1) rfl rfl _ ?_
    rw[DataW.weights,Tryz.underlying26]
    exact List.mem_cons_of_mem _ (List.mem_append_left _ (weights_all_mem he n hn))
   have h2:=of_decide_eq_true (List.all_eq_true.1 h _ hmem)
   omega
  rw[DataW.weights,Tryz.underlying38] at key
  have k0:=key l[i].id.length (by
   show _∈DataW.weightsEach Tryz.prog [9,9,36,23,2,2] (.lit (.string l[i].id) :: .lit (.string l[i].rg)::r)
   exact DataW.weights_mem_each (j:=0) rfl rfl _ (by rw[DataW.weights];exact List.mem_cons_self ..))
  have k1:=key l[i].rg.length (by
   show _∈DataW.weightsEach Tryz.prog [9,9,36,23,2,2] (.lit (.string l[i].id) :: .lit (.string l[i].rg)::r)
   exact DataW.weights_mem_each (j:=1) rfl rfl _ (by rw[DataW.weights];exact List.mem_cons_self ..))
  omega
theorem fewD_sz {D:DbD} (h:SzL D.fx):SzD (fewD D):=by
 refine⟨h.take 24,fun p hp => ?_⟩
 obtain⟨q,hq,rfl⟩:=List.mem_map.1 hp
 refine⟨?_,fun x hx => ?_⟩
 ·show((q.pa.take 5).map fewP).length≤1000000
  rw[List.length_map,List.length_take];omega
 ·obtain⟨y,hy,rfl⟩:=List.mem_map.1 hx
  show(y.lg.take 6).length≤1000000
  rw[List.length_take];omega
end
end Go.Proofs.YtgmehlgfilpleaaGreatDoor
