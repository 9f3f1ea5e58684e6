/-
  Several texts as one.
-/
import Derived.Test.YtgmehlgfilpleaaGreatDoorMG02
import Derived.Sort.Walk0
import Derived.Test.YtgmehlgfilpleaaGreatDoorMG05
import Derived.Test.YtgmehlgfilpleaaGreatDoorMG12
import Derived.Test.YtgmehlgfilpleaaGreatDoorMG14
import Derived.Test.YtgmehlgfilpleaaGreatDoorCalG
import Derived.Test.YtgmehlgfilpleaaGreatDoorPlnG
import Derived.Test.YtgmehlgfilpleaaGreatDoorMG18
import Derived.Test.YtgmehlgfilpleaaGreatDoorMG13
import Derived.Test.YtgmehlgfilpleaaGreatDoorShelf2
import Derived.Test.YtgmehlgfilpleaaGreatDoorPlLG
namespace Go.Proofs.YtgmehlgfilpleaaGreatDoor
open Go.RowKit Go.Sort
set_option linter.unusedVariables false
set_option linter.unusedSimpArgs false
def cmpS (a b:List UInt8):Int:=if a<b then -1 else if b<a then 1 else 0
theorem blt_asymm {a b:List UInt8} (h:a<b):¬b<a:=List.lt_asymm h
theorem blt_eq {a b:List UInt8} (h:¬a<b) (k:¬b<a):a=b:=by
 rw[List.not_lt] at *
 exact List.le_antisymm k h
theorem str_eqB {t r:ByteArray}:(t.toList == r.toList)=decide (bl t=bl r):=by
 rw[bl_toList,bl_toList,Bool.eq_iff_iff,beq_iff_eq,decide_eq_true_iff]
theorem bytesLess_bl (x y:ByteArray):Op.bytesLess x.toList y.toList=decide (bl x<bl y):=by rw[bl_toList,bl_toList,bytesLess_eq]
set_option maxHeartbeats 400000 in
theorem isNaNs_any (x:ByteArray) (w:World):Calls Tryz.prog 120 #[.string x] w fun e w'=>e=.returned (.bool false)∧w'=w:=by
 go_enter Tryz.func120,Tryz.ntmps120
 go_wp2
 go_ret
 exact⟨by simp,rfl⟩
set_option maxHeartbeats 1000000 in
theorem cmpStr_any (x y:ByteArray) (w:World):Calls Tryz.prog 43 #[.string x,.string y] w fun e w'=>e=.returned (.int .i64 (cmpS (bl x) (bl y)))∧w'=w:=by
 have b1:=bytesLess_bl x y
 have b2:=bytesLess_bl y x
 obtain⟨r,hr⟩:∃r,cmpS (bl x) (bl y)=r:=⟨_,rfl⟩
 have HR:=Lib.hid hr
 rw[hr]
 clear hr
 by_cases h1:bl x<bl y
 ·have H:Hid ((-1:Int)=r):=by unfold Hid;rw[←HR.out];unfold cmpS;rw[if_pos h1]
  rw[decide_eq_true h1] at b1
  rw[decide_eq_false (blt_asymm h1)] at b2
  clear h1
  go_enter Tryz.func43,Tryz.ntmps43
  go_wp2_with fail
  refine(isNaNs_any x _).mono ?_
  rintro e w1 ⟨rfl,rfl⟩
  go_wp2_with fail
  refine(isNaNs_any y _).mono ?_
  rintro e w1 ⟨rfl,rfl⟩
  go_wp2
  go_ret
  exact⟨by rw[←H.out];rfl,rfl⟩
 ·rw[decide_eq_false h1] at b1
  by_cases h2:bl y<bl x
  ·have e3:(x.toList == y.toList)=false:=by rw[str_eqB];exact decide_eq_false fun e=>blt_asymm h2 (by rw[e] at h2 ⊢;exact h2)
   have H:Hid ((1:Int)=r):=by unfold Hid;rw[←HR.out];unfold cmpS;rw[if_neg h1,if_pos h2]
   rw[decide_eq_true h2] at b2
   clear h1 h2
   go_enter Tryz.func43,Tryz.ntmps43
   go_wp2_with fail
   refine(isNaNs_any x _).mono ?_
   rintro e w1 ⟨rfl,rfl⟩
   go_wp2_with fail
   refine(isNaNs_any y _).mono ?_
   rintro e w1 ⟨rfl,rfl⟩
   go_wp2
   go_ret
   exact⟨by rw[←H.out];rfl,rfl⟩
  ·have e3:(x.toList == y.toList)=true:=by rw[str_eqB];exact decide_eq_true (blt_eq h1 h2)
   have H:Hid ((0:Int)=r):=by unfold Hid;rw[←HR.out];unfold cmpS;rw[if_neg h1,if_neg h2]
   rw[decide_eq_false h2] at b2
   clear h1 h2
   go_enter Tryz.func43,Tryz.ntmps43
   go_wp2_with fail
   refine(isNaNs_any x _).mono ?_
   rintro e w1 ⟨rfl,rfl⟩
   go_wp2_with fail
   refine(isNaNs_any y _).mono ?_
   rintro e w1 ⟨rfl,rfl⟩
   go_wp2
   go_ret
   exact⟨by rw[←H.out];rfl,rfl⟩
end Go.Proofs.YtgmehlgfilpleaaGreatDoor
namespace Go.Proofs.YtgmehlgfilpleaaGreatDoor
open Go.RowKit
set_option linter.unusedVariables false
set_option linter.unusedSimpArgs false
def fsE (e:Nat→Int) (k:Nat):Nat→Int
 | 0=>0
 | n+1=>if e k=0 then fsE e (k+1) n else e k
def allE (e:Nat→Int) (n:Nat):Int:=fsE e 0 n
theorem fsE_step {e:Nat→Int} {k n:Nat} (h:k<n) (h0:e k=0):fsE e k (n-k)=fsE e (k+1) (n-(k+1)):=by
 rw[show n-k=(n-(k+1))+1 by omega];exact if_pos h0
theorem fsE_hit {e:Nat→Int} {k n:Nat} (h:k<n) (h0:e k≠0):fsE e k (n-k)=e k:=by
 rw[show n-k=(n-(k+1))+1 by omega];exact if_neg h0
theorem fsE_end {e:Nat→Int} {k n:Nat} (h:n≤k):fsE e k (n-k)=0:=by rw[show n-k=0 by omega];rfl
theorem fsE_congr {e e':Nat→Int}:∀(n k:Nat),(∀j,k≤j→j<k+n→e j=e' j)→fsE e k n=fsE e' k n
 | 0,_,_=>rfl
 | n+1,k,h=>by
  show(if e k=0 then fsE e (k+1) n else e k)=if e' k=0 then fsE e' (k+1) n else e' k
  rw[h k (Nat.le_refl _) (by omega),fsE_congr n (k+1) (fun j h1 h2=>h j (by omega) (by omega))]
theorem allE_congr {e e':Nat→Int} {n:Nat} (h:∀j,j<n→e j=e' j):allE e n=allE e' n:=fsE_congr n 0 (fun j _ h2=>h j (by omega))
theorem fsE_zero {e:Nat→Int}:∀(n k:Nat),fsE e k n=0→∀j,k≤j→j<k+n→e j=0
 | 0,k,_,j,h1,h2=>by omega
 | n+1,k,h,j,h1,h2=>by
  by_cases h0:e k=0
  ·by_cases hj:j=k
   ·rw[hj];exact h0
   ·refine fsE_zero n (k+1) ?_ j (by omega) (by omega)
    have h3:fsE e k (n+1)=fsE e (k+1) n:=if_pos h0
    rw[←h3];exact h
  ·have h3:fsE e k (n+1)=e k:=if_neg h0
   exact absurd (h3.symm.trans h) h0
theorem allE_zero {e:Nat→Int} {n:Nat} (h:allE e n=0):∀j,j<n→e j=0:=fun j hj=>fsE_zero n 0 h j (Nat.zero_le _) (by omega)
def toX (la lo ma mo:Int):Int:=mdrZ 20626481 (locV la lo ma mo).x (locV la lo ma mo).z
def toY (la lo ma mo:Int):Int:=mdrZ 20626481 (locV la lo ma mo).y (locV la lo ma mo).z
def toE (la lo ma mo:Int):Int :=
 if (orgB la lo&&vldB ma mo)=false then 1 else if (locV la lo ma mo).z≤0 then 2 else if pntB (toX la lo ma mo) (toY la lo ma mo)=true then 0 else 2
def toP (la lo ma mo:Int):Int × Int:=if toE la lo ma mo=0 then (toX la lo ma mo,toY la lo ma mo) else (0,0)
def hdrE (h:ImHd):Int :=
 if nameB h.nm 8=false then 5 else if cdE h.cy≠0 then cdE h.cy else if h.fr≠cdF h.cy∨h.tu≠cdT h.cy then 13 else toE h.la h.lo h.la h.lo
def ordE (c:Int):Int:=if c=0 then 7 else if c<0 then 9 else 0
def plcE (la lo:Int) (f:Fx) (bf al:List Fx):Int :=
 if toE la lo f.lat f.lon≠0 then toE la lo f.lat f.lon else if (f.kd == 5&&aptB bf f.id)=true then 7 else if (f.kd == 6 && !aptB al f.rg)=true then 6 else 0
def fx1E (la lo:Int) (l:List Fx) (k:Nat):Int :=
 fstE [fixE (l.getD k fx0),if k=0 then 0 else ordE (cmpS (fxRef (l.getD k fx0)) (fxRef (l.getD (k-1) fx0))),plcE la lo (l.getD k fx0) (l.take k) l]
def aw0:AwD:=⟨[],[]⟩
def aw1E (fx:List Fx) (l:List AwD) (k:Nat):Int :=
 fstE [chkA (l.getD k aw0).nm (l.getD k aw0).ps,if k=0 then 0 else ordE (cmpS (l.getD k aw0).nm (l.getD (k-1) aw0).nm),if ((l.getD k aw0).ps.all fun p=>rfsB fx p.ref)=true then 0 else 6]
def lg0:Lg:=⟨0,[],[],0,false,0,0,0,0,0,0,0,0⟩
def pa0:Pa:=⟨0,[],[]⟩
def pr0:Prc:=⟨[],[],0,[]⟩
def kndL (k:Nat):List Nat:=if k=1 then [1,2,3] else if k=2 then [3,2,1] else if k=3 then [3,2,4] else []
def opnB (pk k t:Nat):Bool:=((k == 4 || (k == 1&&pk == 1))&&(t == 3 || t == 4 || t == 7 || t == 8 || t == 10)) || t == 1
def fromB (t:Nat):Bool:=decide (11≤t)&&decide (t≤17)
def flwB (a b:Nat):Bool :=
 decide (1≤a)&&decide (a≤17)&&decide (1≤b)&&decide (b≤17) &&
 (if a≤6 then b != 1 else if 14≤a then (b == 2 || b == 3 || b == 4 || (decide (7≤b)&&decide (b≤13))) else if a=9 then b == 3 else if a=13 then false else b == 3 || b == 4 || (decide (7≤b)&&decide (b≤10)))
def jnB (a b:Lg):Bool:=flwB a.ty b.ty&&(!fromB b.ty || decide (a.fi=b.fi))
def lg1E (pk k:Nat) (l:List Lg) (j:Nat):Int :=
 fstE [legE (l.getD j lg0),if j=0 then (if opnB pk k (l.getD j lg0).ty=true then 0 else 9) else (if jnB (l.getD (j-1) lg0) (l.getD j lg0)=true then 0 else 9)]
def nmdE (x:Pa):Int:=if x.kd=1∨x.kd=3 then (if nameB x.nm 8=true then 0 else 5) else (if x.nm=[] then 0 else 5)
def paO (pk:Nat) (x y:Pa):Int :=
 if (kndL pk).idxOf x.kd<(kndL pk).idxOf y.kd then 9 else if (kndL pk).idxOf x.kd=(kndL pk).idxOf y.kd then (if x.nm<y.nm then 9 else if x.nm=y.nm then 7 else 0) else 0
def pa1E (pk:Nat) (l:List Pa) (i:Nat):Int :=
 fstE [if (l.getD i pa0).kd∈kndL pk then 0 else 17,if i=0 then 0 else paO pk (l.getD i pa0) (l.getD (i-1) pa0),nmdE (l.getD i pa0),
  if (l.getD i pa0).lg.length=0 then 1 else if 24<(l.getD i pa0).lg.length then 3 else 0,allE (lg1E pk (l.getD i pa0).kd (l.getD i pa0).lg) (l.getD i pa0).lg.length]
def cmnB (l:List Pa):Bool:=l.any fun x=>x.kd == 2&&decide (x.nm=[])
def prcE (p:Prc):Int :=
 fstE [if (nameB p.ap 6&&nameB p.nm 8)=true then 0 else 5,if p.kd=1∨p.kd=2∨p.kd=3 then 0 else 17,if 12<p.pa.length then 3 else 0,allE (pa1E p.kd p.pa) p.pa.length,
  if p.pa.length=0 then 6 else 0,if p.kd=3∧cmnB p.pa=false then 6 else 0]
def cmpP (p q:Prc):Int:=if cmpS p.ap q.ap≠0 then cmpS p.ap q.ap else if p.kd<q.kd then -1 else if q.kd<p.kd then 1 else cmpS p.nm q.nm
def rwOk (fx:List Fx) (p:Prc) (x:Pa):Bool:=x.kd != 1 || rwsB fx (x.nm++47::p.ap)
def lgOkB (fx:List Fx) (g:Lg):Bool:=hasB fx g.fi&&hasB fx g.ce
def pr1E (fx:List Fx) (l:List Prc) (k:Nat):Int :=
 fstE [prcE (l.getD k pr0),if k=0 then 0 else ordE (cmpP (l.getD k pr0) (l.getD (k-1) pr0)),if aptB fx (l.getD k pr0).ap=true then 0 else 6,
  if ((l.getD k pr0).pa.all fun x=>rwOk fx (l.getD k pr0) x)=true then 0 else 6,if ((l.getD k pr0).pa.all fun x=>x.lg.all fun g=>lgOkB fx g)=true then 0 else 6]
def dbE (d:DbD):Int :=
 fstE [hdrE d.hd,if 400<d.fx.length∨60<d.aw.length∨60<d.pr.length then 3 else 0,allE (fx1E d.hd.la d.hd.lo d.fx) d.fx.length,allE (aw1E d.fx d.aw) d.aw.length,allE (pr1E d.fx d.pr) d.pr.length]
def KndR (w:World) (v:Value) (k:Nat):Prop:=(kndL k=[]∧v=.slice none 0 0)∨∃g a b d,v=.slice (some ⟨g,0,none⟩) 3 3∧g<w.heap.size∧kndL k=[a,b,d]∧w.cell? ⟨g,0,none⟩=some (.int .u8 (a:Int))∧w.cell? ⟨g,1,none⟩=some (.int .u8 (b:Int))∧w.cell? ⟨g,2,none⟩=some (.int .u8 (d:Int))
theorem KndR.below {w w':World} {v:Value} {k:Nat} (h:KndR w v k) (hb:Below w.heap.size w w'):KndR w' v k:=by
 rcases h with h|⟨g,a,b,d,hv,hg,hk,h0,h1,h2⟩
 ·exact .inl h
 ·exact .inr ⟨g,a,b,d,hv,Nat.lt_of_lt_of_le hg hb.size,hk,(hb.cell (p:=⟨g,0,none⟩) hg).trans h0,(hb.cell (p:=⟨g,1,none⟩) hg).trans h1,(hb.cell (p:=⟨g,2,none⟩) hg).trans h2⟩
theorem KndR.form {w:World} {v:Value} {k:Nat} (h:KndR w v k):∃A n,v=.slice A n n:=by
 rcases h with ⟨_,rfl⟩|⟨g,a,b,d,rfl,_⟩
 ·exact⟨_,_,rfl⟩
 ·exact⟨_,_,rfl⟩
theorem kndR_new {w:World} {a b d k:Nat} (hk:kndL k=[a,b,d]) (t:TypeId):KndR (w.alloc (.cells #[.int .u8 (a:Int),.int .u8 (b:Int),.int .u8 (d:Int)] t)) (.slice (some ⟨w.heap.size,0,none⟩) 3 3) k:=by
 have h:=Bx.last w #[.int .u8 (a:Int),.int .u8 (b:Int),.int .u8 (d:Int)] t
 exact .inr ⟨_,a,b,d,rfl,h.lt,hk,h.cell 0 rfl,h.cell 1 rfl,h.cell 2 rfl⟩
set_option maxHeartbeats 1000000 in
theorem porder_any (k:Nat) (w:World) (hk:k<256):Calls Tryz.prog 70 #[.int .u8 (k:Int)] w fun e w'=>∃v,e=.returned v∧KndR w' v k∧(v=.slice none 0 0↔kndL k=[])∧Below w.heap.size w w':=by
 by_cases h1:k=1
 ·subst h1
  go_enter Tryz.func70,Tryz.ntmps70
  go_wp2
  go_ret
  exact⟨_,rfl,kndR_new (a:=1) (b:=2) (d:=3) rfl _,by simp[kndL],(Below.refl _ _).alloc (Nat.le_refl _) _⟩
 by_cases h2:k=2
 ·subst h2
  go_enter Tryz.func70,Tryz.ntmps70
  go_wp2
  go_ret
  exact⟨_,rfl,kndR_new (a:=3) (b:=2) (d:=1) rfl _,by simp[kndL],(Below.refl _ _).alloc (Nat.le_refl _) _⟩
 by_cases h3:k=3
 ·subst h3
  go_enter Tryz.func70,Tryz.ntmps70
  go_wp2
  go_ret
  exact⟨_,rfl,kndR_new (a:=3) (b:=2) (d:=4) rfl _,by simp[kndL],(Below.refl _ _).alloc (Nat.le_refl _) _⟩
 have e1:((k:Int) == 1)=false:=beq_eq_false_iff_ne.2 (by omega)
 have e2:((k:Int) == 2)=false:=beq_eq_false_iff_ne.2 (by omega)
 have e3:((k:Int) == 3)=false:=beq_eq_false_iff_ne.2 (by omega)
 have HK:Hid (kndL k=[]):=by unfold Hid kndL;rw[if_neg h1,if_neg h2,if_neg h3]
 clear h1 h2 h3
 go_enter Tryz.func70,Tryz.ntmps70
 go_wp2
 go_ret
 exact⟨_,rfl,.inl ⟨HK.out,rfl⟩,by simp[HK.out],Below.refl _ _⟩
def idxK (l:List Nat) (x:Nat):Int:=if x∈l then (l.idxOf x:Int) else -1
theorem idxK_nil (x:Nat):idxK [] x = -1:=rfl
theorem idxK_3 (a b d x:Nat):idxK [a,b,d] x=if a=x then 0 else if b=x then 1 else if d=x then 2 else -1:=by
 unfold idxK
 by_cases h1:a=x
 ·subst h1;simp
 ·by_cases h2:b=x
  ·subst h2;simp[List.idxOf_cons,h1,beq_eq_false_iff_ne.2 h1]
  ·by_cases h3:d=x
   ·subst h3;simp[List.idxOf_cons,h1,h2,beq_eq_false_iff_ne.2 h1,beq_eq_false_iff_ne.2 h2]
   ·have e1:¬x=a:=fun e=>h1 e.symm
    have e2:¬x=b:=fun e=>h2 e.symm
    have e3:¬x=d:=fun e=>h3 e.symm
    simp[h1,h2,h3,e1,e2,e3]
set_option maxHeartbeats 2000000 in
theorem pindex_any (v:Value) (k x:Nat) (w:World) (h:KndR w v k):Calls Tryz.prog 150 #[v,.int .u8 (x:Int)] w fun e w'=>e=.returned (.int .i64 (idxK (kndL k) x))∧w=w':=by
 rcases h with ⟨hk,rfl⟩|⟨g,a,b,d,rfl,hg,hk,c0,c1,c2⟩
 ·rw[hk,idxK_nil]
  go_enter Tryz.func150,Tryz.ntmps150
  go_wp2
  go_loopw [8] (fun iv wr=>iv=.int .i64 0∧w=wr) (fun iv _=>0)
  case atStart=>exact⟨rfl,rfl⟩
  case round =>
   obtain⟨rfl,rfl⟩:=hrel
   go_wp2
   go_ret
   exact⟨rfl,rfl⟩
 ·rw[hk,idxK_3]
  obtain⟨R,hR⟩:∃R:Int,(if a=x then (0:Int) else if b=x then 1 else if d=x then 2 else -1)=R:=⟨_,rfl⟩
  have HR:=Lib.hid hR
  rw[hR]
  clear hR hk
  go_enter Tryz.func150,Tryz.ntmps150
  go_wp2
  go_loopw [8] (fun iv wr=>w=wr∧((iv=.int .i64 0∧Hid True)∨(iv=.int .i64 1∧Hid (a≠x))∨(iv=.int .i64 2∧Hid (a≠x∧b≠x))∨(iv=.int .i64 3∧Hid (a≠x∧b≠x∧d≠x)))) (fun iv _=>3-(intOf iv).toNat)
  case atStart=>exact⟨rfl,.inl ⟨rfl,trivial⟩⟩
  case round =>
   obtain⟨rfl,⟨rfl,hx⟩|⟨rfl,hx⟩|⟨rfl,hx⟩|⟨rfl,hx⟩⟩:=hrel
   ·by_cases hax:a=x
    ·have e:((x:Int) == (a:Int))=true:=by rw[hax];simp
     have HE:Hid (R=0):=by unfold Hid;rw[←HR.out,if_pos hax]
     clear hax
     go_wp2
     go_ret
     exact⟨ret_int HE.out.symm,rfl⟩
    ·have e:((x:Int) == (a:Int))=false:=beq_eq_false_iff_ne.2 (by omega)
     have HX:=Lib.hid hax
     clear hax hx
     go_wp2
     go_roundw
     case rel=>exact⟨by first|rfl|trivial,.inr (.inl ⟨by first|rfl|go_num,HX⟩)⟩
     case measure=>simp[intOf]
   ·by_cases hax:b=x
    ·have e:((x:Int) == (b:Int))=true:=by rw[hax];simp
     have HE:Hid (R=1):=by unfold Hid;rw[←HR.out,if_neg hx.out,if_pos hax]
     clear hax
     go_wp2
     go_ret
     exact⟨ret_int HE.out.symm,rfl⟩
    ·have e:((x:Int) == (b:Int))=false:=beq_eq_false_iff_ne.2 (by omega)
     have HX:Hid (a≠x∧b≠x):=⟨hx.out,hax⟩
     clear hax hx
     go_wp2
     go_roundw
     case rel=>exact⟨by first|rfl|trivial,.inr (.inr (.inl ⟨by first|rfl|go_num,HX⟩))⟩
     case measure=>simp[intOf]
   ·by_cases hax:d=x
    ·have e:((x:Int) == (d:Int))=true:=by rw[hax];simp
     have HE:Hid (R=2):=by unfold Hid;rw[←HR.out,if_neg hx.out.1,if_neg hx.out.2,if_pos hax]
     clear hax
     go_wp2
     go_ret
     exact⟨ret_int HE.out.symm,rfl⟩
    ·have e:((x:Int) == (d:Int))=false:=beq_eq_false_iff_ne.2 (by omega)
     have HX:Hid (a≠x∧b≠x∧d≠x):=⟨hx.out.1,hx.out.2,hax⟩
     clear hax hx
     go_wp2
     go_roundw
     case rel=>exact⟨by first|rfl|trivial,.inr (.inr (.inr ⟨by first|rfl|go_num,HX⟩))⟩
     case measure=>simp[intOf]
   ·have HE:Hid (R = -1):=by unfold Hid;rw[←HR.out,if_neg hx.out.1,if_neg hx.out.2.1,if_neg hx.out.2.2]
    go_wp2
    go_ret
    exact⟨ret_int HE.out.symm,rfl⟩
theorem u8_beq (a b:Nat):((a:Int) == (b:Int))=(a == b):=by rw[Bool.eq_iff_iff,beq_iff_eq,beq_iff_eq];omega
set_option maxRecDepth 100000 in
set_option maxHeartbeats 8000000 in
theorem opens_any (pv:Value) (p:Prc) (k t:Nat) (w:World) (hpv:pv.oneCell'=true) :
  Calls Tryz.prog 152 #[.agg (prc (pv,p)).toArray,.int .u8 (k:Int),.int .u8 (t:Int)] w fun e w'=>e=.returned (.bool (opnB p.kd k t))∧Below w.heap.size w w':=by
 obtain⟨ap,nm,kd,pa⟩:=p
 unfold prc
 simp only
 obtain⟨w0,hw0⟩:∃W,w.alloc (.cells #[.string (sb ap),.string (sb nm),.int .u8 (kd:Int),pv] 57)=W:=⟨_,rfl⟩
 have B0:Hid (Below w.heap.size w w0):=by rw[←hw0];exact(Below.refl _ _).alloc (Nat.le_refl _) _
 have X0:Hid (Bx w.heap.size #[.string (sb ap),.string (sb nm),.int .u8 (kd:Int),pv] 57 w0):=by rw[←hw0];exact Bx.last w _ _
 have x2:=X0.out.cell 2 (u:=.int .u8 (kd:Int)) rfl
 have xl:=X0.out.lt
 have HW0:=Lib.hid hw0
 have HV:Hid (opnB kd k t=(((k == 4 || (k == 1&&kd == 1))&&(t == 3 || t == 4 || t == 7 || t == 8 || t == 10)) || t == 1)):=rfl
 have b4:=u8_beq k 4
 have b1:=u8_beq k 1
 have p1:=u8_beq kd 1
 have t3:=u8_beq t 3
 have t4:=u8_beq t 4
 have t7:=u8_beq t 7
 have t8:=u8_beq t 8
 have t10:=u8_beq t 10
 have t1:=u8_beq t 1
 obtain⟨B4,h4⟩:∃b,(k == 4)=b:=⟨_,rfl⟩
 obtain⟨B1,h1⟩:∃b,(k == 1)=b:=⟨_,rfl⟩
 obtain⟨P1,hp1⟩:∃b,(kd == 1)=b:=⟨_,rfl⟩
 obtain⟨T3,ht3⟩:∃b,(t == 3)=b:=⟨_,rfl⟩
 obtain⟨T4,ht4⟩:∃b,(t == 4)=b:=⟨_,rfl⟩
 obtain⟨T7,ht7⟩:∃b,(t == 7)=b:=⟨_,rfl⟩
 obtain⟨T8,ht8⟩:∃b,(t == 8)=b:=⟨_,rfl⟩
 obtain⟨TA,hta⟩:∃b,(t == 10)=b:=⟨_,rfl⟩
 obtain⟨T1,ht1⟩:∃b,(t == 1)=b:=⟨_,rfl⟩
 rw[h4,h1,hp1,ht3,ht4,ht7,ht8,hta,ht1] at HV
 rw[h4] at b4
 rw[h1] at b1
 rw[hp1] at p1
 rw[ht3] at t3
 rw[ht4] at t4
 rw[ht7] at t7
 rw[ht8] at t8
 rw[hta] at t10
 rw[ht1] at t1
 replace b4:((k:Int) == 4)=B4:=b4
 replace b1:((k:Int) == 1)=B1:=b1
 replace p1:((kd:Int) == 1)=P1:=p1
 replace t3:((t:Int) == 3)=T3:=t3
 replace t4:((t:Int) == 4)=T4:=t4
 replace t7:((t:Int) == 7)=T7:=t7
 replace t8:((t:Int) == 8)=T8:=t8
 replace t10:((t:Int) == 10)=TA:=t10
 replace t1:((t:Int) == 1)=T1:=t1
 rw[HV.out]
 clear HV hw0 h4 h1 hp1 ht3 ht4 ht7 ht8 hta ht1
 go_enter Tryz.func152,Tryz.ntmps152
 go_upto_region 1 with fail
 rw[HW0.out]
 go_cut [17] (fun v wx=>v=.bool (B4 || (B1&&P1))∧Hid (wx=w0))
 ·cases B4
  ·cases B1
   ·go_wp2;go_meet;exact⟨rfl,rfl⟩
   ·cases P1
    ·go_wp2;go_meet;exact⟨rfl,rfl⟩
    ·go_wp2;go_meet;exact⟨rfl,rfl⟩
  ·go_wp2;go_meet;exact⟨rfl,rfl⟩
 ·obtain⟨rfl,hwx⟩:=hcut
  obtain rfl:=hwx.out
  obtain⟨G,hG⟩:∃g,(B4 || (B1&&P1))=g:=⟨_,rfl⟩
  have HG:=Lib.hid hG
  rw[hG]
  clear hG b4 b1 p1 hwx
  cases G
  ·go_wp2;go_ret;exact⟨ret_bool (by rw[HG.out];simp),B0.out⟩
  ·cases T3
   ·cases T4
    ·cases T7
     ·cases T8
      ·cases TA
       ·go_wp2;go_ret;exact⟨ret_bool (by rw[HG.out];simp),B0.out⟩
       ·go_wp2;go_ret;exact⟨ret_bool (by rw[HG.out];simp),B0.out⟩
      ·go_wp2;go_ret;exact⟨ret_bool (by rw[HG.out];simp),B0.out⟩
     ·go_wp2;go_ret;exact⟨ret_bool (by rw[HG.out];simp),B0.out⟩
    ·go_wp2;go_ret;exact⟨ret_bool (by rw[HG.out];simp),B0.out⟩
   ·go_wp2;go_ret;exact⟨ret_bool (by rw[HG.out];simp),B0.out⟩
set_option maxHeartbeats 2000000 in
theorem lfrom_any (t:Nat) (w:World) (ht:t<256):Calls Tryz.prog 228 #[.int .u8 (t:Int)] w fun e w'=>e=.returned (.bool (fromB t))∧w=w':=by
 by_cases h:11≤t∧t≤17
 ·have hc:t=11∨t=12∨t=13∨t=14∨t=15∨t=16∨t=17:=by omega
  clear h ht
  rcases hc with rfl|rfl|rfl|rfl|rfl|rfl|rfl
  all_goals
   go_enter Tryz.func228,Tryz.ntmps228
   go_wp2
   go_ret
   exact⟨rfl,rfl⟩
 ·have HV:Hid (fromB t=false):=by unfold Hid fromB;rw[Bool.eq_false_iff];intro h2;simp only[Bool.and_eq_true,decide_eq_true_eq] at h2;exact h h2
  have e1:((t:Int) == 11)=false:=beq_eq_false_iff_ne.2 (by omega)
  have e2:((t:Int) == 12)=false:=beq_eq_false_iff_ne.2 (by omega)
  have e3:((t:Int) == 13)=false:=beq_eq_false_iff_ne.2 (by omega)
  have e4:((t:Int) == 14)=false:=beq_eq_false_iff_ne.2 (by omega)
  have e5:((t:Int) == 15)=false:=beq_eq_false_iff_ne.2 (by omega)
  have e6:((t:Int) == 16)=false:=beq_eq_false_iff_ne.2 (by omega)
  have e7:((t:Int) == 17)=false:=beq_eq_false_iff_ne.2 (by omega)
  clear h
  go_enter Tryz.func228,Tryz.ntmps228
  go_wp2
  go_ret
  exact⟨ret_bool HV.out.symm,rfl⟩
theorem flw_no {a b:Nat} (h:¬(1≤a∧a≤17)∨¬(1≤b∧b≤17)):flwB a b=false:=by
 unfold flwB
 rcases h with h|h
 ·by_cases h1:1≤a
  ·simp[show ¬a≤17 by omega]
  ·simp[h1]
 ·by_cases h1:1≤b
  ·simp[show ¬b≤17 by omega]
  ·simp[h1]
set_option maxRecDepth 100000 in
set_option maxHeartbeats 40000000 in
theorem lfollows_any (a b:Nat) (w:World) (ha:a<256) (hb:b<256):Calls Tryz.prog 227 #[.int .u8 (a:Int),.int .u8 (b:Int)] w fun e w'=>e=.returned (.bool (flwB a b))∧w=w':=by
 have ka:=fun w=>legKnown_any a w ha
 have kb:=fun w=>legKnown_any b w hb
 by_cases h1:1≤a∧a≤17
 ·by_cases h2:1≤b∧b≤17
  ·rw[decide_eq_true h1] at ka
   rw[decide_eq_true h2] at kb
   by_cases h6:a≤6
   ·have HV:Hid (flwB a b=(b != 1)):=by unfold Hid flwB;simp[h1,h2,h6]
    have ebx:((b:Int) != 1)=(b != 1):=by show(!((b:Int) == 1)) = !(b == 1);rw[show(1:Int)=((1:Nat):Int) from rfl,u8_beq]
    have hc:a=1∨a=2∨a=3∨a=4∨a=5∨a=6:=by omega
    obtain⟨B,hB⟩:∃x,(b != 1)=x:=⟨_,rfl⟩
    rw[hB] at HV ebx
    clear h1 h2 h6 hB ha hb
    rcases hc with rfl|rfl|rfl|rfl|rfl|rfl
    all_goals
     go_enter Tryz.func227,Tryz.ntmps227
     go_wp2_with fail
     refine(ka _).mono ?_
     rintro e w1 ⟨rfl,rfl⟩
     go_wp2_with fail
     refine(kb _).mono ?_
     rintro e w1 ⟨rfl,rfl⟩
     go_wp2
     go_ret
     exact⟨ret_bool HV.out.symm,rfl⟩
   ·have hc:a=7∨a=8∨a=9∨a=10∨a=11∨a=12∨a=13∨a=14∨a=15∨a=16∨a=17:=by omega
    have hd:b=1∨b=2∨b=3∨b=4∨b=5∨b=6∨b=7∨b=8∨b=9∨b=10∨b=11∨b=12∨b=13∨b=14∨b=15∨b=16∨b=17:=by omega
    clear h1 h2 h6 ha hb
    rcases hc with rfl|rfl|rfl|rfl|rfl|rfl|rfl|rfl|rfl|rfl|rfl
    all_goals
     rcases hd with rfl|rfl|rfl|rfl|rfl|rfl|rfl|rfl|rfl|rfl|rfl|rfl|rfl|rfl|rfl|rfl|rfl
    all_goals
     go_enter Tryz.func227,Tryz.ntmps227
     go_wp2_with fail
     refine(ka _).mono ?_
     rintro e w1 ⟨rfl,rfl⟩
     go_wp2_with fail
     refine(kb _).mono ?_
     rintro e w1 ⟨rfl,rfl⟩
     go_wp2
     go_ret
     exact⟨rfl,rfl⟩
  ·rw[decide_eq_true h1] at ka
   rw[decide_eq_false h2] at kb
   have HV:=Lib.hid (flw_no (a:=a) (.inr h2))
   clear h1 h2
   go_enter Tryz.func227,Tryz.ntmps227
   go_wp2_with fail
   refine(ka _).mono ?_
   rintro e w1 ⟨rfl,rfl⟩
   go_wp2_with fail
   refine(kb _).mono ?_
   rintro e w1 ⟨rfl,rfl⟩
   go_wp2
   go_ret
   exact⟨ret_bool HV.out.symm,rfl⟩
 ·rw[decide_eq_false h1] at ka
  have HV:=Lib.hid (flw_no (b:=b) (.inl h1))
  clear h1
  go_enter Tryz.func227,Tryz.ntmps227
  go_wp2_with fail
  refine(ka _).mono ?_
  rintro e w1 ⟨rfl,rfl⟩
  go_wp2
  go_ret
  exact⟨ret_bool HV.out.symm,rfl⟩
theorem Lg.boxes {w w0:World} (a b:Lg) (h:(w.alloc (.cells (lgc a).toArray 65)).alloc (.cells (lgc b).toArray 65)=w0) :
  Below w.heap.size w w0∧Bx w.heap.size (lgc a).toArray 65 w0∧Bx (w.heap.size+1) (lgc b).toArray 65 w0:=by
 subst h
 exact⟨((Below.refl _ _).alloc (Nat.le_refl _) _).alloc (by simp) _,(Bx.last w _ _).grow _,Bx.last2 w _ _ _⟩
set_option maxRecDepth 100000 in
set_option maxHeartbeats 4000000 in
theorem joins_any (a b:Lg) (w:World) (ha:LgOk a) (hb:LgOk b):Calls Tryz.prog 153 #[.agg (lgc a).toArray,.agg (lgc b).toArray] w fun e w'=>e=.returned (.bool (jnB a b))∧Below w.heap.size w w':=by
 have fl:=fun w=>lfollows_any a.ty b.ty w ha.2.2.1 hb.2.2.1
 have fr:=fun w=>lfrom_any b.ty w hb.2.2.1
 have HV:Hid (jnB a b=(flwB a.ty b.ty&&(!fromB b.ty || decide (a.fi=b.fi)))):=rfl
 obtain⟨w0,hw0⟩:∃W,(w.alloc (.cells (lgc a).toArray 65)).alloc (.cells (lgc b).toArray 65)=W:=⟨_,rfl⟩
 obtain⟨b0,X0,Y0⟩:=Lg.boxes a b hw0
 have B0:=Lib.hid b0
 have x0:=X0.cell 0 (u:=.int .u8 (a.ty:Int)) rfl
 have x1:=X0.cell 1 (u:=.string (sb a.fi)) rfl
 have y0:=Y0.cell 0 (u:=.int .u8 (b.ty:Int)) rfl
 have y1:=Y0.cell 1 (u:=.string (sb b.fi)) rfl
 have xl:=X0.lt
 have yl:=Y0.lt
 have es:((sb a.fi).toList == (sb b.fi).toList)=decide (a.fi=b.fi):=by rw[str_eqB,bl_sb,bl_sb]
 obtain⟨F,hF⟩:∃x,flwB a.ty b.ty=x:=⟨_,rfl⟩
 obtain⟨G,hG⟩:∃x,fromB b.ty=x:=⟨_,rfl⟩
 obtain⟨E,hE⟩:∃x,decide (a.fi=b.fi)=x:=⟨_,rfl⟩
 rw[hF] at fl HV
 rw[hG] at fr HV
 rw[hE] at es HV
 rw[HV.out]
 clear HV hF hG hE ha hb b0 X0 Y0
 obtain⟨aty,afi,ace,atn,aov,acr,ads,ara,ath,alo,ahi,asp,arn⟩:=a
 obtain⟨bty,bfi,bce,btn,bov,bcr,bds,bra,bth,blo,bhi,bsp,brn⟩:=b
 unfold lgc at hw0 ⊢
 simp only at x0 x1 y0 y1 es fl fr hw0 ⊢
 have HW0:=Lib.hid hw0
 clear hw0
 go_enter Tryz.func153,Tryz.ntmps153
 go_wp2_with fail
 rw[HW0.out]
 clear HW0
 refine(fl _).mono ?_
 rintro e w1 ⟨rfl,rfl⟩
 cases F
 ·go_wp2
  go_ret
  exact⟨rfl,B0.out⟩
 ·go_wp2_with fail
  refine(fr _).mono ?_
  rintro e w1 ⟨rfl,rfl⟩
  cases G
  ·go_wp2
   go_ret
   exact⟨rfl,B0.out⟩
  ·go_wp2
   go_ret
   exact⟨by first|rfl|simp,B0.out⟩
theorem toE_org {la lo ma mo:Int} (h:orgB la lo=false):toE la lo ma mo=1:=by unfold toE;rw[if_pos (by simp[h])]
theorem toE_vld {la lo ma mo:Int} (h:orgB la lo=true) (h2:vldB ma mo=false):toE la lo ma mo=1:=by unfold toE;rw[if_pos (by simp[h2])]
theorem toE_low {la lo ma mo:Int} (h:orgB la lo=true) (h2:vldB ma mo=true) (h3:(locV la lo ma mo).z≤0):toE la lo ma mo=2:=by unfold toE;rw[if_neg (by simp[h,h2]),if_pos h3]
theorem toE_in {la lo ma mo:Int} (h:orgB la lo=true) (h2:vldB ma mo=true) (h3:¬(locV la lo ma mo).z≤0):toE la lo ma mo=if pntB (toX la lo ma mo) (toY la lo ma mo)=true then 0 else 2:=by unfold toE;rw[if_neg (by simp[h,h2]),if_neg h3]
theorem toP_ok {la lo ma mo:Int} (h:toE la lo ma mo=0):toP la lo ma mo=(toX la lo ma mo,toY la lo ma mo):=if_pos h
theorem toP_no {la lo ma mo:Int} (h:toE la lo ma mo≠0):toP la lo ma mo=(0,0):=if_neg h
theorem org_vld {la lo:Int} (h:orgB la lo=true):vldB la lo=true:=by unfold orgB at h;rw[Bool.and_eq_true] at h;exact h.1
def ToPost (la lo ma mo:Int) (w:World) (e:Ending) (w':World):Prop :=
 e=.returned (.tuple #[.agg #[.int .i64 (toP la lo ma mo).1,.int .i64 (toP la lo ma mo).2],.int .i64 (toE la lo ma mo)])∧Below w.heap.size w w'
theorem ToPost.no {la lo ma mo er:Int} {w w':World} (h:toE la lo ma mo=er) (h0:er≠0) (hb:Below w.heap.size w w'):ToPost la lo ma mo w (.returned (.tuple #[.agg #[.int .i64 0,.int .i64 0],.int .i64 er])) w':=by
 unfold ToPost;rw[toP_no (by rw[h];exact h0),h];exact⟨rfl,hb⟩
theorem ToPost.ok {la lo ma mo x y:Int} {w w':World} (h:toE la lo ma mo=0) (hx:toX la lo ma mo=x) (hy:toY la lo ma mo=y) (hb:Below w.heap.size w w'):ToPost la lo ma mo w (.returned (.tuple #[.agg #[.int .i64 x,.int .i64 y],.int .i64 0])) w':=by
 unfold ToPost;rw[toP_ok h,h,hx,hy];exact⟨rfl,hb⟩
set_option maxRecDepth 100000 in
set_option maxHeartbeats 8000000 in
theorem To_post (la lo ma mo:Int) (w:World):Calls Tryz.prog 12 #[.agg #[.int .i64 la,.int .i64 lo],.agg #[.int .i64 ma,.int .i64 mo]] w (ToPost la lo ma mo w):=by
 have hv:=fun w=>sValid_any ma mo w
 have io:=fun w=>isOrigin_any la lo w
 obtain⟨w0,hw0⟩:∃W,((w.alloc (.cells #[.int .i64 la,.int .i64 lo] 23)).alloc (.cells #[.int .i64 ma,.int .i64 mo] 23)).alloc (.cells #[.int .i64 0,.int .i64 0] 40)=W:=⟨_,rfl⟩
 have BX:Hid (∀wa,Below w0.heap.size w0 wa→(wa.cell? ⟨w.heap.size,0,none⟩=some (.int .i64 la)∧wa.cell? ⟨w.heap.size,1,none⟩=some (.int .i64 lo)∧wa.cell? ⟨w.heap.size+1,0,none⟩=some (.int .i64 ma)∧wa.cell? ⟨w.heap.size+1,1,none⟩=some (.int .i64 mo)) ∧
   (wa.cell? ⟨w.heap.size+1+1,0,none⟩=some (.int .i64 0)∧wa.cell? ⟨w.heap.size+1+1,1,none⟩=some (.int .i64 0)∧wa.frozen? ⟨w.heap.size+1+1,0,none⟩=false∧wa.frozen? ⟨w.heap.size+1+1,1,none⟩=false)∧Below w.heap.size w wa∧w.heap.size+1+1<wa.heap.size):=by
  have hb0:Below w.heap.size w w0:=by rw[←hw0];exact(((Below.refl _ _).alloc (Nat.le_refl _) _).alloc (by simp) _).alloc (by simp;omega) _
  have hc:(w0.cell? ⟨w.heap.size,0,none⟩=some (.int .i64 la)∧w0.cell? ⟨w.heap.size,1,none⟩=some (.int .i64 lo)∧w0.cell? ⟨w.heap.size+1,0,none⟩=some (.int .i64 ma)∧w0.cell? ⟨w.heap.size+1,1,none⟩=some (.int .i64 mo)) ∧
   (w0.cell? ⟨w.heap.size+1+1,0,none⟩=some (.int .i64 0)∧w0.cell? ⟨w.heap.size+1+1,1,none⟩=some (.int .i64 0)∧w0.frozen? ⟨w.heap.size+1+1,0,none⟩=false∧w0.frozen? ⟨w.heap.size+1+1,1,none⟩=false)∧w.heap.size+1+1<w0.heap.size:=by rw[←hw0];simp[go_sem]
  obtain⟨⟨a0,a1,a2,a3⟩,⟨b0,b1,b2,b3⟩,hl⟩:=hc
  intro wa hb
  have l0:w.heap.size<w0.heap.size:=by omega
  have l1:w.heap.size+1<w0.heap.size:=by omega
  exact⟨⟨(hb.cell (p:=⟨w.heap.size,0,none⟩) l0).trans a0,(hb.cell (p:=⟨w.heap.size,1,none⟩) l0).trans a1,(hb.cell (p:=⟨w.heap.size+1,0,none⟩) l1).trans a2,(hb.cell (p:=⟨w.heap.size+1,1,none⟩) l1).trans a3⟩,
   ⟨(hb.cell (p:=⟨w.heap.size+1+1,0,none⟩) hl).trans b0,(hb.cell (p:=⟨w.heap.size+1+1,1,none⟩) hl).trans b1,(hb.frozen (p:=⟨w.heap.size+1+1,0,none⟩) hl).trans b2,(hb.frozen (p:=⟨w.heap.size+1+1,1,none⟩) hl).trans b3⟩,Below.then_ hb0 hb,Nat.lt_of_lt_of_le hl hb.size⟩
 obtain⟨⟨c0,c1,c2,c3⟩,_,_,_⟩:=BX.out w0 (Below.refl _ _)
 have HN:=Lib.hid (fun(er:Int) (W:World) (h:toE la lo ma mo=er) (h0:er≠0) (hb:Below w.heap.size w W)=>ToPost.no (w:=w) (w':=W) h h0 hb)
 have HK:=Lib.hid (fun(x y:Int) (W:World) (h:toE la lo ma mo=0) (hx:toX la lo ma mo=x) (hy:toY la lo ma mo=y) (hb:Below w.heap.size w W)=>ToPost.ok (w:=w) (w':=W) h hx hy hb)
 have HO1:=Lib.hid (@toE_org la lo ma mo)
 have HO2:=Lib.hid (@toE_vld la lo ma mo)
 have HO3:=Lib.hid (@toE_low la lo ma mo)
 have HO4:=Lib.hid (@toE_in la lo ma mo)
 have HLC:=Lib.hid (fun w=>Local_any la lo ma mo w)
 have HOV:=Lib.hid (@org_vld la lo)
 have HBD:=Lib.hid (loc_bd la lo ma mo)
 have HTX:Hid (toX la lo ma mo=mdrZ 20626481 (locV la lo ma mo).x (locV la lo ma mo).z):=rfl
 have HTY:Hid (toY la lo ma mo=mdrZ 20626481 (locV la lo ma mo).y (locV la lo ma mo).z):=rfl
 obtain⟨X,hX⟩:∃x,toX la lo ma mo=x:=⟨_,rfl⟩
 obtain⟨Y,hY⟩:∃x,toY la lo ma mo=x:=⟨_,rfl⟩
 rw[hX] at HTX
 rw[hY] at HTY
 rw[hX,hY] at HO4
 have HX:=Lib.hid hX
 have HY:=Lib.hid hY
 obtain⟨ob,hob⟩:∃x,orgB la lo=x:=⟨_,rfl⟩
 obtain⟨vb,hvb⟩:∃x,vldB ma mo=x:=⟨_,rfl⟩
 obtain⟨V,hV⟩:∃x,locV la lo ma mo=x:=⟨_,rfl⟩
 rw[hob] at io HO1 HO2 HO3 HO4 HOV
 rw[hvb] at hv HO2 HO3 HO4 HLC
 rw[hV] at HO3 HO4 HLC HBD HTX HTY
 obtain⟨vx,vy,vz⟩:=V
 unfold vcV at HLC
 simp only at HO3 HO4 HLC HBD HTX HTY
 clear hob hvb hV hX hY
 go_enter Tryz.func12,Tryz.ntmps12
 go_wp2_with fail
 try rw[hw0]
 clear hw0
 refine(io _).mono ?_
 rintro e w1 ⟨rfl,hb1⟩
 have HB1:=Lib.hid hb1
 clear hb1 c0 c1 c2 c3
 cases ob with
 | false =>
  obtain⟨_,⟨r0,r1,r2,r3⟩,hbb,hll⟩:=BX.out w1 HB1.out
  have HE:Hid (Below w.heap.size w ((w1.setCell ⟨w.heap.size+1+1,0,none⟩ (.int .i64 0)).setCell ⟨w.heap.size+1+1,1,none⟩ (.int .i64 0))):=(hbb.setCell (by simp;omega) _).setCell (by simp;omega) _
  clear hbb
  go_wp2
  refine bodyPost_ret (v:=.tuple #[.agg #[.int .i64 0,.int .i64 0],.int .i64 1]) (by simp[results,Tryz.results12,go_sem,r0,r1];try rfl) rfl ?_
  exact HN.out 1 _ (HO1.out (by trivial)) (by decide) HE.out
 | true =>
  obtain⟨⟨c0,c1,c2,c3⟩,_,_,_⟩:=BX.out w1 HB1.out
  go_wp2_with fail
  refine(hv _).mono ?_
  rintro e w2 ⟨rfl,hb2⟩
  have HB2:=Lib.hid (Below.then_ HB1.out hb2)
  clear hb2 HB1 c0 c1 c2 c3
  cases vb with
  | false =>
   obtain⟨_,⟨r0,r1,r2,r3⟩,hbb,hll⟩:=BX.out w2 HB2.out
   have HE:Hid (Below w.heap.size w ((w2.setCell ⟨w.heap.size+1+1,0,none⟩ (.int .i64 0)).setCell ⟨w.heap.size+1+1,1,none⟩ (.int .i64 0))):=(hbb.setCell (by simp;omega) _).setCell (by simp;omega) _
   clear hbb
   go_wp2
   refine bodyPost_ret (v:=.tuple #[.agg #[.int .i64 0,.int .i64 0],.int .i64 1]) (by simp[results,Tryz.results12,go_sem,r0,r1];try rfl) rfl ?_
   exact HN.out 1 _ (HO2.out (by trivial) (by trivial)) (by decide) HE.out
  | true =>
   obtain⟨⟨c0,c1,c2,c3⟩,_,_,_⟩:=BX.out w2 HB2.out
   go_wp2_with fail
   refine(HLC.out _ (HOV.out (by trivial)) (by trivial)).mono ?_
   rintro e w3 ⟨rfl,hb3⟩
   have HB3:=Lib.hid (Below.then_ HB2.out hb3)
   clear hb3 HB2 c0 c1 c2 c3
   obtain⟨w4,hw4⟩:∃W,w3.alloc (.cells #[.int .i64 vx,.int .i64 vy,.int .i64 vz] 106)=W:=⟨_,rfl⟩
   have X4:Hid (Bx w3.heap.size #[.int .i64 vx,.int .i64 vy,.int .i64 vz] 106 w4):=by rw[←hw4];exact Bx.last w3 _ _
   have HB4:Hid (Below w0.heap.size w0 w4):=by rw[←hw4];exact HB3.out.alloc HB3.out.size _
   have HW4:=Lib.hid hw4
   clear hw4
   go_upto_region 4 with fail
   rw[HW4.out]
   clear HW4
   obtain⟨⟨x0,x1,x2⟩,_⟩:=X4.out.cells3
   have xl:=X4.out.lt
   by_cases hz:vz≤0
   ·obtain⟨_,⟨r0,r1,r2,r3⟩,hbb,hll⟩:=BX.out w4 HB4.out
    have HE:Hid (Below w.heap.size w ((w4.setCell ⟨w.heap.size+1+1,0,none⟩ (.int .i64 0)).setCell ⟨w.heap.size+1+1,1,none⟩ (.int .i64 0))):=(hbb.setCell (by simp;omega) _).setCell (by simp;omega) _
    have HZ:=Lib.hid hz
    clear hbb
    go_wp2
    refine bodyPost_ret (v:=.tuple #[.agg #[.int .i64 0,.int .i64 0],.int .i64 2]) (by simp[results,Tryz.results12,go_sem,r0,r1];try rfl) rfl ?_
    exact HN.out 2 _ (HO3.out (by trivial) (by trivial) HZ.out) (by decide) HE.out
   ·obtain⟨Z,hZ⟩:∃Z:Nat,vz=(Z:Int):=⟨vz.toNat,by omega⟩
    obtain⟨bd1,bd2,bd3⟩:=HBD.out
    have md1:=fun w=>mulDivRound_any vx Z w bd1.1 bd1.2 (by omega) (by omega)
    have md2:=fun w=>mulDivRound_any vy Z w bd2.1 bd2.2 (by omega) (by omega)
    have HZ:=Lib.hid (HO4.out (by trivial) (by trivial) (by first|exact hz|omega))
    rw[←hZ,←HTX.out] at md1
    rw[←hZ,←HTY.out] at md2
    clear hZ bd1 bd2 bd3
    go_wp2_with fail
    refine(md1 _).mono ?_
    rintro e w5 ⟨rfl,hb5⟩
    have HB5:=Lib.hid (Below.then_ HB4.out hb5)
    have X5:=Lib.hid (X4.out.via hb5)
    clear hb5 HB4 X4 x0 x1 x2 xl
    obtain⟨⟨x0,x1,x2⟩,_⟩:=X5.out.cells3
    have xl:=X5.out.lt
    go_wp2_with fail
    refine(md2 _).mono ?_
    rintro e w6 ⟨rfl,hb6⟩
    have HB6:=Lib.hid (Below.then_ HB5.out hb6)
    clear hb6 HB5 X5 x0 x1 x2 xl md1 md2
    obtain⟨w7,hw7⟩:∃W,w6.alloc (.cells #[.int .i64 X,.int .i64 Y] 40)=W:=⟨_,rfl⟩
    have X7:Hid (Bx w6.heap.size #[.int .i64 X,.int .i64 Y] 40 w7):=by rw[←hw7];exact Bx.last w6 _ _
    have HB7:Hid (Below w0.heap.size w0 w7):=by rw[←hw7];exact HB6.out.alloc HB6.out.size _
    have HW7:=Lib.hid hw7
    have pv:=fun w=>planeValid_any X Y w
    obtain⟨pb,hpb⟩:∃x,pntB X Y=x:=⟨_,rfl⟩
    rw[hpb] at pv HZ
    clear hw7 hpb
    go_wp2_with fail
    rw[HW7.out]
    clear HW7
    refine(pv _).mono ?_
    rintro e w8 ⟨rfl,hb8⟩
    have HB8:=Lib.hid (Below.then_ HB7.out hb8)
    have X8:=Lib.hid (X7.out.via hb8)
    clear hb8 HB7 X7
    obtain⟨_,⟨r0,r1,r2,r3⟩,hbb,hll⟩:=BX.out w8 HB8.out
    cases pb with
    | false =>
     have HE:Hid (Below w.heap.size w ((w8.setCell ⟨w.heap.size+1+1,0,none⟩ (.int .i64 0)).setCell ⟨w.heap.size+1+1,1,none⟩ (.int .i64 0))):=(hbb.setCell (by simp;omega) _).setCell (by simp;omega) _
     clear hbb
     go_wp2
     refine bodyPost_ret (v:=.tuple #[.agg #[.int .i64 0,.int .i64 0],.int .i64 2]) (by simp[results,Tryz.results12,go_sem,r0,r1];try rfl) rfl ?_
     exact HN.out 2 _ (by rw[HZ.out];rfl) (by decide) HE.out
    | true =>
     have x0:=X8.out.cell 0 (u:=.int .i64 X) rfl
     have x1:=X8.out.cell 1 (u:=.int .i64 Y) rfl
     have xl:=X8.out.lt
     have HE:Hid (Below w.heap.size w ((w8.setCell ⟨w.heap.size+1+1,0,none⟩ (.int .i64 X)).setCell ⟨w.heap.size+1+1,1,none⟩ (.int .i64 Y))):=(hbb.setCell (by simp;omega) _).setCell (by simp;omega) _
     clear hbb
     go_wp2
     refine bodyPost_ret (v:=.tuple #[.agg #[.int .i64 X,.int .i64 Y],.int .i64 0]) (by simp[results,Tryz.results12,go_sem,r0,r1];try rfl) rfl ?_
     exact HK.out X Y _ (by rw[HZ.out];rfl) HX.out HY.out HE.out
theorem To_any (la lo ma mo:Int) (w:World):Calls Tryz.prog 12 #[.agg #[.int .i64 la,.int .i64 lo],.agg #[.int .i64 ma,.int .i64 mo]] w fun e w' =>
  e=.returned (.tuple #[.agg #[.int .i64 (toP la lo ma mo).1,.int .i64 (toP la lo ma mo).2],.int .i64 (toE la lo ma mo)])∧Below w.heap.size w w':=To_post la lo ma mo w
end Go.Proofs.YtgmehlgfilpleaaGreatDoor
