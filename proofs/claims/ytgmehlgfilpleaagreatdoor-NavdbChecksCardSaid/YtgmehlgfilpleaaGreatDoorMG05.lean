/-
  Several texts as one.
-/
import Derived.Test.YtgmehlgfilpleaaGreatDoorBase
import Derived.Test.YtgmehlgfilpleaaGreatDoorMG03
import Derived.Test.YtgmehlgfilpleaaGreatDoorMG04
import Derived.Lib.SplitLaws
import Derived.Test.YtgmehlgfilpleaaGreatDoorMG02
import Derived.Test.YtgmehlgfilpleaaGreatDoorMG01
import Derived.Laws.BytesString
import Derived.Laws.Cells
import Derived.Laws.OwnMore
import Derived.Deep.OwnRows
namespace Go.Proofs.YtgmehlgfilpleaaGreatDoor
open Go.RowKit
set_option linter.unusedVariables false
set_option linter.unusedSimpArgs false

def fixD (n:Nat):Nat→List UInt8
 | 0=>[]
 | c+1=>fixD (n/10) c++[UInt8.ofNat (48+n%10)]
def digC (c:UInt8):Bool:=decide (48≤c.toNat)&&decide (c.toNat≤57)
def numV (l:List UInt8):Nat:=l.foldl (fun n c=>10*n+(c.toNat-48)) 0
theorem fixD_len:∀(c n:Nat),(fixD n c).length=c
 | 0,n=>rfl
 | c+1,n=>by unfold fixD;rw[List.length_append,fixD_len c];rfl
theorem digit_toNat {n:Nat} (h:n<10):(UInt8.ofNat (48+n)).toNat=48+n:=by
 simp;omega
theorem numV_snoc (l:List UInt8) (c:UInt8):numV (l++[c])=10*numV l+(c.toNat-48):=by unfold numV;rw[List.foldl_append];rfl
theorem fold_lt:∀(l:List UInt8) (acc:Nat),l.all digC=true→l.foldl (fun n c=>10*n+(c.toNat-48)) acc+1≤(acc+1)*10^l.length
 | [],acc,_=>by simp
 | c::l,acc,h=>by
  rw[List.all_cons,Bool.and_eq_true] at h
  have h2:=h.1
  unfold digC at h2
  rw[Bool.and_eq_true,decide_eq_true_iff,decide_eq_true_iff] at h2
  rw[List.foldl_cons,List.length_cons]
  refine Nat.le_trans (fold_lt l _ h.2) ?_
  rw[Nat.pow_succ,Nat.mul_comm (10^l.length) 10,←Nat.mul_assoc]
  exact Nat.mul_le_mul_right _ (by omega)
theorem numV_lt (l:List UInt8) (h:l.all digC=true):numV l<10^l.length:=by
 have:=fold_lt l 0 h
 unfold numV
 omega
def sexa (a:Nat) (c:Nat):List UInt8:=fixD (a/360000) c++fixD (a%360000/6000) 2++fixD (a%6000/100) 2++fixD (a%100) 2
theorem sexa_len (a c:Nat):(sexa a c).length=c+6:=by
 unfold sexa;rw[List.length_append,List.length_append,List.length_append,fixD_len,fixD_len,fixD_len,fixD_len]
def sgnText (a:Int) (p m:UInt8) (c:Nat):List UInt8:=if a<0 then m::sexa (-a).toNat c else p::sexa a.toNat c
def latB (a:Int):Bool:=decide (-32400000≤a)&&decide (a≤32400000)
def lonB (a:Int):Bool:=decide (-64800000<a)&&decide (a≤64800000)
def latOut (a:Int):List UInt8:=if latB a then sgnText a 78 83 2 else []
def lonOut (a:Int):List UInt8:=if lonB a then sgnText a 69 87 3 else []
def posB (a b:Int):Bool:=latB a&&lonB b
def posOut (a b:Int):List UInt8:=if posB a b then latOut a++lonOut b else []
def posErr (a b:Int):Int:=if posB a b then 0 else 2
def joinV (l:List UInt8) (c:Nat):Nat:=numV (l.take c)*360000+numV ((l.drop c).take 2)*6000+numV ((l.drop (c+2)).take 2)*100+numV (l.drop (c+4))
def joinB (l:List UInt8) (c:Nat):Bool:=decide (l.length=c+6)&&l.all digC&&decide (numV ((l.drop c).take 2)<60)&&decide (numV ((l.drop (c+2)).take 2)<60)
def sgnB (l:List UInt8) (p m:UInt8) (c:Nat):Bool:=decide (l.length=c+7)&&(l.headD 0 == p || l.headD 0 == m)&&joinB l.tail c && !(l.headD 0 == m&&decide (joinV l.tail c=0))
def sgnV (l:List UInt8) (m:UInt8) (c:Nat):Int:=if l.headD 0 == m then -(joinV l.tail c:Int) else (joinV l.tail c:Int)
theorem sgnText_len (a:Int) (p m:UInt8) (c:Nat):(sgnText a p m c).length=c+7:=by
 unfold sgnText;split <;> rw[List.length_cons,sexa_len]
def latPErr (l:List UInt8):Int:=if sgnB l 78 83 2 then (if latB (sgnV l 83 2) then 0 else 2) else 4
def lonPErr (l:List UInt8):Int:=if sgnB l 69 87 3 then (if lonB (sgnV l 87 3) then 0 else 2) else 4
def latPV (l:List UInt8):Int:=if latPErr l=0 then sgnV l 83 2 else 0
def lonPV (l:List UInt8):Int:=if lonPErr l=0 then sgnV l 87 3 else 0
def posPErr (l:List UInt8):Int:=if l.length=19 then (if latPErr (l.take 9)=0 then lonPErr (l.drop 9) else latPErr (l.take 9)) else 4
def posPLat (l:List UInt8):Int:=if posPErr l=0 then latPV (l.take 9) else 0
def posPLon (l:List UInt8):Int:=if posPErr l=0 then lonPV (l.drop 9) else 0


def linesL:List UInt8→List (List UInt8)
 | []=>[[]]
 | c::l=>if c=10 then []::linesL l else (c::(linesL l).headD [])::(linesL l).tail
theorem linesL_ne (l:List UInt8):linesL l≠[]:=by
 cases l with
 | nil=>simp[linesL]
 | cons c l=>unfold linesL;split <;> simp
theorem linesL_eta (l:List UInt8):(linesL l).headD []::(linesL l).tail=linesL l:=by
 cases h:linesL l with
 | nil=>exact absurd h (linesL_ne l)
 | cons a r=>rfl
theorem linesL_cons (c:UInt8) (l:List UInt8):linesL (c::l)=if c=10 then []::linesL l else (c::(linesL l).headD [])::(linesL l).tail:=rfl
theorem linesL_cut (l:List UInt8):linesL l=if (cutAt 10 l).2.2 then (cutAt 10 l).1::linesL (cutAt 10 l).2.1 else [l]:=by
 induction l with
 | nil=>rfl
 | cons c l ih =>
  rw[linesL_cons,cutAt_cons]
  by_cases h:c=10
  ·rw[if_pos h,if_pos h,if_pos rfl]
  ·rw[if_neg h,if_neg h]
   rcases cutAt_spec 10 l with ⟨h1,_,_⟩|⟨h1,_,_,_⟩
   ·rw[h1,if_pos rfl] at ih
    rw[ih,h1,if_pos rfl];rfl
   ·rw[h1,if_neg (by decide)] at ih
    rw[ih,h1,if_neg (by decide)];rfl
theorem linesL_len (l:List UInt8):(linesL l).length≤l.length+1:=by
 induction l with
 | nil=>simp[linesL]
 | cons c l ih =>
  unfold linesL
  have:=linesL_eta l
  have h2:(linesL l).length=(linesL l).tail.length+1:=by rw[←this];simp
  split
  ·simp only[List.length_cons];omega
  ·simp only[List.length_cons];omega
theorem linesL_mem (l:List UInt8):∀x∈linesL l,x.length≤l.length:=by
 induction l with
 | nil=>simp[linesL]
 | cons c l ih =>
  have hh:(linesL l).headD []∈linesL l:=by
   rw[←linesL_eta l];simp
  unfold linesL
  split
  ·intro x hx
   simp only[List.mem_cons] at hx
   rcases hx with rfl|hx
   ·simp
   ·have:=ih x hx;simp only[List.length_cons];omega
  ·intro x hx
   simp only[List.mem_cons] at hx
   rcases hx with rfl|hx
   ·have:=ih _ hh;simp only[List.length_cons];omega
   ·have:=ih x (List.mem_of_mem_tail hx);simp only[List.length_cons];omega

theorem countFrom_succ (sub:List UInt8) (fuel:Nat) (s:List UInt8):Lib.countFrom sub (fuel+1) s=if Lib.index s sub == -1 then 0 else 1+Lib.countFrom sub fuel (s.drop ((Lib.index s sub).toNat+sub.length)):=rfl
theorem countFrom_one (c:UInt8) (fuel:Nat) (s:List UInt8) (h:s.length<fuel):Lib.countFrom [c] fuel s=if (cutAt c s).2.2 then 1+Lib.countFrom [c] (fuel-1) (cutAt c s).2.1 else 0:=by
 match fuel,h with
 | fuel+1,h =>
  rw[countFrom_succ]
  rcases index_one c s with ⟨h1,h2⟩|⟨i,h1,h2⟩
  ·rw[h1,h2];rfl
  ·have e:((i:Int) == -1)=false:=by rw[beq_eq_false_iff_ne];omega
   rw[h1,h2,e]
   rfl
theorem countFrom_fuel (c:UInt8):∀(n:Nat) (f f':Nat) (s:List UInt8),s.length≤n→s.length<f→s.length<f'→Lib.countFrom [c] f s=Lib.countFrom [c] f' s:=by
 intro n
 induction n with
 | zero =>
  intro f f' s h h1 h2
  have:s=[]:=List.eq_nil_of_length_eq_zero (by omega)
  subst this
  rw[countFrom_one c f [] h1,countFrom_one c f' [] h2];rfl
 | succ n ih =>
  intro f f' s h h1 h2
  rw[countFrom_one c f s h1,countFrom_one c f' s h2]
  rcases cutAt_spec c s with ⟨k1,k2,_⟩|⟨k1,_⟩
  ·have hl:(cutAt c s).2.1.length<s.length:=by
    have:=congrArg List.length k2
    rw[List.length_append,List.length_cons] at this
    omega
   rw[k1,ih (f-1) (f'-1) _ (by omega) (by omega) (by omega)]
  ·rw[k1];rfl
theorem splitK_lines:∀(n:Nat) (s:List UInt8),s.length≤n→Lib.splitK [10] 0 (Lib.count s [10]) s=linesL s:=by
 intro n
 induction n with
 | zero =>
  intro s h
  have:s=[]:=List.eq_nil_of_length_eq_zero (by omega)
  subst this
  rfl
 | succ n ih =>
  intro s h
  rw[linesL_cut]
  unfold Lib.count
  rw[countFrom_one 10 _ s (by omega)]
  rcases index_one 10 s with ⟨h1,h2⟩|⟨i,h1,h2⟩
  ·rw[h2];rfl
  ·have hl:(s.drop (i+1)).length<s.length:=by
    rcases cutAt_spec 10 s with ⟨k1,k2,_⟩|⟨k1,_⟩
    ·rw[h2] at k2
     have:=congrArg List.length k2
     rw[List.length_append,List.length_cons] at this
     simp only[] at this ⊢
     omega
    ·rw[h2] at k1;cases k1
   rw[h2]
   simp only[if_true,Nat.add_sub_cancel]
   have e:((i:Int) == -1)=false:=by rw[beq_eq_false_iff_ne];omega
   rw[Nat.add_comm 1,Lib.splitK,h1,e]
   simp only[Bool.false_eq_true,if_false,List.length_cons,List.length_nil,Int.toNat_natCast,Nat.add_zero]
   rw[countFrom_fuel 10 s.length s.length ((s.drop (i+1)).length+1) _ (by omega) (by omega) (by omega)]
   have:=ih (s.drop (i+1)) (by omega)
   unfold Lib.count at this
   rw[Nat.zero_add,this]
theorem rdT_new (w:World) (cs:List Value) (e:TypeId) (size n:Nat) (h:cs.length=n*size) (hm:n≤maxLen):RdT (w.alloc (.cells cs.toArray e)) e size (.slice (some ⟨w.heap.size,0,none⟩) n n) n cs:=by
 have hh:(w.alloc (.cells cs.toArray e)).heap[w.heap.size]? = some (.cells cs.toArray e):=heap_alloc_new w _
 refine⟨⟨h,_,n,rfl,Nat.le_refl _,hm,fun _=>⟨w.heap.size,0,rfl,heap_lt hh,fun j u hu => ?_⟩⟩,.inr ⟨_,_,_,_,_,rfl,hh⟩⟩
 rw[Nat.zero_add,cell_of_row _ _ _ _ _ _ hh]
 simpa using hu
def scells (l:List (List UInt8)):List Value:=l.map fun x=>.string (sb x)
def LinesPost (s:ByteArray) (w:World) (e:Ending) (w':World):Prop :=
 ∃v,e=.returned v∧RdT w' 9 1 v (linesL (bl s)).length (scells (linesL (bl s)))∧Below w.heap.size w w'
theorem splitNl (s:ByteArray) (w:World) (E:Env w) (hs:s.size≤1048576) :
  Calls Tryz.prog 180 #[.string s,.string ⟨#[10]⟩] w (LinesPost s w):=by
 obtain⟨m,hm⟩:=E.most
 refine(Tryz.strings_Split s ⟨#[10]⟩ m w (by omega) hm (by decide)).mono ?_
 rintro e w' ⟨rfl,rfl⟩
 have h1:(Lib.splitB ⟨#[10]⟩ 0 (Lib.countB s ⟨#[10]⟩) s).map bl=linesL (bl s):=by
  have h:=Lib.splitB_data ⟨#[10]⟩ 0 (Lib.countB s ⟨#[10]⟩) s
  exact h.trans (splitK_lines _ _ (Nat.le_refl _))
 have hlen:(Lib.splitB ⟨#[10]⟩ 0 (Lib.countB s ⟨#[10]⟩) s).length=(linesL (bl s)).length:=by rw[←h1,List.length_map]
 have hcnt:Lib.countB s ⟨#[10]⟩+1=(linesL (bl s)).length:=by
  rw[←hlen];exact(Lib.splitB_all ⟨#[10]⟩ (by decide) 0 _ s rfl).symm
 have hc:scells (linesL (bl s))=(Lib.splitB ⟨#[10]⟩ 0 (Lib.countB s ⟨#[10]⟩) s).map Value.string:=by
  unfold scells
  rw[←h1,List.map_map]
  apply List.map_congr_left
  intro x _
  show Value.string (sb (bl x))=_
  rw[sb_bl]
 refine⟨_,rfl,?_,(Below.refl _ _).alloc (Nat.le_refl _) _⟩
 rw[hcnt,hc]
 exact rdT_new w _ _ 1 _ (by rw[List.length_map,hlen,Nat.mul_one]) (by have:=linesL_len (bl s);rw[bl_len] at this;unfold maxLen;omega)

end Go.Proofs.YtgmehlgfilpleaaGreatDoor
namespace Go.Proofs.YtgmehlgfilpleaaGreatDoor
set_option linter.unusedVariables false
set_option linter.unusedSimpArgs false

end Go.Proofs.YtgmehlgfilpleaaGreatDoor
namespace Go.Proofs.YtgmehlgfilpleaaGreatDoor
open Go.RowKit
set_option linter.unusedVariables false
set_option linter.unusedSimpArgs false


def rwyB (l:List UInt8):Bool :=
 decide (4≤l.length)&&decide (l.length≤5)&&(l.take 2 == [82,87])&&digC (l.getD 2 0)&&decide ((l.getD 2 0).toNat≤51)&&digC (l.getD 3 0)
 && decide (1≤10*((l.getD 2 0).toNat-48)+((l.getD 3 0).toNat-48))&&decide (10*((l.getD 2 0).toNat-48)+((l.getD 3 0).toNat-48)≤36)
 && (decide (l.length=4) || l.getD 4 0 == 76 || l.getD 4 0 == 67 || l.getD 4 0 == 82)
def identE (l:List UInt8) (k:Nat):Int:=if nameB l 6&&(k != 6 || rwyB l) then 0 else 5
def locE (l:List UInt8) (k:Nat):Int:=if (k == 6&&nameB l 6) || (k != 6&&shortB l) then 0 else 5
def elevB (k:Nat):Bool:=decide (k=5) || decide (k=6)
def navB (k:Nat):Bool:=decide (k=2) || decide (k=3) || decide (k=4)
def elE (k:Nat) (el:Int):Int:=if elevB k then (if el < -200000∨6000000<el then 2 else 0) else (if el=0 then 0 else 1)
def raE (k:Nat) (ra:Int):Int:=if navB k then (if ra<1∨8000000<ra then 2 else 0) else (if ra=0 then 0 else 1)
def fixE (f:Fx):Int :=
 if f.kd<1∨6<f.kd then 17 else if identE f.id f.kd≠0 then 5 else if locE f.rg f.kd≠0 then 5 else if posB f.lat f.lon=false then 2
 else if elE f.kd f.el≠0 then elE f.kd f.el else raE f.kd f.ra

theorem fixD_front:∀(k n:Nat),fixD n (k+1)=UInt8.ofNat (48+n/10^k%10)::fixD n k
 | 0,n=>by
  show fixD (n/10) 0++[UInt8.ofNat (48+n%10)]=_
  rw[Nat.pow_zero,Nat.div_one];rfl
 | k+1,n=>by
  have h1:fixD n (k+1+1)=fixD (n/10) (k+1)++[UInt8.ofNat (48+n%10)]:=rfl
  have h2:fixD n (k+1)=fixD (n/10) k++[UInt8.ofNat (48+n%10)]:=rfl
  rw[h1,fixD_front k (n/10),h2,Nat.div_div_eq_div_mul,Nat.pow_succ,Nat.mul_comm 10 (10^k)];rfl
theorem byteCells_app (a b:List UInt8):Lib.byteCells (a++b)=Lib.byteCells a++Lib.byteCells b:=by unfold Lib.byteCells;rw[List.map_append]
theorem byteCells_rep (n:Nat):Lib.byteCells (List.replicate n 48)=List.replicate n (.int .u8 48):=by
 unfold Lib.byteCells;rw[List.map_replicate];rfl
def digMid (l:List UInt8) (N c j:Nat):List UInt8:=l++(List.replicate (c-j) 48++fixD N j)
theorem digMid_zero (l:List UInt8) (N c:Nat):digMid l N c 0=l++List.replicate c 48:=by unfold digMid fixD;simp
theorem digMid_full (l:List UInt8) (N c:Nat):digMid l N c c=l++fixD N c:=by unfold digMid;simp
theorem digMid_len (l:List UInt8) (N c j:Nat) (h:j≤c):(digMid l N c j).length=l.length+c:=by
 unfold digMid;rw[List.length_append,List.length_append,List.length_replicate,fixD_len];omega
theorem set_rep (l t:List Value) (u v:Value) (m:Nat):(l++(List.replicate (m+1) u++t)).set (l.length+m) v=l++(List.replicate m u++v::t):=by
 rw[List.set_append_right _ _ (by omega),show l.length+m-l.length=m by omega]
 congr 1
 rw[List.replicate_succ',List.append_assoc,List.set_append_right _ _ (by rw[List.length_replicate];exact Nat.le_refl _),List.length_replicate,Nat.sub_self]
 rfl
theorem digMid_set (l:List UInt8) (N c j m:Nat) (hm:c-j=m+1):(Lib.byteCells (digMid l N c j)).set (l.length+m) (.int .u8 (48+((N/10^j:Nat):Int)%10))=Lib.byteCells (digMid l N c (j+1)):=by
 unfold digMid
 rw[fixD_front,show c-(j+1)=m by omega,hm,byteCells_app,byteCells_app,byteCells_app,byteCells_app,byteCells_rep,byteCells_rep]
 have hl:(Lib.byteCells l).length=l.length:=by unfold Lib.byteCells;rw[List.length_map]
 have:=set_rep (Lib.byteCells l) (Lib.byteCells (fixD N j)) (.int .u8 48) (.int .u8 (48+((N/10^j:Nat):Int)%10)) m
 rw[hl] at this
 rw[this]
 congr 2
 show _=Value.int .u8 (((UInt8.ofNat (48+N/10^j%10)).toNat:Nat):Int)::_
 rw[digit_toNat (Nat.mod_lt _ (by decide))]
 congr 2
theorem push_list (l:List UInt8):∀s:ByteArray,((l.map fun c=>(c.toNat:Int)).foldl (fun r n=>r.push (UInt8.ofNat n.toNat)) s)=⟨s.data++l.toArray⟩:=by
 induction l with
 | nil=>intro s;cases s;simp
 | cons c l ih =>
  intro s
  rw[List.map_cons,List.foldl_cons,ih,Int.toNat_natCast,UInt8.ofNat_toNat]
  cases s
  simp[ByteArray.push]
theorem string_own {base:Nat} {w:World} {v:Value} {l:List UInt8} {n:Nat} (h:w.ownsRow base 5 1 v n (Lib.byteCells l)) (hn:0<n):(convert 68 9 v).run Tryz.prog w=.ok (.string (sb l)) w:=by
 have hcs:=@World.ownsRow.cells _ _ _ _ _ _ _ h
 obtain⟨hl,⟨rfl,rfl⟩|⟨g,cap,cur,rfl,hb,hh,hnc,hm,hs,ht⟩⟩:=h
 ·omega
 have hlen:(Lib.byteCells l).length=n:=by rw[hl];omega
 have e1:Lib.byteCells l=(l.map fun c=>(c.toNat:Int)).map (Value.int .u8):=by unfold Lib.byteCells;rw[List.map_map];rfl
 have hload:=run_loadCells_list (P:=Tryz.prog) (w:=w) ⟨g,0,none⟩ (Lib.byteCells l) (fun j u hu=>hcs (g:=g) rfl j u hu)
 rw[hlen] at hload
 refine(run_convert_bytes_string w _ _ _ _ _ _ Tryz.underlying68 Tryz.underlying5 Tryz.underlying9).trans ?_
 rw[run_bytesToString w _ n cap _ (by rw[hload,e1]),push_list]
 unfold sb;simp

theorem infoU8:(Tryz.prog.info? 5).map (fun i=>(i.zero,i.size,i.bytes))=some (some (.int .u8 0),1,1):=by kernel_rfl
def ByR (w:World) (base:Nat) (v:Value) (l:List UInt8):Prop:=w.ownsRow base 5 1 v l.length (Lib.byteCells l)
def ByPost (base:Nat) (l:List UInt8) (w:World) (e:Ending) (w':World):Prop:=∃v',e=.returned v'∧ByR w' base v' l∧Below base w w'
theorem own_mk {w:World} {base n:Nat} {v:Value} {l:List UInt8} (h:w.ownsRow base 5 1 v n (Lib.byteCells l)):ByR w base v l:=by
 have:n=l.length:=by
  have:=h.1
  unfold Lib.byteCells at this
  rw[List.length_map] at this
  omega
 subst this
 exact h
theorem dig_step {base:Nat} {w0 wr w':World} {v v':Value} {l:List UInt8} {o:Obj} {n:Nat}
  (hlt:∀k,v.ownBlock=some k→base≤k∧k<wr.heap.size) (hb:Below base w0 wr) (hown':w'.ownsRow base 5 1 v' (n+1) (Lib.byteCells l++[.int .u8 48])) (hg:(wr.alloc o).grownBy w' v.ownBlock) (hB:base≤wr.heap.size) :
  ByR w' base v' (l++[48])∧Below base w0 w':=by
 refine⟨own_mk (n:=n+1) (by rw[byteCells_app];exact hown'),(hb.alloc hB o).grown hg (by simp;omega) (fun k hk=>(hlt k hk).1)⟩
theorem rep_snoc (l:List UInt8) (k:Nat):(l++List.replicate k 48)++[48]=l++List.replicate (k+1) (48:UInt8):=by
 rw[List.append_assoc,←List.replicate_succ']
theorem ByR.slice {w:World} {base:Nat} {v:Value} {l:List UInt8} (h:ByR w base v l) (hl:l≠[]):∃g c,v=.slice (some ⟨g,0,none⟩) l.length c∧base≤g∧g<w.heap.size∧l.length≤c∧c≤maxLen:=by
 have hlt:=h.lt
 obtain⟨_,⟨rfl,h0⟩|⟨g,cap,cur,rfl,hb,hh,hn,hm,_⟩⟩:=h
 ·exact absurd (List.eq_nil_of_length_eq_zero h0) hl
 ·exact⟨g,cap,rfl,hb,(hlt g rfl).2,hn,hm⟩
theorem ByR.len {w:World} {base:Nat} {v:Value} {l:List UInt8} (h:ByR w base v l):∃A c,v=.slice A l.length c∧l.length≤c∧c≤maxLen:=by
 obtain⟨_,⟨rfl,h0⟩|⟨g,cap,cur,rfl,hb,hh,hn,hm,_⟩⟩:=h
 ·rw[h0];exact⟨_,_,rfl,Nat.le_refl _,by unfold maxLen;omega⟩
 ·exact⟨_,_,rfl,hn,hm⟩
theorem put_step {base:Nat} {w0 w:World} {g cap N c j m L:Nat} {l:List UInt8} (hL:l.length=L) (hj:j<c) (hm:c-j=m+1)
  (h:ByR w base (.slice (some ⟨g,0,none⟩) (L+c) cap) (digMid l N c j)) (hb:Below base w0 w) (hg:base≤g) :
  (∃x,w.cell? ⟨g,L+m,none⟩=some (.int .u8 x))∧w.frozen? ⟨g,L+m,none⟩=false ∧
  ByR (w.setCell ⟨g,L+m,none⟩ (.int .u8 (48+((N/10^j:Nat):Int)%10))) base (.slice (some ⟨g,0,none⟩) (L+c) cap) (digMid l N c (j+1)) ∧
   Below base w0 (w.setCell ⟨g,L+m,none⟩ (.int .u8 (48+((N/10^j:Nat):Int)%10))):=by
 subst hL
 have h':w.ownsRow base 5 1 (.slice (some ⟨g,0,none⟩) (l.length+c) cap) (l.length+c) (Lib.byteCells (digMid l N c j)):=by
  have:=h
  unfold ByR at this
  rw[digMid_len l N c j (by omega)] at this
  exact this
 have hs:=(h'.stored (l.length+m) (.int .u8 (48+((N/10^j:Nat):Int)%10))).1
 rw[digMid_set l N c j m hm] at hs
 have hlt:l.length+m<(digMid l N c j).length:=by rw[digMid_len l N c j (by omega)];omega
 refine⟨⟨((digMid l N c j)[l.length+m]'hlt).toNat,?_⟩,h'.frozenAt _,own_mk hs,hb.setCell (p:=⟨g,l.length+m,none⟩) hg _⟩
 rw[h'.cellAt (l.length+m) (by omega)]
 unfold Lib.byteCells
 rw[List.getElem?_map,List.getElem?_eq_getElem hlt];rfl
set_option maxRecDepth 100000 in
set_option maxHeartbeats 2000000 in
theorem digits_row (v:Value) (l:List UInt8) (N c base:Nat) (w:World) (hc:c≤4) (hc0:0<c) (hl:l.length≤40) (hN:N<1000000000000) (hown:ByR w base v l) (hB:base≤w.heap.size) :
  Calls Tryz.prog 305 #[v,.int .i64 (N:Int),.int .i64 (c:Int)] w (ByPost base (l++fixD N c) w):=by
 obtain⟨i0,hi,hz0,hz1,hz2⟩:=info_parts infoU8
 obtain⟨A,cp,rfl,hcp,hcm⟩:=hown.len
 unfold maxLen at hcm
 obtain⟨L,hL⟩:∃L,l.length=L:=⟨_,rfl⟩
 have HL:=Lib.hid hL
 have H0:Hid (ByR w base (.slice A l.length cp) l):=hown
 rw[hL] at hcp hl ⊢
 clear hown hL
 have hci:(c:Int)≤4:=by omega
 go_enter Tryz.func305,Tryz.ntmps305
 go_wp2
 go_loopw [0,12] (fun b i wr=>∃k:Nat,k≤c∧i=.int .i64 k∧Hid (ByR wr base b (l++List.replicate k 48))∧Below base w wr) (fun _ i _=>c-(intOf i).toNat)
 case atStart=>exact⟨0,Nat.zero_le _,rfl,by unfold Hid;rw[List.replicate_zero,List.append_nil,←HL.out];exact H0.out,Below.refl _ _⟩
 case round =>
  obtain⟨k,hk,rfl,hby,hbr⟩:=hrel
  have hBr:base≤wr.heap.size:=Nat.le_trans hB hbr.size
  have hlen:(l++List.replicate k (48:UInt8)).length=L+k:=by rw[List.length_append,List.length_replicate,HL.out]
  by_cases hlt:k<c
  ·have hown:wr.ownsRow base 5 1 u0 (L+k) (Lib.byteCells (l++List.replicate k 48)):=by
    have:=hby.out
    unfold ByR at this
    rwa [hlen] at this
   have hlo:=hown.lt
   clear hlen hby
   go_wp2_with (at_builtin;refine wpList_append_own _ rfl _ _ 68 rfl base 5 i0 (.int .u8 0) 1 1 Tryz.underlying68 hi hz0 hz1 hz2 rfl (by decide) _ _ _ rfl (hown.alloc _) ⟨wr.heap.size,0,none⟩ 1 1 [.int .u8 48] rfl rfl ?c1 ?c2 ?c3 ?c4 ?c5 ?_)
   case c1=>intro j u hu;cases j with
    | zero=>simp only[List.getElem?_cons_zero,Option.some.injEq] at hu;subst hu;simp[go_sem]
    | succ j=>simp at hu
   case c2=>intro u hu;simp at hu;subst hu;rfl
   case c3=>unfold maxLen;omega
   case c4=>omega
   case c5=>simp;omega
   intro v' w' hown' hgrow _
   have R:=dig_step hlo hbr hown' hgrow hBr
   rw[rep_snoc] at R
   have R1:=Lib.hid R.1
   have R2:=R.2
   clear R hown hown' hgrow hlo
   go_wp2
   go_roundw
   case rel=>exact⟨k+1,hlt,by go_num,R1.out,R2⟩
   case measure=>simp[intOf];omega
  ·obtain rfl:k=c:=by omega
   obtain⟨g,cap,hv,hbg,hgs,hcap,hcm2⟩:=hby.out.slice (by rw[←List.length_pos_iff];omega)
   rw[hlen] at hv hcap
   unfold maxLen at hcm2
   subst hv
   have HM:Hid (ByR wr base (.slice (some ⟨g,0,none⟩) (l.length+k) cap) (digMid l N k 0)):=by
    unfold Hid;rw[digMid_zero,HL.out];exact hby.out
   clear hlen hby
   go_wp2_with fail
   obtain⟨wo,rfl⟩:∃wo:World,wo=wr:=⟨_,rfl⟩
   go_loopw [1,8] (fun q i wr=>∃(j m:Nat) (x:Int) (y:Nat),j+m=k∧i=.int .i64 x∧x+1=(L:Int)+(m:Int)∧q=.int .i64 (y:Int)∧Hid (N/10^j=y)∧Hid (ByR wr base (.slice (some ⟨g,0,none⟩) (L+k) cap) (digMid l N k j))∧Below base w wr) (fun _ i _=>((intOf i)+1-L).toNat)
   case atStart=>exact⟨0,k,(L:Int)+(k:Int)-1,N,by omega,by first|rfl|go_num,by omega,rfl,by unfold Hid;simp,by have:=HM.out;rw[HL.out] at this;exact this,hbr⟩
   case round =>
    obtain⟨j,m,x,y,hjm,rfl,hx,rfl,hy,hby,hbr2⟩:=hrel
    have hyb:y<1000000000000:=by rw[←hy.out];exact Nat.lt_of_le_of_lt (Nat.div_le_self _ _) hN
    rcases Nat.eq_zero_or_pos m with hm|hm
    ·have hjk:j=k:=by omega
     subst hjk
     have hxL:x<(L:Int):=by omega
     clear hx hm hjm
     go_wp2
     go_ret
     refine⟨_,rfl,?_,hbr2⟩
     have:=hby.out
     rw[digMid_full] at this
     exact this
    ·obtain⟨p,rfl⟩:∃p,m=p+1:=⟨m-1,by omega⟩
     obtain rfl:x=((L+p:Nat):Int):=by omega
     obtain⟨⟨u,hcell⟩,hfz,P1,P2⟩:=put_step HL.out (show j<k by omega) (show k-j=p+1 by omega) hby.out hbr2 hbg
     rw[hy.out] at P1 P2
     have HP1:=Lib.hid P1
     have HP2:=Lib.hid P2
     have HJ:=Lib.hid hjm
     have hlo:(L:Int)≤((L+p:Nat):Int):=by omega
     have hhi:((L+p:Nat):Int)<((L+k:Nat):Int):=by omega
     have hyd:y/10=N/10^(j+1):=by rw[Nat.pow_succ,←Nat.div_div_eq_div_mul,hy.out]
     have HYD:=Lib.hid hyd
     clear P1 P2 hby hx hm hjm hyd
     go_wp2
     go_roundw
     case rel=>exact⟨j+1,p,_,y/10,by have:=HJ.out;omega,rfl,by omega,by go_num,HYD.out.symm,HP1.out,HP2.out⟩
     case measure=>simp[intOf];omega

theorem ByPost.next {base:Nat} {l:List UInt8} {w w1:World} {e:Ending} {w2:World} (h:ByPost base l w1 e w2) (hb:Below base w w1):ByPost base l w e w2:=by
 obtain⟨v,he,hr,hb2⟩:=h
 exact⟨v,he,hr,hb.trans hb2⟩
set_option maxRecDepth 100000 in
set_option maxHeartbeats 1000000 in
theorem split_row (v:Value) (l:List UInt8) (N c base:Nat) (w:World) (hc:c≤3) (hc0:0<c) (hl:l.length≤20) (hN:N<1000000000) (hown:ByR w base v l) (hB:base≤w.heap.size) :
  Calls Tryz.prog 252 #[v,.int .i64 (N:Int),.int .i64 (c:Int)] w (ByPost base (l++sexa N c) w):=by
 have q1:=Lib.hid (show(N:Int)/360000=((N/360000:Nat):Int) by omega)
 have q2:=Lib.hid (show(N:Int)%360000/6000=((N%360000/6000:Nat):Int) by omega)
 have q3:=Lib.hid (show(N:Int)%6000/100=((N%6000/100:Nat):Int) by omega)
 have q4:=Lib.hid (show(N:Int)%100=((N%100:Nat):Int) by omega)
 have d1:N/360000<1000000000000:=by omega
 have d2:N%360000/6000<1000000000000:=by omega
 have d3:N%6000/100<1000000000000:=by omega
 have d4:N%100<1000000000000:=by omega
 have HO:=Lib.hid hown
 clear hown
 go_enter Tryz.func252,Tryz.ntmps252
 go_wp2_with fail
 rw[q1.out]
 refine(digits_row _ l _ c base _ (by omega) hc0 (by omega) d1 HO.out hB).mono ?_
 rintro e w1 ⟨v1,rfl,hr1,hb1⟩
 have R1:=Lib.hid hr1
 clear hr1
 go_wp2_with fail
 rw[q2.out]
 refine(digits_row _ _ _ 2 base _ (by omega) (by omega) (by rw[List.length_append,fixD_len];omega) d2 R1.out (Nat.le_trans hB hb1.size)).mono ?_
 rintro e w2 ⟨v2,rfl,hr2,hb2⟩
 have R2:=Lib.hid hr2
 have hb02:=hb1.trans hb2
 clear hr2 hb1 hb2 R1
 go_wp2_with fail
 rw[q3.out]
 refine(digits_row _ _ _ 2 base _ (by omega) (by omega) (by rw[List.length_append,List.length_append,fixD_len,fixD_len];omega) d3 R2.out (Nat.le_trans hB hb02.size)).mono ?_
 rintro e w3 ⟨v3,rfl,hr3,hb3⟩
 have R3:=Lib.hid hr3
 have hb03:=hb02.trans hb3
 clear hr3 hb02 hb3 R2
 go_wp2_with fail
 rw[q4.out]
 refine(digits_row _ _ _ 2 base _ (by omega) (by omega) (by rw[List.length_append,List.length_append,List.length_append,fixD_len,fixD_len,fixD_len];omega) d4 R3.out (Nat.le_trans hB hb03.size)).mono ?_
 rintro e w4 ⟨v4,rfl,hr4,hb4⟩
 have hb04:=hb03.trans hb4
 have R4:Hid (ByR w4 base v4 (l++sexa N c)):=by
  unfold Hid sexa
  simpa only[List.append_assoc] using hr4
 clear hr4 hb03 hb4 R3
 go_wp2
 go_ret
 exact⟨v4,rfl,R4.out,hb04⟩
set_option maxRecDepth 100000 in
set_option maxHeartbeats 1000000 in
theorem signed_any (a:Int) (p m:UInt8) (c:Nat) (w:World) (hc:c≤3) (hc0:0<c) (ha:a.natAbs<1000000000) :
  Calls Tryz.prog 249 #[.int .i64 a,.int .u8 (p.toNat:Int),.int .u8 (m.toNat:Int),.int .i64 (c:Int)] w (StrPost (sgnText a p m c) w):=by
 by_cases h0:a<0
 ·obtain⟨N,hN⟩:∃N:Nat,-a=(N:Int):=⟨a.natAbs,by omega⟩
  have HT:Hid (sgnText a p m c=m::sexa N c):=by unfold Hid sgnText;rw[if_pos h0,hN,Int.toNat_natCast]
  have HNb:N<1000000000:=by omega
  have hN':=Lib.hid hN
  have ha1 : -1000000000<a:=by omega
  clear hN ha
  go_enter Tryz.func249,Tryz.ntmps249
  go_wp2_with fail
  rw[hN'.out]
  refine(split_row _ [m] N c w.heap.size _ hc hc0 (by simp) HNb (World.ownsRow_lit w #[.int .u8 (m.toNat:Int)] 1 (Nat.le_refl _) (by unfold maxLen;omega) rfl) (by simp)).mono ?_
  rintro e w1 ⟨v,rfl,hr,hb⟩
  have hcv:=string_own hr (by simp)
  have hb':=((Below.refl _ _).alloc (Nat.le_refl _) _).trans hb
  clear hr hb
  go_wp2
  go_ret
  exact⟨_,rfl,by unfold Hid;rw[HT.out];rfl,hb'⟩
 ·obtain⟨N,rfl⟩:∃N:Nat,a=(N:Int):=⟨a.natAbs,by omega⟩
  have HT:Hid (sgnText (N:Int) p m c=p::sexa N c):=by unfold Hid sgnText;rw[if_neg h0,Int.toNat_natCast]
  have HNb:N<1000000000:=by omega
  clear h0 ha
  go_enter Tryz.func249,Tryz.ntmps249
  go_wp2_with fail
  refine(split_row _ [p] N c w.heap.size _ hc hc0 (by simp) HNb (World.ownsRow_lit w #[.int .u8 (p.toNat:Int)] 1 (Nat.le_refl _) (by unfold maxLen;omega) rfl) (by simp)).mono ?_
  rintro e w1 ⟨v,rfl,hr,hb⟩
  have hcv:=string_own hr (by simp)
  have hb':=((Below.refl _ _).alloc (Nat.le_refl _) _).trans hb
  clear hr hb
  go_wp2
  go_ret
  exact⟨_,rfl,by unfold Hid;rw[HT.out];rfl,hb'⟩
end Go.Proofs.YtgmehlgfilpleaaGreatDoor
namespace Go.Proofs.YtgmehlgfilpleaaGreatDoor
set_option linter.unusedVariables false
set_option linter.unusedSimpArgs false

end Go.Proofs.YtgmehlgfilpleaaGreatDoor
