/-
  Several texts as one.
-/
import Derived.Test.YtgmehlgfilpleaaGreatDoorMG04
import Derived.Test.YtgmehlgfilpleaaGreatDoorMG10
import Derived.Test.YtgmehlgfilpleaaGreatDoorMG14
namespace Go.Proofs.YtgmehlgfilpleaaGreatDoor
open Go.RowKit
set_option linter.unusedVariables false
set_option linter.unusedSimpArgs false

theorem infoField:(Tryz.prog.info? 244).map (fun i=>(i.zero,i.size,i.bytes))=some (some (.agg #[.string ⟨#[]⟩,.int .i64 0]),2,24):=by kernel_rfl

def SplitPost (s:ByteArray) (w:World) (e:Ending) (w':World):Prop :=
 ∃v,e=.returned (.tuple #[v,.int .i64 (splitCol (bl s)),.int .i64 (splitErr (bl s))])∧RdT w' 244 2 v (splitF (bl s)).length (fcells (splitF (bl s)))∧Below w.heap.size w w'
theorem splitPost {s:ByteArray} {w w':World} {v:Value} {c e:Int} {fs:List Fld} (h1:c=splitCol (bl s)) (h2:e=splitErr (bl s)) (h3:fs=splitF (bl s)) (hr:RdT w' 244 2 v fs.length (fcells fs)) (hb:Below w.heap.size w w') :
  SplitPost s w (.returned (.tuple #[v,.int .i64 c,.int .i64 e])) w':=by
 subst h1 h2 h3;exact⟨v,rfl,hr,hb⟩
set_option maxHeartbeats 400000 in
theorem split_longC (s:ByteArray) (w:World) (h:200<s.size) (hs:s.size≤maxLen) :
  Calls Tryz.prog 181 #[.string s] w (SplitPost s w):=by
 unfold maxLen at hs
 have h1:(200:Int)<(s.size:Int):=by omega
 have H:=Lib.hid (split_long (l:=bl s) h)
 go_enter Tryz.func181,Tryz.ntmps181
 go_wp2
 go_ret3
 exact splitPost H.out.2.1.symm H.out.2.2.symm H.out.1.symm (RdT.nil _ _ _) (Below.refl _ _)
theorem drop_cons {a:ByteArray} {j:Nat} (h:j<a.size):(bl a).drop j=a[j]::(bl a).drop (j+1):=List.drop_eq_getElem_cons (l:=bl a) h
theorem u8_32 {c:UInt8} (h:(c.toNat:Int)=32):c=32:=(u8_eq (n:=32) (by omega)).1 (by omega)
theorem take_ext {a:ByteArray} {j q:Nat}:((bl a).drop j).take (q-j)=bl (a.extract j q):=(bl_extract a j q).symm
theorem nb_step {a:ByteArray} {j q:Nat} (hjq:j≤q) (h:q<a.size) (hnb:∀c∈((bl a).drop j).take (q-j),c≠32) (e:((a[q].toNat:Int) != 32)=true):∀c∈((bl a).drop j).take (q+1-j),c≠32:=by
 have hl:q-j<((bl a).drop j).length:=by rw[List.length_drop,bl_len];omega
 rw[show q+1-j=(q-j)+1 by omega,List.take_succ_eq_append_getElem hl]
 intro c hc
 rw[List.mem_append] at hc
 rcases hc with hc|hc
 ·exact hnb c hc
 ·rw[List.mem_singleton] at hc
  have h3:((bl a).drop j)[q-j]? = some a[q]:=by rw[List.getElem?_drop,show j+(q-j)=q by omega,bl_get? a q h]
  rw[List.getElem?_eq_getElem hl,←hc,Option.some.injEq] at h3
  rw[h3]
  intro e2
  rw[e2] at e
  exact absurd e (by decide)
theorem token_at {a:ByteArray} {j q:Nat} (hjq:j≤q) (hq:q≤a.size) (hne:j≠q) (hnb:∀c∈((bl a).drop j).take (q-j),c≠32) (he:(∃h:q<a.size,(a[q].toNat:Int)=32)∨a.size≤q) :
  j<q∧fieldsGo [] 0 j ((bl a).drop j)=(bl (a.extract j q),j+1)::fieldsGo [] 0 q ((bl a).drop q):=by
 refine⟨by omega,?_⟩
 have hs:(bl a).drop j=((bl a).drop j).take (q-j)++(bl a).drop q:=by
  conv=>lhs;rw[←List.take_append_drop (q-j) ((bl a).drop j)]
  rw[List.drop_drop,show j+(q-j)=q by omega]
 have hl:(((bl a).drop j).take (q-j)).length=q-j:=by rw[List.length_take,List.length_drop,bl_len];omega
 have h0:((bl a).drop j).take (q-j)≠[]:=by
  intro e;rw[e] at hl;simp at hl;omega
 have hend:(bl a).drop q=[]∨((bl a).drop q).head? = some 32:=by
  rcases he with ⟨h,e⟩|h
  ·right;rw[drop_cons h,u8_32 e];rfl
  ·left;exact List.drop_eq_nil_of_le (by rw[bl_len];omega)
 rw[hs,fieldsGo_start _ _ _ _ h0 hnb,fieldsGo_end _ _ _ _ h0 hend,hl,take_ext,show j+(q-j)=q by omega]
theorem field_step {base:Nat} {w0 wr w':World} {v v':Value} {e:TypeId} {done:List Fld} {t:ByteArray} {j:Nat} {o:Obj}
  (hlt:∀k,v.ownBlock=some k→base≤k∧k<wr.heap.size) (hb:Below base w0 wr) (hown':w'.ownsRow base e 2 v' (done.length+1) (fcells done++[.string t,.int .i64 ((j:Int)+1)])) (hg:(wr.alloc o).grownBy w' v.ownBlock) (hB:base≤wr.heap.size) :
  w'.ownsRow base e 2 v' (done++[(bl t,j+1)]).length (fcells (done++[(bl t,j+1)]))∧Below base w0 w':=by
 refine⟨?_,(hb.alloc hB o).grown hg (by simp;omega) (fun k hk=>(hlt k hk).1)⟩
 rw[fcells_snoc,sb_bl,List.length_append]
 exact hown'
set_option maxRecDepth 100000 in
set_option maxHeartbeats 1000000 in
theorem split_short (s:ByteArray) (w:World) (E:Env w) (hs:s.size≤200) :
  Calls Tryz.prog 181 #[.string s] w (SplitPost s w):=by
 have h1:(s.size:Int)≤200:=by omega
 obtain⟨i0,hi,hz0,hz1,hz2⟩:=info_parts infoField
 go_enter Tryz.func181,Tryz.ntmps181
 go_wp2
 go_loop [14] (fun i=>∃k:Nat,k≤s.size∧i=.int .i64 k∧Hid (((bl s).take k).all okC=true)) (fun i=>s.size-(intOf i).toNat)
 case atStart=>exact⟨0,Nat.zero_le _,rfl,rfl⟩
 case round =>
  obtain⟨k,hk,rfl,hall⟩:=hrel
  by_cases h:k<s.size
  ·have hc:((32:Int)≤(s[k].toNat:Int)∧(s[k].toNat:Int)≤126)∨((s[k].toNat:Int)<32)∨((32:Int)≤(s[k].toNat:Int)∧126<(s[k].toNat:Int)):=by omega
   rcases hc with ⟨c1,c2⟩|c1|⟨c1,c2⟩
   ·go_wp2
    go_round
    case rel=>exact⟨k+1,h,by go_num,all_take_succ hall.out h (okC_yes c1 c2)⟩
    case measure=>simp[intOf];omega
   ·have H:=Lib.hid (split_bad (l:=bl s) hs h hall.out (okC_no (.inl c1)))
    go_wp2
    go_ret3
    exact splitPost (by have:=H.out.2.1;omega) H.out.2.2.symm H.out.1.symm (RdT.nil _ _ _) (Below.refl _ _)
   ·have H:=Lib.hid (split_bad (l:=bl s) hs h hall.out (okC_no (.inr c2)))
    go_wp2
    go_ret3
    exact splitPost (by have:=H.out.2.1;omega) H.out.2.2.symm H.out.1.symm (RdT.nil _ _ _) (Below.refl _ _)
  ·have H:=Lib.hid (split_ok (l:=bl s) hs (all_take_all hall.out (by rw[bl_len];omega)))
   clear hall
   go_wp2_with fail
   refine(cut1 s 35 _ E (by omega)).mono ?_
   rintro e w1 ⟨a,b,f,rfl,hcut,has,hbs,hb1⟩
   have hfl:Hid (fieldsL (bl s)=fieldsGo [] 0 0 (bl a)):=by unfold Hid fieldsL;rw[hcut.out]
   clear hcut
   go_wp2_with fail
   go_loopw [6,7] (fun v i wr=>∃(j:Nat) (done:List Fld),j≤a.size∧i=.int .i64 j∧done.length≤j∧wr.ownsRow w1.heap.size 244 2 v done.length (fcells done)∧Hid (fieldsL (bl s)=done++fieldsGo [] 0 j ((bl a).drop j))∧Below w1.heap.size w1 wr) (fun _ i _=>a.size-(intOf i).toNat)
   case atStart=>exact⟨0,[],Nat.zero_le _,rfl,Nat.le_refl _,World.ownsRow_nil _ _ _ _,hfl.out,Below.refl _ _⟩
   case round =>
    obtain⟨j,done,hj,rfl,hdl,hown,hrest,hbr⟩:=hrel
    by_cases hlt:j<a.size
    ·by_cases hsp:(a[j].toNat:Int)=32
     ·have e1:((a[j].toNat:Int) == 32)=true:=beq_iff_eq.2 hsp
      have HS:=Lib.hid hsp
      clear hsp
      go_wp2
      go_roundw
      case rel=>exact⟨j+1,done,hlt,by go_num,by omega,hown,by unfold Hid;rw[hrest.out,drop_cons hlt,u8_32 HS.out,fieldsGo_blank],hbr⟩
      case measure=>simp[intOf];omega
     ·have e1:((a[j].toNat:Int) == 32)=false:=beq_eq_false_iff_ne.2 hsp
      have HS:=Lib.hid hsp
      clear hsp
      go_wp2
      go_loop [7] (fun i=>∃q:Nat,j≤q∧q≤a.size∧i=.int .i64 q∧Hid (∀c∈((bl a).drop j).take (q-j),c≠32)) (fun i=>a.size-(intOf i).toNat)
      case atStart=>exact⟨j,Nat.le_refl _,hj,rfl,by unfold Hid;simp⟩
      case round =>
       obtain⟨q,hjq,hq,rfl,hnb⟩:=hrel
       have hcase:(∃h:q<a.size,Hid (((a[q].toNat:Int) != 32)=true))∨((∃h:q<a.size,Hid (((a[q].toNat:Int) != 32)=false))∨a.size≤q)∧Hid (j<q∧fieldsGo [] 0 j ((bl a).drop j)=(bl (a.extract j q),j+1)::fieldsGo [] 0 q ((bl a).drop q)):=by
        by_cases h:q<a.size
        ·by_cases hb:(a[q].toNat:Int)=32
         ·exact .inr ⟨.inl ⟨h,bne_eq_false_iff_eq.2 hb⟩,token_at hjq hq (fun e=>by subst e;exact HS.out hb) hnb.out (.inl ⟨h,hb⟩)⟩
         ·exact .inl ⟨h,bne_iff_ne.2 hb⟩
        ·exact .inr ⟨.inr (by omega),token_at hjq hq (by omega) hnb.out (.inr (by omega))⟩
       rcases hcase with ⟨h,e2⟩|⟨⟨h,e2⟩|h,htok⟩
       ·have e2:=e2.out
        go_wp2
        go_round
        case rel=>exact⟨q+1,by omega,h,by go_num,nb_step hjq h hnb.out e2⟩
        case measure=>simp[intOf];omega
       all_goals try have e2:=Hid.out e2
       all_goals
        go_wp2_with (at_builtin;refine wpList_append_own _ rfl (.tmp 59) (.tmp 67) 182 rfl w1.heap.size 244 i0 (.agg #[.string ⟨#[]⟩,.int .i64 0]) 2 24 Tryz.underlying182 hi hz0 hz1 hz2 rfl (by decide) _ _ _ rfl (hown.alloc _) ⟨wr.heap.size,0,none⟩ 1 1 [.string (a.extract j q),.int .i64 ((j:Int)+1)] rfl rfl (cell_two_new _ _ _ _) (by intro u hu;simp at hu;rcases hu with rfl|rfl <;> rfl) (by unfold maxLen;omega) (by omega) (by have:=hbr.size;simp;omega) ?_)
        intro v' w' hown' hgrow _
        have R:=field_step hown.lt hbr hown' hgrow hbr.size
        clear hown hown' hgrow
        go_wp2
        go_roundw
        case rel=>exact⟨q,done++[(bl (a.extract j q),j+1)],hq,rfl,by have:=htok.out.1;simp;omega,R.1,by unfold Hid;rw[hrest.out,htok.out.2,List.append_assoc];rfl,R.2⟩
        case measure=>have:=htok.out.1;simp[intOf];omega
    ·go_wp2
     go_ret3
     have hd:(bl a).drop j=[]:=List.drop_eq_nil_of_le (by rw[bl_len];omega)
     have hr2:=hrest.out
     rw[hd] at hr2
     exact splitPost H.out.2.1.symm H.out.2.2.symm (by rw[H.out.1,hr2];simp[fieldsGo]) (RdT.of_own hown) (Below.then_ hb1 hbr)
theorem split_any (s:ByteArray) (w:World) (E:Env w) (hs:s.size≤maxLen) :
  Calls Tryz.prog 181 #[.string s] w (SplitPost s w):=by
 by_cases h:200<s.size
 ·exact split_longC s w h hs
 ·exact split_short s w E (by omega)


abbrev Rec:=Nat × List Fld
abbrev Dg:=Nat × Int × Int
def isRec (l:List UInt8):Bool:=splitErr l == 0 && !(splitF l).isEmpty
def recsL (n:Nat):List (List UInt8)→List Rec
 | []=>[]
 | l::r=>if isRec l then (n,splitF l)::recsL (n+1) r else recsL (n+1) r
def dgsL (n:Nat):List (List UInt8)→List Dg
 | []=>[]
 | l::r=>if splitErr l == 0 then dgsL (n+1) r else (n,splitCol l,splitErr l)::dgsL (n+1) r
theorem recsL_snoc (l:List (List UInt8)) (x:List UInt8):∀n,recsL n (l++[x])=recsL n l++(if isRec x then [(n+l.length,splitF x)] else []):=by
 induction l with
 | nil=>intro n;simp only[List.nil_append,recsL,List.length_nil,Nat.add_zero]
 | cons y l ih =>
  intro n
  simp only[List.cons_append,recsL,ih,List.length_cons]
  rw[show n+1+l.length=n+(l.length+1) by omega]
  split <;> rfl
theorem dgsL_snoc (l:List (List UInt8)) (x:List UInt8):∀n,dgsL n (l++[x])=dgsL n l++(if splitErr x == 0 then [] else [(n+l.length,splitCol x,splitErr x)]):=by
 induction l with
 | nil=>intro n;simp only[List.nil_append,dgsL,List.length_nil,Nat.add_zero]
 | cons y l ih =>
  intro n
  simp only[List.cons_append,dgsL,ih,List.length_cons]
  rw[show n+1+l.length=n+(l.length+1) by omega]
  split <;> rfl
theorem recsL_len (l:List (List UInt8)):∀n,(recsL n l).length≤l.length:=by
 induction l with
 | nil=>intro n;simp[recsL]
 | cons y l ih =>
  intro n
  have:=ih (n+1)
  unfold recsL
  split
  ·simp only[List.length_cons];omega
  ·simp only[List.length_cons];omega
def dcells (l:List Dg):List Value:=l.flatMap fun d=>[.int .i64 (d.1:Int),.int .i64 d.2.1,.int .i64 d.2.2]
theorem dcells_snoc (l:List Dg) (d:Dg):dcells (l++[d])=dcells l++[.int .i64 (d.1:Int),.int .i64 d.2.1,.int .i64 d.2.2]:=by
 unfold dcells;rw[List.flatMap_append];rfl
def rcells (L:List (Rec × Value)):List Value:=L.flatMap fun x=>[.int .i64 (x.1.1:Int),x.2]
theorem rcells_snoc (L:List (Rec × Value)) (x:Rec × Value):rcells (L++[x])=rcells L++[.int .i64 (x.1.1:Int),x.2]:=by
 unfold rcells;rw[List.flatMap_append];rfl
def FieldsIn (w:World) (L:List (Rec × Value)):Prop:=∀x∈L,RdT w 244 2 x.2 x.1.2.length (fcells x.1.2)
theorem FieldsIn.nil (w:World):FieldsIn w []:=by intro x hx;cases hx
theorem FieldsIn.below {w w':World} {L:List (Rec × Value)} (h:FieldsIn w L) (hb:Below w.heap.size w w'):FieldsIn w' L:=fun x hx=>(h x hx).below hb
theorem FieldsIn.grown {w w':World} {L:List (Rec × Value)} {row:Option Nat} (h:FieldsIn w L) (hg:w.grownBy w' row) (hr:∀k,row=some k→∃cur e' z,w.heap[k]? = some (.cells cur e' z)∧e'≠244):FieldsIn w' L:=fun x hx=>(h x hx).grown hg hr
theorem FieldsIn.snoc {w:World} {L:List (Rec × Value)} {x:Rec × Value} (h:FieldsIn w L) (hx:RdT w 244 2 x.2 x.1.2.length (fcells x.1.2)):FieldsIn w (L++[x]):=by
 intro y hy
 rw[List.mem_append,List.mem_singleton] at hy
 rcases hy with hy|rfl
 ·exact h y hy
 ·exact hx
def Own2 (w:World) (base:Nat) (out bad:Value) (rs:List Rec) (ds:List Dg):Prop :=
 ∃L:List (Rec × Value),L.map (·.1)=rs∧w.ownsRow base 184 2 out rs.length (rcells L)∧FieldsIn w L∧w.ownsRow base 89 3 bad ds.length (dcells ds)
theorem Own2.below {w w':World} {base:Nat} {out bad:Value} {rs:List Rec} {ds:List Dg} (h:Own2 w base out bad rs ds) (hb:Below w.heap.size w w'):Own2 w' base out bad rs ds:=by
 obtain⟨L,h1,h2,h3,h4⟩:=h
 exact⟨L,h1,own_below h2 hb,h3.below hb,own_below h4 hb⟩
theorem own_lt {w:World} {base size n:Nat} {e:TypeId} {v:Value} {xs:List Value} (h:w.ownsRow base e size v n xs):∀k,v.ownBlock=some k→base≤k:=fun k hk=>(h.lt k hk).1
theorem Own2.rec_ {w0 w w':World} {base:Nat} {out bad v':Value} {rs:List Rec} {ds:List Dg} {r:Rec} {fv:Value} {L:List (Rec × Value)}
  (h1:L.map (·.1)=rs) (h2:w.ownsRow base 184 2 out rs.length (rcells L)) (h3:FieldsIn w L) (h4:w.ownsRow base 89 3 bad ds.length (dcells ds))
  (hf:RdT w 244 2 fv r.2.length (fcells r.2)) (hb:Below base w0 w) (hB:base≤w.heap.size) {o:Obj}
  (hown:w'.ownsRow base 184 2 v' (rs.length+1) (rcells L++[.int .i64 (r.1:Int),fv])) (hg:(w.alloc o).grownBy w' out.ownBlock):Own2 w' base v' bad (rs++[r]) ds∧Below base w0 w':=by
 have hblk:∀k,out.ownBlock=some k→∃cur e' z,(w.alloc o).heap[k]? = some (.cells cur e' z)∧e'≠244:=by
  intro k hk
  obtain⟨cur,e',z,hh,he⟩:=own_block (h2.alloc o) k hk
  exact⟨cur,e',z,hh,by rw[he];decide⟩
 refine⟨⟨L++[(r,fv)],by rw[List.map_append,h1];rfl,?_,?_,?_⟩,(hb.alloc hB o).grown hg (by simp;omega) (own_lt h2)⟩
 ·rw[rcells_snoc,List.length_append];exact hown
 ·exact((h3.below ((Below.refl _ _).alloc (Nat.le_refl _) o)).grown hg hblk).snoc ((hf.alloc o).grown hg hblk)
 ·exact(h4.alloc o).kept hg (own_apart (h4.alloc o) (h2.alloc o) (by decide))
theorem Own2.diag {w0 w w':World} {base:Nat} {out bad v':Value} {rs:List Rec} {ds:List Dg} {d:Dg} {L:List (Rec × Value)}
  (h1:L.map (·.1)=rs) (h2:w.ownsRow base 184 2 out rs.length (rcells L)) (h3:FieldsIn w L) (h4:w.ownsRow base 89 3 bad ds.length (dcells ds))
  (hb:Below base w0 w) (hB:base≤w.heap.size) {o:Obj}
  (hown:w'.ownsRow base 89 3 v' (ds.length+1) (dcells ds++[.int .i64 (d.1:Int),.int .i64 d.2.1,.int .i64 d.2.2])) (hg:(w.alloc o).grownBy w' bad.ownBlock):Own2 w' base out v' rs (ds++[d])∧Below base w0 w':=by
 have hblk:∀k,bad.ownBlock=some k→∃cur e' z,(w.alloc o).heap[k]? = some (.cells cur e' z)∧e'≠244:=by
  intro k hk
  obtain⟨cur,e',z,hh,he⟩:=own_block (h4.alloc o) k hk
  exact⟨cur,e',z,hh,by rw[he];decide⟩
 refine⟨⟨L,h1,?_,?_,?_⟩,(hb.alloc hB o).grown hg (by simp;omega) (own_lt h4)⟩
 ·exact(h2.alloc o).kept hg (own_apart (h2.alloc o) (h4.alloc o) (by decide))
 ·exact(h3.below ((Below.refl _ _).alloc (Nat.le_refl _) o)).grown hg hblk
 ·rw[dcells_snoc,List.length_append];exact hown

def RecsR (w:World) (v:Value) (rs:List Rec):Prop:=∃L:List (Rec × Value),L.map (·.1)=rs∧RdT w 184 2 v rs.length (rcells L)∧FieldsIn w L
def DgsR (w:World) (v:Value) (ds:List Dg):Prop:=RdT w 89 3 v ds.length (dcells ds)
def readRecs (l:List UInt8):List Rec:=if 262144<l.length then [] else recsL 1 (linesL l)
def readDgs (l:List UInt8):List Dg:=if 262144<l.length then [(1,1,3)] else (dgsL 1 (linesL l)).take 50
def ReadPost (s:ByteArray) (w:World) (e:Ending) (w':World):Prop :=
 ∃v d,e=.returned (.tuple #[v,d])∧RecsR w' v (readRecs (bl s))∧DgsR w' d (readDgs (bl s))∧Below w.heap.size w w'
theorem infoLine:(Tryz.prog.info? 184).map (fun i=>(i.zero,i.size,i.bytes))=some (some (.agg #[.int .i64 0,.slice none 0 0]),2,32):=by kernel_rfl
theorem infoDiag:(Tryz.prog.info? 89).map (fun i=>(i.zero,i.size,i.bytes))=some (some (.agg #[.int .i64 0,.int .i64 0,.int .i64 0]),3,24):=by kernel_rfl
theorem cell_three_new (w:World) (a b c:Value) (t:TypeId):∀j u,[a,b,c][j]? = some u→(w.alloc (.cells #[a,b,c] t)).cell? ((⟨w.heap.size,0,none⟩:Addr).add j)=some u:=by
 intro j u h
 match j,h with
 | 0,h=>simp at h;subst h;simp[Addr.add_lit,go_sem]
 | 1,h=>simp at h;subst h;simp[Addr.add_lit,go_sem]
 | 2,h=>simp at h;subst h;simp[Addr.add_lit,go_sem]
 | j+3,h=>simp at h


theorem take50_push {D ds:List Dg} {d:Dg} (h:D.take 50=ds) (hl:ds.length<50):(D++[d]).take 50=ds++[d]:=by
 have h2:D.length<50:=by
  have:=congrArg List.length h
  rw[List.length_take] at this
  omega
 rw[List.take_of_length_le (by omega)] at h
 subst h
 rw[List.take_of_length_le (by rw[List.length_append];simp;omega)]
theorem take50_full {D ds:List Dg} {d:Dg} (h:D.take 50=ds) (hl:¬ds.length<50):(D++[d]).take 50=ds:=by
 have h2:50≤D.length:=by
  have:=congrArg List.length h
  rw[List.length_take] at this
  omega
 rw[List.take_append_of_le_length h2,h]
theorem lines_snoc {ls:List (List UInt8)} {k:Nat} {x:List UInt8} (h:k<ls.length) (hx:ls[k]? = some x):ls.take (k+1)=ls.take k++[x]:=by
 rw[List.take_succ_eq_append_getElem h]
 rw[List.getElem?_eq_getElem h,Option.some.injEq] at hx
 rw[hx]
theorem step_rec {ls:List (List UInt8)} {k:Nat} {x:List UInt8} {rs:List Rec} (h:k<ls.length) (hx:ls[k]? = some x) (hr:recsL 1 (ls.take k)=rs) :
  recsL 1 (ls.take (k+1))=if isRec x then rs++[(k+1,splitF x)] else rs:=by
 rw[lines_snoc h hx,recsL_snoc,hr,List.length_take,Nat.min_eq_left (by omega),Nat.add_comm 1 k]
 split
 ·rfl
 ·rw[List.append_nil]
theorem step_dg {ls:List (List UInt8)} {k:Nat} {x:List UInt8} {ds:List Dg} (h:k<ls.length) (hx:ls[k]? = some x) (hr:(dgsL 1 (ls.take k)).take 50=ds) :
  (dgsL 1 (ls.take (k+1))).take 50=if splitErr x == 0 then ds else if ds.length<50 then ds++[(k+1,splitCol x,splitErr x)] else ds:=by
 rw[lines_snoc h hx,dgsL_snoc,List.length_take,Nat.min_eq_left (by omega),Nat.add_comm 1 k]
 split
 ·rw[List.append_nil,hr]
 ·split
  ·exact take50_push hr (by assumption)
  ·exact take50_full hr (by assumption)

set_option maxRecDepth 100000 in
set_option maxHeartbeats 400000 in
theorem read_long (s:ByteArray) (w:World) (h:262144<s.size) (hs:s.size≤maxLen) :
  Calls Tryz.prog 112 #[.string s] w (ReadPost s w):=by
 unfold maxLen at hs
 have h1:(262144:Int)<(s.size:Int):=by omega
 have H1:Hid (readRecs (bl s)=[]):=if_pos h
 have H2:Hid (readDgs (bl s)=[(1,1,3)]):=if_pos h
 clear h
 go_enter Tryz.func112,Tryz.ntmps112
 go_wp2
 go_ret2
 refine⟨_,_,rfl,?_,?_,(Below.refl _ _).alloc (Nat.le_refl _) _⟩
 ·rw[H1.out];exact⟨[],rfl,RdT.nil _ _ _,FieldsIn.nil _⟩
 ·rw[H2.out];exact rdT_new w [.int .i64 1,.int .i64 1,.int .i64 3] _ 3 1 rfl (by unfold maxLen;omega)
set_option maxRecDepth 100000 in
set_option maxHeartbeats 4000000 in
theorem read_short (s:ByteArray) (w:World) (E:Env w) (hs:s.size≤262144) :
  Calls Tryz.prog 112 #[.string s] w (ReadPost s w):=by
 have h1:(s.size:Int)≤262144:=by omega
 obtain⟨iL,hiL,hzL0,hzL1,hzL2⟩:=info_parts infoLine
 obtain⟨iD,hiD,hzD0,hzD1,hzD2⟩:=info_parts infoDiag
 go_enter Tryz.func112,Tryz.ntmps112
 go_wp2_with fail
 refine(splitNl s _ E (by omega)).mono ?_
 rintro e w1 ⟨lv,rfl,hlv,hb1⟩
 have E1:=E.below hb1
 have hn0:0<(linesL (bl s)).length:=List.length_pos_iff.2 (linesL_ne _)
 have hnl:=linesL_len (bl s)
 rw[bl_len] at hnl
 obtain⟨ls,hls⟩:∃ls,linesL (bl s)=ls:=⟨_,rfl⟩
 have hmem:=linesL_mem (bl s)
 rw[hls] at hlv hn0 hnl hmem
 have HLS:=Lib.hid hls
 have hmem:=Lib.hid hmem
 clear hls
 obtain⟨n,hn⟩:∃n,ls.length=n:=⟨_,rfl⟩
 rw[hn] at hlv hn0 hnl
 have HN:=Lib.hid hn
 clear hn
 obtain⟨⟨hll,A,c,rfl,hnc,hcm,hcell⟩,_⟩:=hlv
 obtain⟨g,o,rfl,hg,hcell⟩:=hcell hn0
 have HC:=Lib.hid hcell
 clear hcell hll
 unfold maxLen at hcm
 go_wp2_with fail
 go_loopw [4,5,19] (fun v d i wr=>∃k:Nat,k≤n∧i=.int .i64 k∧Own2 wr w1.heap.size v d (recsL 1 (ls.take k)) ((dgsL 1 (ls.take k)).take 50)∧Below w1.heap.size w1 wr) (fun _ _ i _=>n-(intOf i).toNat)
 case atStart =>
  exact⟨0,Nat.zero_le _,rfl,⟨[],rfl,World.ownsRow_nil _ _ _ _,FieldsIn.nil _,World.ownsRow_nil _ _ _ _⟩,Below.refl _ _⟩
 case round =>
  obtain⟨k,hk,rfl,hown,hbr⟩:=hrel
  obtain⟨rs,hrs⟩:∃rs,recsL 1 (ls.take k)=rs:=⟨_,rfl⟩
  obtain⟨ds,hds⟩:∃ds,(dgsL 1 (ls.take k)).take 50=ds:=⟨_,rfl⟩
  rw[hrs,hds] at hown
  have HRS:=Lib.hid hrs
  have HDS:=Lib.hid hds
  have hrl:rs.length≤k:=by
   have:=recsL_len (ls.take k) 1
   rw[hrs,List.length_take] at this
   omega
  have hdl:ds.length≤50:=by
   rw[←hds,List.length_take];omega
  clear hrs hds
  by_cases hlt:k<n
  ·have hkl:k<ls.length:=by rw[HN.out];exact hlt
   obtain⟨x,hx⟩:∃x:ByteArray,bl x=ls[k]:=⟨sb ls[k],rfl⟩
   have hxs:x.size≤s.size:=by
    have:=hmem.out _ (List.getElem_mem hkl)
    rw[←hx,bl_len,bl_len] at this
    exact this
   have hlk:Hid (ls[k]? = some (bl x)):=by unfold Hid;rw[hx,List.getElem?_eq_getElem hkl]
   have hc:wr.cell? ⟨g,o+k,none⟩=some (.string x):=by
    refine(hbr.cell (p:=⟨g,o+k,none⟩) hg).trans (HC.out k _ ?_)
    unfold scells
    rw[List.getElem?_map,hlk.out]
    show some (Value.string (sb (bl x)))=_
    rw[sb_bl]
   clear hx
   have hsr:=Lib.hid (step_rec hkl hlk.out HRS.out)
   have hsd:=Lib.hid (step_dg hkl hlk.out HDS.out)
   clear hkl
   have H2:=Lib.hid hown
   obtain⟨L,o1,o2,o3,o4⟩:=hown
   obtain⟨A1,c1,rfl,_⟩:=(Rd.of_own o2).form
   obtain⟨A2,c2,rfl,_⟩:=(Rd.of_own o4).form
   clear o1 o2 o3 o4
   go_wp2_with fail
   refine(split_any x _ (E1.of_below hbr E1.size) (by unfold maxLen;omega)).mono ?_
   rintro e w2 ⟨fv,rfl,hfv,hb2⟩
   obtain⟨fs,hfs⟩:∃fs,splitF (bl x)=fs:=⟨_,rfl⟩
   obtain⟨er,her⟩:∃er,splitErr (bl x)=er:=⟨_,rfl⟩
   obtain⟨co,hco⟩:∃co,splitCol (bl x)=co:=⟨_,rfl⟩
   rw[hfs] at hfv
   rw[her,hco]
   rw[hfs] at hsr
   rw[her,hco] at hsd
   have hrecx:Hid (isRec (bl x)=(er == 0 && !fs.isEmpty)):=by unfold Hid isRec;rw[hfs,her]
   rw[hrecx.out] at hsr
   obtain⟨A3,c3,rfl,_⟩:=hfv.1.form
   have hbr2:=hbr.trans (hb2.mono hbr.size)
   have hB2:=hbr2.size
   obtain⟨L,o1,o2,o3,o4⟩:=H2.out.below hb2
   have O1:=Lib.hid o1
   clear hfs her hco o1
   by_cases he0:er=0
   ·have e1:(er != 0)=false:=by rw[he0];rfl
    have e2:(er == 0)=true:=by rw[he0];rfl
    rw[e2,if_pos rfl] at hsd
    rw[e2,Bool.true_and] at hsr
    clear he0 e2
    by_cases hfl:0<fs.length
    ·have hfl':(0:Int)<(fs.length:Int):=by omega
     have e3:fs.isEmpty=false:=by rw[List.isEmpty_eq_false_iff];intro e;rw[e] at hfl;simp at hfl
     rw[e3,Bool.not_false,if_pos rfl] at hsr
     clear e3
     go_wp2_with (at_builtin;refine wpList_append_own _ rfl (.tmp 48) (.tmp 53) 174 rfl w1.heap.size 184 iL (.agg #[.int .i64 0,.slice none 0 0]) 2 32 Tryz.underlying174 hiL hzL0 hzL1 hzL2 rfl (by decide) _ _ _ rfl (o2.alloc _) ⟨w2.heap.size,0,none⟩ 1 1 [.int .i64 ((k:Int)+1),.slice A3 fs.length c3] rfl rfl (cell_two_new _ _ _ _) (by intro u hu;simp at hu;rcases hu with rfl|rfl <;> rfl) (by unfold maxLen;omega) (by omega) (by simp;omega) ?_)
     intro v' w' hown' hgrow _
     have R:Own2 w' w1.heap.size v' (.slice A2 ds.length c2) (recsL 1 (ls.take (k+1))) ((dgsL 1 (ls.take (k+1))).take 50)∧Below w1.heap.size w1 w':=by rw[hsr.out,hsd.out];exact Own2.rec_ (r:=(k+1,fs)) O1.out o2 o3 o4 hfv hbr2 hB2 hown' hgrow
     clear hown' hgrow o2 o3 o4 H2 hfv
     go_wp2
     go_roundw
     case rel=>exact⟨k+1,hlt,by go_num,R.1,R.2⟩
     case measure=>simp[intOf];omega
    ·have hfl':(fs.length:Int)≤0:=by omega
     have e3:fs.isEmpty=true:=by rw[List.isEmpty_iff];exact List.eq_nil_of_length_eq_zero (by omega)
     rw[e3,Bool.not_true,if_neg (by decide)] at hsr
     have R:Own2 w2 w1.heap.size (.slice A1 rs.length c1) (.slice A2 ds.length c2) (recsL 1 (ls.take (k+1))) ((dgsL 1 (ls.take (k+1))).take 50):=by rw[hsr.out,hsd.out];exact H2.out.below hb2
     clear o2 o3 o4 H2 hfv e3
     go_wp2
     go_roundw
     case rel=>exact⟨k+1,hlt,by go_num,R,hbr2⟩
     case measure=>simp[intOf];omega
   ·have e1:(er != 0)=true:=bne_iff_ne.2 he0
    have e2:(er == 0)=false:=beq_eq_false_iff_ne.2 he0
    rw[e2,if_neg (by decide)] at hsd
    rw[e2,Bool.false_and,if_neg (by decide)] at hsr
    clear he0 e2
    by_cases hdl2:ds.length<50
    ·have hdl':(ds.length:Int)<50:=by omega
     rw[if_pos hdl2] at hsd
     go_wp2_with (at_builtin;refine wpList_append_own _ rfl (.tmp 36) (.tmp 42) 85 rfl w1.heap.size 89 iD (.agg #[.int .i64 0,.int .i64 0,.int .i64 0]) 3 24 Tryz.underlying85 hiD hzD0 hzD1 hzD2 rfl (by decide) _ _ _ rfl (o4.alloc _) ⟨w2.heap.size,0,none⟩ 1 1 [.int .i64 ((k:Int)+1),.int .i64 co,.int .i64 er] rfl rfl (cell_three_new _ _ _ _ _) (by intro u hu;simp at hu;rcases hu with rfl|rfl|rfl <;> rfl) (by unfold maxLen;omega) (by omega) (by simp;omega) ?_)
     intro v' w' hown' hgrow _
     have R:Own2 w' w1.heap.size (.slice A1 rs.length c1) v' (recsL 1 (ls.take (k+1))) ((dgsL 1 (ls.take (k+1))).take 50)∧Below w1.heap.size w1 w':=by rw[hsr.out,hsd.out];exact Own2.diag (d:=(k+1,co,er)) O1.out o2 o3 o4 hbr2 hB2 hown' hgrow
     clear hown' hgrow o2 o3 o4 H2 hfv
     go_wp2
     go_roundw
     case rel=>exact⟨k+1,hlt,by go_num,R.1,R.2⟩
     case measure=>simp[intOf];omega
    ·have hdl':(50:Int)≤(ds.length:Int):=by omega
     rw[if_neg hdl2] at hsd
     have R:Own2 w2 w1.heap.size (.slice A1 rs.length c1) (.slice A2 ds.length c2) (recsL 1 (ls.take (k+1))) ((dgsL 1 (ls.take (k+1))).take 50):=by rw[hsr.out,hsd.out];exact H2.out.below hb2
     clear o2 o3 o4 H2 hfv
     go_wp2
     go_roundw
     case rel=>exact⟨k+1,hlt,by go_num,R,hbr2⟩
     case measure=>simp[intOf];omega
  ·have hall:ls.take k=ls:=List.take_of_length_le (by rw[HN.out];omega)
   have F1:Hid (readRecs (bl s)=rs):=by unfold Hid readRecs;rw[if_neg (by rw[bl_len];omega),HLS.out,←HRS.out,hall]
   have F2:Hid (readDgs (bl s)=ds):=by unfold Hid readDgs;rw[if_neg (by rw[bl_len];omega),HLS.out,←HDS.out,hall]
   have H2:=Lib.hid hown
   clear hall hown
   go_wp2
   go_ret2
   obtain⟨L,o1,o2,o3,o4⟩:=H2.out
   refine⟨_,_,rfl,?_,?_,Below.then_ hb1 hbr⟩
   ·rw[F1.out];exact⟨L,o1,RdT.of_own o2,o3⟩
   ·rw[F2.out];exact RdT.of_own o4
theorem read_any (s:ByteArray) (w:World) (E:Env w) (hs:s.size≤maxLen) :
  Calls Tryz.prog 112 #[.string s] w (ReadPost s w):=by
 by_cases h:262144<s.size
 ·exact read_long s w h hs
 ·exact read_short s w E (by omega)

def fldI (fs:List Fld):List FldI:=fs.map fun f=>(f.1,(f.2:Int))
theorem fldI_cells (fs:List Fld):ficells (fldI fs)=fcells fs:=by
 unfold ficells fldI fcells
 rw[List.flatMap_map]
theorem fldI_len (fs:List Fld):(fldI fs).length=fs.length:=by unfold fldI;rw[List.length_map]
theorem fieldsGo_le (l:List UInt8):∀(cur:List UInt8) (st pos:Nat),(∀f∈fieldsGo cur st pos l,f.1.length≤cur.length+l.length)∧(fieldsGo cur st pos l).length≤l.length+1:=by
 induction l with
 | nil =>
  intro cur st pos
  unfold fieldsGo
  split
  ·exact⟨by simp,by simp⟩
  ·exact⟨by simp,by simp⟩
 | cons c l ih =>
  intro cur st pos
  unfold fieldsGo
  rw[List.length_cons]
  split
  ·split
   ·have:=ih [] 0 (pos+1)
    refine⟨fun f hf => ?_,by omega⟩
    have:=this.1 f hf
    simp at this
    omega
   ·have:=ih [] 0 (pos+1)
    refine⟨fun f hf => ?_,by rw[List.length_cons];omega⟩
    rw[List.mem_cons] at hf
    rcases hf with rfl|hf
    ·show cur.length≤_;omega
    ·have:=this.1 f hf
     simp at this
     omega
  ·have:=ih (cur++[c]) (if cur=[] then pos else st) (pos+1)
   refine⟨fun f hf => ?_,by omega⟩
   have:=this.1 f hf
   rw[List.length_append,List.length_singleton] at this
   omega
theorem cutAt_fst_len (c:UInt8) (l:List UInt8):(cutAt c l).1.length≤l.length:=by
 rcases cutAt_spec c l with ⟨_,h,_⟩|⟨_,_,h,_⟩
 ·have:=congrArg List.length h
  rw[List.length_append,List.length_cons] at this
  omega
 ·rw[h];exact Nat.le_refl _
theorem splitF_small (l:List UInt8):(∀f∈splitF l,f.1.length≤200)∧(splitF l).length≤201:=by
 unfold splitF
 split
 ·exact⟨by simp,by simp⟩
 ·rename_i hl
  split
  ·unfold fieldsL
   have h:=fieldsGo_le (cutAt 35 l).1 [] 0 0
   have h2:=cutAt_fst_len 35 l
   refine⟨fun f hf => ?_,by omega⟩
   have:=h.1 f hf
   simp at this
   omega
  ·exact⟨by simp,by simp⟩
theorem fsr_of {w:World} {v:Value} {fs:List Fld} (h:RdT w 244 2 v fs.length (fcells fs)) (hs:∀f∈fs,f.1.length≤200):FsR w w.heap.size v (fldI fs):=by
 obtain⟨⟨hl,A,c,hv,hc,hm,hr⟩,_⟩:=h
 refine⟨A,c,by rw[fldI_len];exact hv,by rw[fldI_len];exact hc,hm,?_,fun h0 => ?_⟩
 ·intro f hf
  unfold fldI at hf
  rw[List.mem_map] at hf
  obtain⟨f',hf',rfl⟩:=hf
  have:=hs f' hf'
  unfold maxLen
  show f'.1.length≤_
  omega
 ·rw[fldI_len] at h0
  obtain⟨g,o,hA,hg,hx⟩:=hr h0
  refine⟨g,o,hA,hg,?_⟩
  rw[fldI_cells];exact hx
theorem fldI_small {fs:List Fld} {N M:Nat} (hs:∀f∈fs,f.1.length≤N) (hNM:N≤M):∀f∈fldI fs,f.1.length≤M:=by
 intro f hf
 unfold fldI at hf
 rw[List.mem_map] at hf
 obtain⟨f',hf',rfl⟩:=hf
 have:=hs f' hf'
 show f'.1.length≤_
 omega

def tokB (c:UInt8):Bool:=decide (36≤c.toNat)&&decide (c.toNat≤126)
theorem tokB_iff {c:UInt8}:tokB c=true↔36≤c.toNat∧c.toNat≤126:=by unfold tokB;rw[Bool.and_eq_true,decide_eq_true_iff,decide_eq_true_iff]
theorem tok_ne {c:UInt8} (h:tokB c=true):c≠32∧c≠35∧okC c=true:=by
 have h2:=tokB_iff.1 h
 refine⟨fun e => ?_,fun e => ?_,okC_yes (by omega) (by omega)⟩
 ·rw[e] at h2;exact absurd h2.1 (by decide)
 ·rw[e] at h2;exact absurd h2.1 (by decide)
theorem all_mono {p q:UInt8→Bool} {l:List UInt8} (h:l.all p=true) (hpq:∀c,p c=true→q c=true):l.all q=true:=by
 rw[List.all_eq_true] at *;exact fun c hc=>hpq c (h c hc)
def unW:List (List UInt8)→List UInt8
 | []=>[]
 | [w]=>w
 | w::ws=>w++32::unW ws
def colsW:Nat→List (List UInt8)→List Fld
 | _,[]=>[]
 | p,w::ws=>(w,p+1)::colsW (p+w.length+1) ws
theorem fields_unW:∀(ws:List (List UInt8)) (p:Nat),(∀w∈ws,w≠[]∧w.all tokB=true)→fieldsGo [] 0 p (unW ws)=colsW p ws
 | [],p,_=>rfl
 | [w],p,h=>by
  have hw:=h w (by simp)
  have hb:∀c∈w,c≠32:=fun c hc=>(tok_ne (List.all_eq_true.1 hw.2 c hc)).1
  have:=fieldsGo_start w 0 p [] hw.1 hb
  rw[List.append_nil] at this
  show fieldsGo [] 0 p w=_
  rw[this,fieldsGo_end w p _ [] hw.1 (.inl rfl)];rfl
 | w::w2::ws,p,h=>by
  have hw:=h w (by simp)
  have hb:∀c∈w,c≠32:=fun c hc=>(tok_ne (List.all_eq_true.1 hw.2 c hc)).1
  show fieldsGo [] 0 p (w++32::unW (w2::ws))=_
  rw[fieldsGo_start w 0 p _ hw.1 hb,fieldsGo_end w p _ _ hw.1 (.inr rfl),fieldsGo_blank,fields_unW (w2::ws) (p+w.length+1) (fun x hx=>h x (List.mem_cons_of_mem _ hx))]
  rfl
theorem unW_ok:∀(ws:List (List UInt8)),(∀w∈ws,w≠[]∧w.all tokB=true)→(unW ws).all okC=true∧(35:UInt8) ∉ unW ws
 | [],_=>⟨rfl,by simp[unW]⟩
 | [w],h=>by
  have hw:=h w (by simp)
  refine⟨all_mono hw.2 fun c hc=>(tok_ne hc).2.2,fun hm=>(tok_ne (List.all_eq_true.1 hw.2 35 hm)).2.1 rfl⟩
 | w::w2::ws,h=>by
  have hw:=h w (by simp)
  have ih:=unW_ok (w2::ws) (fun x hx=>h x (List.mem_cons_of_mem _ hx))
  show(w++32::unW (w2::ws)).all okC=true∧(35:UInt8) ∉ w++32::unW (w2::ws)
  refine⟨?_,?_⟩
  ·rw[List.all_append,List.all_cons,ih.1,all_mono hw.2 fun c hc=>(tok_ne hc).2.2];rfl
  ·rw[List.mem_append,List.mem_cons]
   rintro(hm|hm|hm)
   ·exact(tok_ne (List.all_eq_true.1 hw.2 35 hm)).2.1 rfl
   ·exact absurd hm (by decide)
   ·exact ih.2 hm
theorem split_unW {ws:List (List UInt8)} (h:∀w∈ws,w≠[]∧w.all tokB=true) (hl:(unW ws).length≤200):splitErr (unW ws)=0∧splitF (unW ws)=colsW 0 ws:=by
 have ho:=unW_ok ws h
 have hs:=split_ok hl ho.1
 refine⟨hs.2.2,hs.1.trans ?_⟩
 unfold fieldsL
 rw[cutAt_none ho.2]
 exact fields_unW ws 0 h
theorem colsW_len:∀(ws:List (List UInt8)) (p:Nat),(colsW p ws).length=ws.length
 | [],_=>rfl
 | w::ws,p=>by
  show(colsW (p+w.length+1) ws).length+1=ws.length+1
  rw[colsW_len ws]
end Go.Proofs.YtgmehlgfilpleaaGreatDoor
