/-
  Several texts as one.
-/
import Derived.Test.YtgmehlgfilpleaaGreatDoorMG07
namespace Go.Proofs.YtgmehlgfilpleaaGreatDoor
open Go.RowKit
set_option linter.unusedVariables false
set_option linter.unusedSimpArgs false
section
variable {P:Program} (w:World)
theorem run_append_own_string2 (base:Nat) (t u ty e:TypeId) (i:TypeInfo) (ht:P.underlying t=some (.slice e)) (hu:P.underlying u=some .string) (hi:P.info? e=some i) (hz:i.zero=some (.int .u8 0))
  (hsize:i.size=1) (hby:i.bytes=1)
  (v:Value) (n:Nat) (xs:List Value) (hown:w.ownsRow base e 1 v n xs) (s:ByteArray)
  (h63:n+s.size≤maxLen) (hbytes:n+s.size≤140737488355328) (hbase:base≤w.heap.size) :
  ∃v' w',(Builtin.append_ #[t,u] ty #[v,.string s]).run P w=.ok v' w'∧w'.ownsRow base e 1 v' (n+s.size) (xs++Lib.strCells s)∧w.grownBy w' v.ownBlock ∧
   (∀b,v'.ownBlock=some b→v.ownBlock=some b∨w.heap.size≤b):=by
 obtain⟨v',w',hr,h2,h3,h4⟩:=Lib.run_append_own_string (P:=P) w base t u ty e i ht hu hi hz hsize hby v n xs hown s h63 hbytes hbase
 refine⟨v',w',hr,h2,h3,?_⟩
 have hsmall:n+s.size≤9223372036854775807:=by simp only[maxLen] at h63;omega
 have hxl:xs.length=n:=by simpa using hown.1
 rcases hown.2 with ⟨rfl,rfl⟩|⟨g,cap,cur,rfl,hbg,hg,hnc,hcm,hcs,htake⟩
 ·by_cases hm:s.size=0
  ·rw[h4.2 ⟨rfl,hm⟩]
   intro b hb;simp[Value.ownBlock] at hb
  ·have hr2:=run_append_nil_string (P:=P) w t u ty e i (.int .u8 0) ht hu hi hz s (by omega) (by omega) (by rw[hby];omega)
   rw[hr] at hr2
   injection hr2 with e1 e2
   subst e1
   intro b hb
   have:w.heap.size=b:=by simpa [Value.ownBlock] using hb
   exact .inr (by omega)
 ·by_cases hroom:n+s.size≤cap
  ·have hcs':cur.size=cap:=by simpa using hcs
   have hr2:=Lib.run_append_room_string (P:=P) w t u ty e i ht hu hi hsize g n cap cur hg s hroom (by omega)
   rw[hr] at hr2
   injection hr2 with e1 e2
   subst e1
   intro b hb
   exact .inl hb
  ·have holds:∀j u,xs[j]? = some u→w.cell? ((⟨g,0,none⟩:Addr).add j)=some u:=hown.cells (g:=g) rfl
   have hr2:=Lib.run_append_grow_string (P:=P) w t u ty e i (.int .u8 0) ht hu hi hz ⟨g,0,none⟩ n cap xs (by rw[hsize];simpa using hxl) holds s (by omega) (by omega) (by rw[hby];exact growslice_fits (by omega) (by omega))
   rw[hr] at hr2
   injection hr2 with e1 e2
   subst e1
   intro b hb
   have:w.heap.size=b:=by simpa [Value.ownBlock] using hb
   exact .inr (by omega)
theorem wpList_append_own_string2 {ops:Array Oper} {rest:List Oper} {o:Oper} {a:Act} {Q:Exit→Act→World→Prop} (hgd:o.guard=none) (sl x:Operand) (t u:TypeId)
  (ho:o.op=.call {callee:=.builtin .append,args := #[sl,x],argTypes := #[t,u]})
  (base:Nat) (e:TypeId) (i:TypeInfo) (ht:P.underlying t=some (.slice e)) (hu:P.underlying u=some .string) (hi:P.info? e=some i) (hz:i.zero=some (.int .u8 0))
  (hsize:i.size=1) (hby:i.bytes=1)
  (v:Value) (n:Nat) (xs:List Value) (hs:a.eval sl=v) (hown:w.ownsRow base e 1 v n xs) (s:ByteArray) (hx:a.eval x=.string s)
  (h63:n+s.size≤maxLen) (hbytes:n+s.size≤140737488355328) (hbase:base≤w.heap.size)
  (h:∀v' w',w'.ownsRow base e 1 v' (n+s.size) (xs++Lib.strCells s)→w.grownBy w' v.ownBlock→(∀b,v'.ownBlock=some b→v.ownBlock=some b∨w.heap.size≤b)→wpList P ops Q rest (a.put o.dst v') w'):wpList P ops Q (o::rest) a w:=by
 refine wpList_plain hgd fun K hK => ?_
 obtain⟨v',w',hr,h2,h3,h4⟩:=run_append_own_string2 (P:=P) w base t u o.type e i ht hu hi hz hsize hby v n xs hown s h63 hbytes hbase
 unfold Oper.wp execOp
 simp only[ho,resolve,invoke,builtin,Sem.run_bind,Sem.run_pure,Result.andThen_ok,List.map_toArray,List.map_cons,List.map_nil,hs,hx,hr]
 exact hK _ _ (h v' w' h2 h3 h4)
end
theorem WrR.twoT {g B:Nat} {v v1 v2:Value} {out out2:List UInt8} {w w3 w4:World} {o:Obj} (h:WrR g B v out w) (hg:(w.alloc o).grownBy w3 v.ownBlock) (h1:∀b,v1.ownBlock=some b→v.ownBlock=some b∨w.heap.size≤b) (hg2:w3.grownBy w4 v1.ownBlock)
  (hown:w4.ownsRow B 5 1 v2 out2.length (out2.map u8c)) (h2:∀b,v2.ownBlock=some b→v1.ownBlock=some b∨w3.heap.size≤b) :
  WrTo g B v out2 w v2 (w4.setCell ⟨g,0,none⟩ v2)∧Bx g #[v] 132 w4:=by
 have hi:=h.hi
 have hgl0:=h.bx.lt
 have hs3:w.heap.size≤w3.heap.size:=by have:=hg.size;rw[World.size_alloc] at this;omega
 have hs4:=hg2.size
 have hk:∀k,k<w.heap.size→v.ownBlock≠some k→w4.heap[k]? = w.heap[k]? := fun k hk hn =>
  (hg2.block k (by omega) (fun e=>by rcases h1 k e.symm with e2|e2;exact hn e2;omega)).trans ((hg.block k (by rw[World.size_alloc];omega) (fun e=>hn e.symm)).trans (((Below.refl w.heap.size w).alloc (Nat.le_refl _) o).block k hk))
 have hoth:∀k,k≠g→(w4.setCell ⟨g,0,none⟩ v2).heap[k]? = w4.heap[k]? := fun k hk=>heap_setCell_other w4 ⟨g,0,none⟩ k v2 (fun e=>hk (by simpa using e))
 have hng:v.ownBlock≠some g:=h.lo
 have hx4:Bx g #[v] 132 w4:=(hk g hgl0 hng).trans h.bx
 refine⟨⟨⟨hx4.set 0 v2,?_,by simp;omega⟩,⟨hg2.os.trans hg.os,hg2.tape.trans hg.tape,hg2.output.trans hg.output,by simp;omega,fun k hkl hn => ?_⟩,fun b hb => ?_⟩,hx4⟩
 ·obtain⟨hl,h2|⟨b,cap,cur,hv,hb,hh,r⟩⟩:=hown
  ·exact⟨hl,.inl h2⟩
  ·exact⟨hl,.inr ⟨b,cap,cur,hv,hb,(hoth b (bx_ne hx4 hh)).trans hh,r⟩⟩
 ·exact(hoth k (fun e=>hn (.inl e))).trans (hk k hkl (fun e=>hn (.inr e)))
 ·rcases h2 b hb with e|e
  ·exact h1 b e
  ·exact .inr (by omega)
set_option maxRecDepth 100000 in
set_option maxHeartbeats 8000000 in
theorem wtextT_any {g B:Nat} {v:Value} {out:List UInt8} (ga oa ca:Nat) (l:List ByteArray) (w:World) (h:WrR g B v out w) (hc:∀j (hj:j<l.length),w.cell? ⟨ga,oa+j,none⟩=some (.string l[j])) (hg:ga≠g) {cur:Array Value} {ty:TypeId} {z:Nat × Nat} (hty:w.heap[ga]? = some (.cells cur ty z)) (hne:ty≠5)
  (hN:(out++txtB l).length≤100000000) :
  Calls Tryz.prog 76 #[.pointer (some ⟨g,0,none⟩),.slice (some ⟨ga,oa,none⟩) l.length ca] w fun e w'=>e=.returned (.tuple #[])∧∃v',WrTo g B v (out++txtB l) w v' w':=by
 obtain⟨i0,hi,hz0,hz1,hz2⟩:=info_parts infoU8b
 have H:=Lib.hid h
 have HC:=Lib.hid hc
 have HTY:=Lib.hid hty
 have hgl:=heap_lt hty
 have hvga:v.ownBlock≠some ga:=fun e=>by
  obtain⟨cur2,e2,z2,hh,he⟩:=own_block h.own ga e
  rw[hty] at hh
  injection hh with hh
  injection hh with _ h2 _
  exact hne (h2.trans he)
 obtain⟨n,hn⟩:∃n,l.length=n:=⟨_,rfl⟩
 have HN:=Lib.hid hn
 have HNN:=Lib.hid hN
 have hnl:n≤100000000:=by
  have h1:l.length≤(txtB l).length:=by
   unfold txtB
   clear hc hN hn HC HN HNN
   induction l with
   | nil=>simp
   | cons a l ih=>rw[List.flatMap_cons,List.length_append,List.length_cons,List.length_cons];omega
  rw[List.length_append] at hN;omega
 rw[hn]
 clear h hc hn hty hN
 go_enter Tryz.func76,Tryz.ntmps76
 go_wp2_with fail
 go_loopw [8] (fun iv wr=>∃(k:Nat) (vk:Value),k≤n∧iv=.int .i64 (k:Int)∧Hid (WrTo g B v (out++txtB (l.take k)) w vk wr)) (fun iv _=>n-(intOf iv).toNat)
 case atStart=>exact⟨0,v,Nat.zero_le _,rfl,by unfold Hid txtB;simpa using WrTo.refl H.out⟩
 case round =>
  obtain⟨k,vk,hk,rfl,hto⟩:=hrel
  have ht:=Lib.hid hto.out.r
  have hf:=Lib.hid hto.out.f
  by_cases hlt:k<n
  ·have hkl:k<l.length:=by rw[HN.out];exact hlt
   have hns:¬(ga=g∨v.ownBlock=some ga):=fun e=>by rcases e with e|e;exact hg e;exact hvga e
   have c0:=(hf.out.cell (a:=⟨ga,oa+k,none⟩) hgl hns).trans (HC.out k hkl)
   have hgaw:=(hf.out.block ga hgl hns).trans HTY.out
   have hgw:ga<wr.heap.size:=heap_lt hgaw
   have hnown:vk.ownBlock≠some ga:=fun e=>by
    obtain⟨cur2,e2,z2,hh,he⟩:=own_block ht.out.own ga e
    rw[hgaw] at hh
    injection hh with hh
    injection hh with _ h2 _
    exact hne (h2.trans he)
   have HNO:=Lib.hid hnown
   have hx:=ht.out.bx
   have hown:=ht.out.own
   obtain⟨Av,nv,cv,rfl⟩:=own_form hown
   have k0:=hx.cell 0 (u:=.slice Av nv cv) rfl
   have f0:=hx.free 0
   have gl:=hx.lt
   have hBs:=ht.out.hi
   have hlo:=hown.lt
   have hsn:=txtB_snoc l k hkl
   have hlen:(out++txtB (l.take k)).length+1+l[k].size≤100000000:=by
    have h1:(txtB (l.take (k+1))).length≤(txtB l).length:=by
     have h2:txtB l=txtB (l.take (k+1))++txtB (l.drop (k+1)):=by unfold txtB;rw[←List.flatMap_append,List.take_append_drop]
     rw[h2,List.length_append];omega
    have h3:=HNN.out
    rw[hsn] at h1
    simp only[List.length_append,List.length_cons,bl_len] at h1 h3 ⊢
    omega
   obtain⟨s,hs⟩:∃s,l[k]=s:=⟨_,rfl⟩
   rw[hs] at c0 hsn hlen
   have HSN:=Lib.hid hsn
   obtain⟨m,hm⟩:∃m,(out++txtB (l.take k)).length=m:=⟨_,rfl⟩
   rw[hm] at hown hlen
   have HM:=Lib.hid hm
   have hss:s.size≤100000000:=by omega
   have HOWN:=Lib.hid hown
   have HU:Hid ([u8of (s.size:Int)].map u8c=[.int .u8 ((s.size:Int)%256)]):=by unfold Hid u8c;simp only[List.map_cons,List.map_nil,u8of_nat]
   clear hown hx hm hs hsn hgaw hnown hns
   go_wp2_with (at_builtin;(first
    | (refine wpList_append_lies _ rfl _ _ 68 rfl B 5 i0 (.int .u8 0) 1 1 Tryz.underlying68 hi hz0 hz1 hz2 rfl (by decide) _ _ _ rfl (HOWN.out.alloc _) ⟨wr.heap.size,0,none⟩ 1 1 [.int .u8 ((s.size:Int)%256)] rfl rfl (cell_one_new _ _ _) ?c2 (by decide) ?c3 ?c4 ?c5 _ rfl ?_)))
   case c2=>intro u hu;simp only[List.mem_cons,List.not_mem_nil,or_false] at hu;rcases hu with rfl;rfl
   case c3=>unfold maxLen;omega
   case c4=>omega
   case c5=>simp;omega
   intro gg cap w3 hown3 hgrow hor hgg
   have HO3:=Lib.hid hown3
   have HG3:=Lib.hid hgrow
   have HOO:Hid (∀b,(Value.slice (some ⟨gg,0,none⟩) (m+1) cap).ownBlock=some b→(Value.slice Av nv cv).ownBlock=some b∨wr.heap.size≤b):=fun b hb=>by
    have:gg=b:=by simpa [Value.ownBlock] using hb
    subst this
    rcases hor with h1|h1
    ·exact .inl h1
    ·exact .inr (by rw[h1];first|omega|simp)
   have hB3:B≤w3.heap.size:=by have:=hgrow.size;rw[World.size_alloc] at this;omega
   clear hown3 hgrow hor
   go_wp2_with (at_builtin;(refine wpList_append_own_string2 _ rfl _ _ 68 9 rfl B 5 i0 Tryz.underlying68 Tryz.underlying9 hi hz0 hz1 hz2 _ (m+1) _ rfl HO3.out s rfl ?d1 ?d2 hB3 ?_))
   case d1=>unfold maxLen;omega
   case d2=>omega
   intro v2 w4 hown4 hgrow4 hoo4
   obtain⟨A2,n2,c2,rfl⟩:=own_form hown4
   have HSS:Hid (out++txtB (l.take (k+1))=(out++txtB (l.take k))++(u8of (s.size:Int)::bl s)):=by unfold Hid;rw[HSN.out,List.append_assoc]
   have hown5:w4.ownsRow B 5 1 (.slice A2 n2 c2) (out++txtB (l.take (k+1))).length ((out++txtB (l.take (k+1))).map u8c):=by
    have e1:(out++txtB (l.take (k+1))).length=m+1+s.size:=by rw[HSS.out,List.length_append,HM.out,List.length_cons,bl_len];omega
    have e2:(out++txtB (l.take (k+1))).map u8c=(out++txtB (l.take k)).map u8c++[.int .u8 ((s.size:Int)%256)]++Lib.strCells s:=by
     rw[HSS.out,List.map_append,List.map_cons,←HU.out,List.append_assoc];rfl
    rw[e1,e2]
    simpa using hown4
   have R:=WrR.twoT ht.out HG3.out HOO.out hgrow4 hown5 hoo4
   obtain⟨R1,R3⟩:=R
   have Q1:=Lib.hid (hto.out.then_ R1)
   have kg:=R3.cell 0 (u:=.slice Av nv cv) rfl
   have fg:=R3.free 0
   have gl4:=R3.lt
   clear R1 R3 hown4 hown5 hgrow4 hoo4 k0 f0 HG3 HO3 HOO
   go_wp2
   go_roundw
   case rel=>exact⟨k+1,_,hlt,by first|rfl|go_num,Q1⟩
   case measure=>simp[intOf];omega
  ·have hkn:l.take k=l:=List.take_of_length_le (by rw[HN.out];omega)
   rw[hkn] at hto
   clear hkn ht hf
   go_wp2
   go_end0
   exact⟨rfl,_,hto.out⟩
theorem WrTo.box {g B q:Nat} {v v':Value} {out out0:List UInt8} {w w':World} {cs:Array Value} {T:TypeId} (h:WrTo g B v out w v' w') (h0:WrR g B v out0 w) (hb:Bx q cs T w) (hT:T≠5) (hq:q≠g):Bx q cs T w':=by
 refine(h.f.block q hb.lt (fun e => ?_)).trans hb
 rcases e with e|e
 ·exact hq e
 ·obtain⟨cur,e',z,hh,he⟩:=own_block h0.own q e
  unfold Bx at hb
  rw[hb] at hh
  injection hh with hh
  injection hh with _ h6 _
  exact hT (h6.trans he)
theorem cells_new (w:World) (l:List Value) (T:TypeId) {j:Nat} {u:Value} (hu:l[j]? = some u):(w.alloc (.cells l.toArray T)).cell? ⟨w.heap.size,0+j,none⟩=some u:=by
 rw[Nat.zero_add]
 exact(Bx.last w l.toArray T).cell j (by rw[List.getElem?_toArray];exact hu)
theorem wtextC {g B:Nat} {v:Value} {out:List UInt8} (l:List ByteArray) (n:Nat) (hn:l.length=n) (w:World) (h:WrR g B v out w) (hN:out.length+(txtB l).length≤1000000) :
  Calls Tryz.prog 76 #[.pointer (some ⟨g,0,none⟩),.slice (some ⟨w.heap.size,0,none⟩) n n] (w.alloc (.cells (l.map Value.string).toArray 9)) fun e w'=>e=.returned (.tuple #[])∧∃v',WrTo g B v (out++txtB l) w v' w':=by
 subst hn
 have hb:=(Below.refl w.heap.size w).alloc (Nat.le_refl _) (.cells (l.map Value.string).toArray 9)
 have hgl:=h.bx.lt
 refine(wtextT_any w.heap.size 0 l.length l _ (h.below hb) (fun j hj=>cells_new w _ _ (by rw[List.getElem?_map,List.getElem?_eq_getElem hj];rfl)) (by omega) (Bx.last w _ _) (by decide) (by rw[List.length_append];omega)).mono ?_
 rintro e w' ⟨he,v',hk⟩
 exact⟨he,v',WrTo.of_below hb hk⟩
theorem wbytesC {g B:Nat} {v:Value} {out:List UInt8} (l:List UInt8) (cs:List Value) (n:Nat) (hcs:l.map u8c=cs) (hn:l.length=n) (h0:0<n) (w:World) (h:WrR g B v out w) (hN:out.length+l.length≤1000000) :
  Calls Tryz.prog 80 #[.pointer (some ⟨g,0,none⟩),.slice (some ⟨w.heap.size,0,none⟩) n n] (w.alloc (.cells cs.toArray 5)) fun e w'=>e=.returned (.tuple #[])∧∃v',WrTo g B v (out++l) w v' w':=by
 subst hn hcs
 have hb:=(Below.refl w.heap.size w).alloc (Nat.le_refl _) (.cells (l.map u8c).toArray 5)
 refine(wbytes_any w.heap.size 0 l.length l _ (h.below hb) ⟨(Bx.last w _ _).lt,fun j b hj=>cells_new w _ _ (by rw[List.getElem?_map,hj];rfl)⟩ h0 (by omega)).mono ?_
 rintro e w' ⟨he,v',hk⟩
 exact⟨he,v',WrTo.of_below hb hk⟩
theorem wnumbersC {g B:Nat} {v:Value} {out:List UInt8} (l:List Int) (n:Nat) (hn:l.length=n) (w:World) (h:WrR g B v out w) (hN:out.length+(numB l).length≤1000000) (hl:n≤1000) :
  Calls Tryz.prog 77 #[.pointer (some ⟨g,0,none⟩),.slice (some ⟨w.heap.size,0,none⟩) n n] (w.alloc (.cells (l.map (Value.int .i64)).toArray 2)) fun e w'=>e=.returned (.tuple #[])∧∃v',WrTo g B v (out++numB l) w v' w':=by
 subst hn
 have hb:=(Below.refl w.heap.size w).alloc (Nat.le_refl _) (.cells (l.map (Value.int .i64)).toArray 2)
 have hgl:=h.bx.lt
 refine(wnumbers_any w.heap.size 0 l.length l _ (h.below hb) (Bx.last w _ _).lt (fun j hj=>cells_new w _ _ (by rw[List.getElem?_map,List.getElem?_eq_getElem hj];rfl)) (by omega) (fun e=>by have:=(h.own.lt _ e).2;omega) (by omega) hl).mono ?_
 rintro e w' ⟨he,v',hk⟩
 exact⟨he,v',WrTo.of_below hb hk⟩
theorem u8c_u8b {n:Nat} (h:n<256):u8c (u8b n)=.int .u8 (n:Int):=by
 unfold u8c u8b;rw[u8of_nat]
 rw[show(n:Int)%256=(n:Int) by omega]
set_option maxRecDepth 100000 in
set_option maxHeartbeats 8000000 in
theorem wleg_any {g B:Nat} {v:Value} {out:List UInt8} (l:Lg) (w:World) (h:WrR g B v out w) (hl:LgOk l) (hN:out.length+(lgB l).length≤1000000) :
  Calls Tryz.prog 81 #[.pointer (some ⟨g,0,none⟩),.agg (lgc l).toArray] w fun e w'=>e=.returned (.tuple #[])∧∃v',WrTo g B v (out++lgB l) w v' w':=by
 obtain⟨ty,fi,ce,tn,ov,cr,ds,ra,th,lo,hi,sp,rn⟩:=l
 obtain⟨hfi,hce,hty,htn⟩:=hl
 simp only at hfi hce hty htn
 have HB:Hid (lgB ⟨ty,fi,ce,tn,ov,cr,ds,ra,th,lo,hi,sp,rn⟩=[u8b ty]++(txtB [sb fi,sb ce]++([u8b tn,if ov then 1 else 0]++numB [cr,ds,ra,th,lo,hi,sp,rn]))):=by
  unfold Hid lgB;rw[show[sb fi,sb ce]=[fi,ce].map sb by rfl,txtB_map]
 have hNN:=hN
 rw[HB.out] at hNN
 simp only[List.length_append,List.length_cons,List.length_nil] at hNN
 rw[HB.out]
 obtain⟨OUT,hOUT⟩:∃L,out++([u8b ty]++(txtB [sb fi,sb ce]++([u8b tn,if ov then 1 else 0]++numB [cr,ds,ra,th,lo,hi,sp,rn])))=L:=⟨_,rfl⟩
 rw[hOUT]
 have HOUT:=Lib.hid hOUT
 clear hOUT
 have C1:=Lib.hid (u8c_u8b hty)
 have C2:=Lib.hid (u8c_u8b htn)
 unfold lgc
 obtain⟨w0,hw0⟩:∃W,w.alloc (.cells #[.int .u8 (ty:Int),.string (sb fi),.string (sb ce),.int .u8 (tn:Int),.bool ov,.int .i64 cr,.int .i64 ds,.int .i64 ra,.int .i64 th,.int .i64 lo,.int .i64 hi,.int .i64 sp,.int .i64 rn] 65)=W:=⟨_,rfl⟩
 obtain⟨q,hq⟩:∃q,w.heap.size=q:=⟨_,rfl⟩
 have B0:Hid (Below w.heap.size w w0):=by rw[←hw0];exact(Below.refl _ _).alloc (Nat.le_refl _) _
 have X0:Hid (Bx q #[.int .u8 (ty:Int),.string (sb fi),.string (sb ce),.int .u8 (tn:Int),.bool ov,.int .i64 cr,.int .i64 ds,.int .i64 ra,.int .i64 th,.int .i64 lo,.int .i64 hi,.int .i64 sp,.int .i64 rn] 65 w0):=by rw[←hw0,←hq];exact Bx.last w _ _
 have hqg:q≠g:=by have:=h.bx.lt;omega
 have R0:=Lib.hid (h.below B0.out)
 have HW0:=Lib.hid hw0
 have HQ:=Lib.hid hq
 have HNN:=Lib.hid hNN
 clear hw0 hq h hN hNN hfi hce hty htn HB
 have x0:=X0.out.cell 0 (u:=.int .u8 (ty:Int)) rfl
 have x4:=X0.out.cell 4 (u:=.bool ov) rfl
 have xl:=X0.out.lt
 go_enter Tryz.func81,Tryz.ntmps81
 go_upto_region 1 with fail
 rw[HW0.out,HQ.out]
 clear HW0 HQ
 obtain⟨O,hO⟩:∃o:Int,(if ov=true then (1:Int) else 0)=o:=⟨_,rfl⟩
 have HO:=Lib.hid hO
 clear hO
 go_upto_if 6 with (fail)
 go_cut [4] (fun u wx=>u=.int .u8 O∧Hid (wx=w0))
 case first =>
  cases ov
  ·obtain rfl:0=O:=HO.out
   go_wp2
   go_meet
   exact⟨rfl,rfl⟩
  ·obtain rfl:1=O:=HO.out
   go_wp2
   go_meet
   exact⟨rfl,rfl⟩
 case rest =>
 obtain⟨rfl,hwx⟩:=hcut
 obtain rfl:=hwx.out
 clear hwx x4
 go_wp2_with fail
 refine(wbytesC [u8b ty] [.int .u8 (ty:Int)] 1 (by rw[List.map_cons,List.map_nil,C1.out]) rfl (by decide) _ R0.out (by have:=HNN.out;simp only[List.length_cons,List.length_nil];omega)).mono ?_
 rintro e w1 ⟨rfl,v1,k1⟩
 have T1:=Lib.hid k1
 have X1:=Lib.hid (k1.box R0.out X0.out (by decide) hqg)
 clear k1 X0 x0 xl
 have x1:=X1.out.cell 1 (u:=.string (sb fi)) rfl
 have x2:=X1.out.cell 2 (u:=.string (sb ce)) rfl
 have xl:=X1.out.lt
 go_wp2_with fail
 refine(wtextC [sb fi,sb ce] 2 rfl _ T1.out.r (by have:=HNN.out;simp only[List.length_append,List.length_cons,List.length_nil];omega)).mono ?_
 rintro e w2 ⟨rfl,v2,k2⟩
 have X2:=Lib.hid (k2.box T1.out.r X1.out (by decide) hqg)
 have T2:=Lib.hid (T1.out.then_ k2)
 clear k2 T1 X1 x1 x2 xl
 have x3:=X2.out.cell 3 (u:=.int .u8 (tn:Int)) rfl
 have xl:=X2.out.lt
 have HOV:Hid ([u8b tn,if ov then 1 else 0].map u8c=[.int .u8 (tn:Int),.int .u8 O]):=by
  unfold Hid;rw[List.map_cons,C2.out,←HO.out];cases ov <;> rfl
 go_wp2_with fail
 refine(wbytesC [u8b tn,if ov then 1 else 0] [.int .u8 (tn:Int),.int .u8 O] 2 HOV.out rfl (by decide) _ T2.out.r (by have:=HNN.out;simp only[List.length_append,List.length_cons,List.length_nil];omega)).mono ?_
 rintro e w3 ⟨rfl,v3,k3⟩
 have X3:=Lib.hid (k3.box T2.out.r X2.out (by decide) hqg)
 have T3:=Lib.hid (T2.out.then_ k3)
 clear k3 T2 X2 x3 xl HOV
 have x5:=X3.out.cell 5 (u:=.int .i64 cr) rfl
 have x6:=X3.out.cell 6 (u:=.int .i64 ds) rfl
 have x7:=X3.out.cell 7 (u:=.int .i64 ra) rfl
 have x8:=X3.out.cell 8 (u:=.int .i64 th) rfl
 have x9:=X3.out.cell 9 (u:=.int .i64 lo) rfl
 have x10:=X3.out.cell 10 (u:=.int .i64 hi) rfl
 have x11:=X3.out.cell 11 (u:=.int .i64 sp) rfl
 have x12:=X3.out.cell 12 (u:=.int .i64 rn) rfl
 have xl:=X3.out.lt
 go_wp2_with fail
 refine(wnumbersC [cr,ds,ra,th,lo,hi,sp,rn] 8 rfl _ T3.out.r (by have:=HNN.out;simp only[List.length_append,List.length_cons,List.length_nil];omega) (by decide)).mono ?_
 rintro e w4 ⟨rfl,v4,k4⟩
 have T4:=Lib.hid (WrTo.of_below B0.out (T3.out.then_ k4))
 clear k4 T3 X3 x5 x6 x7 x8 x9 x10 x11 x12 xl
 go_wp2
 go_end0
 exact⟨rfl,v4,by rw[←HOUT.out];simpa only[List.append_assoc] using T4.out⟩
end Go.Proofs.YtgmehlgfilpleaaGreatDoor
