/-
  Several texts as one.
-/
import Derived.Test.YtgmehlgfilpleaaGreatDoorTrigW
import Derived.StillTailTactics
import Derived.Test.YtgmehlgfilpleaaGreatDoorShelf2
import Derived.Deep.LoopGhost
import Derived.Lib.ItoaNum
import Derived.Deep.RegionHeld3
import Derived.Deep.CutBlock
import Derived.StillTail
import Derived.Deep.Quiet
namespace Go.Proofs.YtgmehlgfilpleaaGreatDoor
open Go.RowKit
set_option linter.unusedVariables false
set_option linter.unusedSimpArgs false

def NumBox (w:World) (b:Nat) (x:Int):Prop:=w.cell? ⟨b,0,none⟩=some (.int .i64 x)∧b<w.heap.size
theorem NumBox.below {w w':World} {b:Nat} {x:Int} (h:NumBox w b x) (hb:Below w.heap.size w w'):NumBox w' b x:=⟨(hb.cell (p:=⟨b,0,none⟩) h.2).trans h.1,Nat.lt_of_lt_of_le h.2 hb.size⟩
def AtPost (r:Int) (w:World) (e:Ending) (w':World):Prop:=e=.returned (.tuple #[.int .i64 r,.int .i64 0])∧Below w.heap.size w w'
theorem AtPost.mk {r s:Int} {w w':World} (h:r=s) (hb:Below w.heap.size w w'):AtPost r w (.returned (.tuple #[.int .i64 s,.int .i64 0])) w':=by subst h;exact⟨rfl,hb⟩


theorem sround_any (x:Int) (w:World) (h1 : -4611686018427387904≤x) (h2:x≤4611686018427387904) :
  Calls Tryz.prog 294 #[.int .i64 x] w fun e w'=>e=.returned (.int .i64 (rnd x))∧w=w':=by
 have HR:Hid (rnd x=(x+536870912)/1073741824):=rfl
 go_enter Tryz.func294,Tryz.ntmps294
 go_wp2
 go_ret
 exact⟨ret_int HR.out.symm,rfl⟩
theorem rround_any (x:Int) (w:World) (h1 : -4611686018427387904≤x) (h2:x≤4611686018427387904) :
  Calls Tryz.prog 207 #[.int .i64 x] w fun e w'=>e=.returned (.int .i64 (rnd x))∧w=w':=by
 have HR:Hid (rnd x=(x+536870912)/1073741824):=rfl
 go_enter Tryz.func207,Tryz.ntmps207
 go_wp2
 go_ret
 exact⟨ret_int HR.out.symm,rfl⟩
def vcV (u:V3):Value:=.agg #[.int .i64 u.x,.int .i64 u.y,.int .i64 u.z]
set_option maxHeartbeats 1000000 in
theorem sdot_any (u v:V3) (w:World) (hu:u.Ok) (hv:v.Ok) :
  Calls Tryz.prog 217 #[vcV u,vcV v] w fun e w'=>e=.returned (.int .i64 (rnd (u.dot v)))∧Below w.heap.size w w':=by
 have p1:=prod_bd _ _ hu.x hv.x
 have p2:=prod_bd _ _ hu.y hv.y
 have p3:=prod_bd _ _ hu.z hv.z
 have HD:Hid (u.dot v=u.x*v.x+u.y*v.y+u.z*v.z):=rfl
 rw[HD.out]
 unfold vcV
 obtain⟨ux,uy,uz⟩:=u
 obtain⟨vx,vy,vz⟩:=v
 simp only at p1 p2 p3 ⊢
 obtain⟨a,ha⟩:∃a,ux*vx=a:=⟨_,rfl⟩
 obtain⟨b,hb⟩:∃a,uy*vy=a:=⟨_,rfl⟩
 obtain⟨c,hc⟩:∃a,uz*vz=a:=⟨_,rfl⟩
 rw[ha] at p1
 rw[hb] at p2
 rw[hc] at p3
 rw[ha,hb,hc]
 clear HD hu hv
 go_enter Tryz.func217,Tryz.ntmps217
 go_wp2_with fail
 refine(sround_any _ _ (by omega) (by omega)).mono ?_
 rintro e w' ⟨rfl,rfl⟩
 go_wp2
 go_ret
 exact⟨rfl,((Below.refl _ _).alloc (Nat.le_refl _) _).alloc (by simp) _⟩
set_option maxHeartbeats 1000000 in
theorem rdot_any (u v:V3) (w:World) (hu:u.Ok) (hv:v.Ok) :
  Calls Tryz.prog 210 #[vcV u,vcV v] w fun e w'=>e=.returned (.int .i64 (rnd (u.dot v)))∧Below w.heap.size w w':=by
 have p1:=prod_bd _ _ hu.x hv.x
 have p2:=prod_bd _ _ hu.y hv.y
 have p3:=prod_bd _ _ hu.z hv.z
 have HD:Hid (u.dot v=u.x*v.x+u.y*v.y+u.z*v.z):=rfl
 rw[HD.out]
 unfold vcV
 obtain⟨ux,uy,uz⟩:=u
 obtain⟨vx,vy,vz⟩:=v
 simp only at p1 p2 p3 ⊢
 obtain⟨a,ha⟩:∃a,ux*vx=a:=⟨_,rfl⟩
 obtain⟨b,hb⟩:∃a,uy*vy=a:=⟨_,rfl⟩
 obtain⟨c,hc⟩:∃a,uz*vz=a:=⟨_,rfl⟩
 rw[ha] at p1
 rw[hb] at p2
 rw[hc] at p3
 rw[ha,hb,hc]
 clear HD hu hv
 go_enter Tryz.func210,Tryz.ntmps210
 go_wp2_with fail
 refine(rround_any _ _ (by omega) (by omega)).mono ?_
 rintro e w' ⟨rfl,rfl⟩
 go_wp2
 go_ret
 exact⟨rfl,((Below.refl _ _).alloc (Nat.le_refl _) _).alloc (by simp) _⟩
def vldB (la lo:Int):Bool:=decide (-32400000≤la)&&decide (la≤32400000)&&decide (-64800000<lo)&&decide (lo≤64800000)
theorem sValid_any (la lo:Int) (w:World) :
  Calls Tryz.prog 60 #[.agg #[.int .i64 la,.int .i64 lo]] w fun e w'=>e=.returned (.bool (vldB la lo))∧Below w.heap.size w w':=by
 by_cases h1 : -32400000≤la
 ·by_cases h2:la≤32400000
  ·by_cases h3 : -64800000<lo
   ·by_cases h4:lo≤64800000
    ·have HV:Hid (vldB la lo=true):=by unfold Hid vldB;simp[h1,h2,h3,h4]
     go_enter Tryz.func60,Tryz.ntmps60
     go_wp2
     go_ret
     exact⟨ret_bool (by rw[HV.out]),(Below.refl _ _).alloc (Nat.le_refl _) _⟩
    ·have HV:Hid (vldB la lo=false):=by unfold Hid vldB;simp[h4]
     go_enter Tryz.func60,Tryz.ntmps60
     go_wp2
     go_ret
     exact⟨ret_bool (by rw[HV.out]),(Below.refl _ _).alloc (Nat.le_refl _) _⟩
   ·have HV:Hid (vldB la lo=false):=by unfold Hid vldB;simp[h3]
    go_enter Tryz.func60,Tryz.ntmps60
    go_wp2
    go_ret
    exact⟨ret_bool (by rw[HV.out]),(Below.refl _ _).alloc (Nat.le_refl _) _⟩
  ·have HV:Hid (vldB la lo=false):=by unfold Hid vldB;simp[h2]
   go_enter Tryz.func60,Tryz.ntmps60
   go_wp2
   go_ret
   exact⟨ret_bool (by rw[HV.out]),(Below.refl _ _).alloc (Nat.le_refl _) _⟩
 ·have HV:Hid (vldB la lo=false):=by unfold Hid vldB;simp[h1]
  go_enter Tryz.func60,Tryz.ntmps60
  go_wp2
  go_ret
  exact⟨ret_bool (by rw[HV.out]),(Below.refl _ _).alloc (Nat.le_refl _) _⟩
theorem rsValid_any (la lo:Int) (w:World) :
  Calls Tryz.prog 131 #[.agg #[.int .i64 la,.int .i64 lo]] w fun e w'=>e=.returned (.bool (vldB la lo))∧Below w.heap.size w w':=by
 by_cases h1 : -32400000≤la
 ·by_cases h2:la≤32400000
  ·by_cases h3 : -64800000<lo
   ·by_cases h4:lo≤64800000
    ·have HV:Hid (vldB la lo=true):=by unfold Hid vldB;simp[h1,h2,h3,h4]
     go_enter Tryz.func131,Tryz.ntmps131
     go_wp2
     go_ret
     exact⟨ret_bool (by rw[HV.out]),(Below.refl _ _).alloc (Nat.le_refl _) _⟩
    ·have HV:Hid (vldB la lo=false):=by unfold Hid vldB;simp[h4]
     go_enter Tryz.func131,Tryz.ntmps131
     go_wp2
     go_ret
     exact⟨ret_bool (by rw[HV.out]),(Below.refl _ _).alloc (Nat.le_refl _) _⟩
   ·have HV:Hid (vldB la lo=false):=by unfold Hid vldB;simp[h3]
    go_enter Tryz.func131,Tryz.ntmps131
    go_wp2
    go_ret
    exact⟨ret_bool (by rw[HV.out]),(Below.refl _ _).alloc (Nat.le_refl _) _⟩
  ·have HV:Hid (vldB la lo=false):=by unfold Hid vldB;simp[h2]
   go_enter Tryz.func131,Tryz.ntmps131
   go_wp2
   go_ret
   exact⟨ret_bool (by rw[HV.out]),(Below.refl _ _).alloc (Nat.le_refl _) _⟩
 ·have HV:Hid (vldB la lo=false):=by unfold Hid vldB;simp[h1]
  go_enter Tryz.func131,Tryz.ntmps131
  go_wp2
  go_ret
  exact⟨ret_bool (by rw[HV.out]),(Below.refl _ _).alloc (Nat.le_refl _) _⟩

theorem vld_bd {la lo:Int} (h:vldB la lo=true):(-32400000≤la∧la≤32400000) ∧ -64800000<lo∧lo≤64800000:=by
 unfold vldB at h
 simp only[Bool.and_eq_true,decide_eq_true_eq] at h
 exact⟨⟨h.1.1.1,h.1.1.2⟩,h.1.2,h.2⟩
theorem still0 {P:Program} {f:FuncId} {args:Array Value} {w:World} {v:Value} (h:Calls P f args w fun e w'=>e=.returned v∧w=w'):Calls P f args w fun e w'=>e=.returned v∧w'=w:=h.mono fun _ _ ⟨h1,h2⟩=>⟨h1,h2.symm⟩
theorem set3_cells {W:World} {b:Nat} {x y z X Y Z:Value} (h0:W.cell? ⟨b,0,none⟩=some x) (h1:W.cell? ⟨b,1,none⟩=some y) (h2:W.cell? ⟨b,2,none⟩=some z) :
  let W':=((W.setCell ⟨b,0,none⟩ X).setCell ⟨b,1,none⟩ Y).setCell ⟨b,2,none⟩ Z
  W'.cell? ⟨b,0,none⟩=some X∧W'.cell? ⟨b,1,none⟩=some Y∧W'.cell? ⟨b,2,none⟩=some Z:=by
 refine⟨?_,?_,?_⟩
 ·rw[World.cell?_setCell_other _ _ _ _ (by simp),World.cell?_setCell_other _ _ _ _ (by simp)]
  exact World.cell?_setCell_same _ _ _ h0
 ·rw[World.cell?_setCell_other _ _ _ _ (by simp)]
  exact World.cell?_setCell_same _ _ _ ((World.cell?_setCell_other _ _ _ _ (by simp)).trans h1)
 ·exact World.cell?_setCell_same _ _ _ ((World.cell?_setCell_other _ _ _ _ (by simp)).trans ((World.cell?_setCell_other _ _ _ _ (by simp)).trans h2))
set_option maxRecDepth 100000 in
set_option maxHeartbeats 4000000 in
theorem of_any (la lo:Int) (w:World) (h:vldB la lo=true) :
  Calls Tryz.prog 216 #[.agg #[.int .i64 la,.int .i64 lo]] w fun e w'=>e=.returned (vcV (vecOf la lo))∧Below w.heap.size w w':=by
 have hb:=vld_bd h
 have p1:=prod_bd _ _ (cosZ_bd la) (cosZ_bd lo)
 have p2:=prod_bd _ _ (cosZ_bd la) (sinZ_bd lo)
 have HV:Hid (vcV (vecOf la lo)=.agg #[.int .i64 (rnd (cosZ la*cosZ lo)),.int .i64 (rnd (cosZ la*sinZ lo)),.int .i64 (sinZ la)]):=rfl
 have t1:=fun w=>tCos_any la w (by omega) (by omega)
 have t2:=fun w=>tCos_any lo w (by omega) (by omega)
 have t3:=fun w=>tSin_any la w (by omega) (by omega)
 have t4:=fun w=>tSin_any lo w (by omega) (by omega)
 have r1:=fun w=>sround_any (cosZ la*cosZ lo) w (by omega) (by omega)
 have r2:=fun w=>sround_any (cosZ la*sinZ lo) w (by omega) (by omega)
 have hw1:IntKind.i64.wrap (cosZ la*cosZ lo)=cosZ la*cosZ lo:=by rw[IntKind.wrap_i64];omega
 have hw2:IntKind.i64.wrap (cosZ la*sinZ lo)=cosZ la*sinZ lo:=by rw[IntKind.wrap_i64];omega
 rw[HV.out]
 obtain⟨cl,hcl⟩:∃c,cosZ la=c:=⟨_,rfl⟩
 obtain⟨co,hco⟩:∃c,cosZ lo=c:=⟨_,rfl⟩
 obtain⟨sl,hsl⟩:∃c,sinZ la=c:=⟨_,rfl⟩
 obtain⟨so,hso⟩:∃c,sinZ lo=c:=⟨_,rfl⟩
 rw[hcl,hco] at p1 r1 hw1
 rw[hcl,hso] at p2 r2 hw2
 rw[hcl] at t1
 rw[hco] at t2
 rw[hsl] at t3
 rw[hso] at t4
 rw[hcl,hco,hsl,hso]
 clear hcl hco hsl hso HV h hb
 obtain⟨W2,hW2⟩:∃W2,(w.alloc (.cells #[.int .i64 la,.int .i64 lo] 23)).alloc (.cells #[.int .i64 0,.int .i64 0,.int .i64 0] 106)=W2:=⟨_,rfl⟩
 have HB:Hid (Below w.heap.size w W2):=by rw[←hW2];exact((Below.refl _ _).alloc (Nat.le_refl _) _).alloc (by simp) _
 have c0:W2.cell? ⟨w.heap.size,0,none⟩=some (.int .i64 la):=by rw[←hW2];simp[go_sem]
 have c1:W2.cell? ⟨w.heap.size,1,none⟩=some (.int .i64 lo):=by rw[←hW2];simp[go_sem]
 have d0:W2.cell? ⟨w.heap.size+1,0,none⟩=some (.int .i64 0):=by rw[←hW2];simp[go_sem]
 have d1:W2.cell? ⟨w.heap.size+1,1,none⟩=some (.int .i64 0):=by rw[←hW2];simp[go_sem]
 have d2:W2.cell? ⟨w.heap.size+1,2,none⟩=some (.int .i64 0):=by rw[←hW2];simp[go_sem]
 have f0:W2.frozen? ⟨w.heap.size+1,0,none⟩=false:=by rw[←hW2];simp[go_sem]
 have f1:W2.frozen? ⟨w.heap.size+1,1,none⟩=false:=by rw[←hW2];simp[go_sem]
 have f2:W2.frozen? ⟨w.heap.size+1,2,none⟩=false:=by rw[←hW2];simp[go_sem]
 have s2:=fun W=>still0 (t2 W)
 have s3:=fun W=>still0 (t3 W)
 have s4:=fun W=>still0 (t4 W)
 have q1:=fun W=>still0 (r1 W)
 have q2:=fun W=>still0 (r2 W)
 go_enter Tryz.func216,Tryz.ntmps216
 go_wp2_with fail
 refine(t1 _).mono ?_
 rintro e w1 ⟨rfl,rfl⟩
 go_wp2_with fail
 try rw[hW2]
 have e0:W2.drew.cell? ⟨w.heap.size,0,none⟩=some (.int .i64 la):=c0
 have e1:W2.drew.cell? ⟨w.heap.size,1,none⟩=some (.int .i64 lo):=c1
 obtain⟨W3,hW3⟩:∃W3,W2.drew=W3:=⟨_,rfl⟩
 rw[hW3] at e0 e1
 refine wp_region_still_tail 16 (by kernel_rfl) (by kernel_rfl) ?_
 simp only[List.take_succ_cons,List.take_zero,List.drop_succ_cons,List.drop_zero]
 change wpStill _ _ W2.drew _ _ _
 rw[hW3]
 repeat still_step
 still_call (s2 _)
 repeat still_step
 still_call (q1 _)
 repeat still_step
 still_call (s4 _)
 repeat still_step
 still_call (q2 _)
 repeat still_step
 still_call (s3 _)
 repeat still_step
 refine wpStill_nil ?_
 change wpList _ _ _ _ _ W2.drew
 have g0:W2.drew.cell? ⟨w.heap.size+1,0,none⟩=some (.int .i64 0):=d0
 have g1:W2.drew.cell? ⟨w.heap.size+1,1,none⟩=some (.int .i64 0):=d1
 have g2:W2.drew.cell? ⟨w.heap.size+1,2,none⟩=some (.int .i64 0):=d2
 have k0:W2.drew.frozen? ⟨w.heap.size+1,0,none⟩=false:=f0
 have k1:W2.drew.frozen? ⟨w.heap.size+1,1,none⟩=false:=f1
 have k2:W2.drew.frozen? ⟨w.heap.size+1,2,none⟩=false:=f2
 have HBd:Hid (Below w.heap.size w W2.drew):=HB.out.drew
 clear hW2 c0 c1 d0 d1 d2 f0 f1 f2 hW3 HB
 generalize W2.drew=W4 at *
 go_wp2
 have HB5:Hid (Below w.heap.size w (((W4.setCell ⟨w.heap.size+1,0,none⟩ (.int .i64 (rnd (cl*co)))).setCell ⟨w.heap.size+1,1,none⟩ (.int .i64 (rnd (cl*so)))).setCell ⟨w.heap.size+1,2,none⟩ (.int .i64 sl))) :=
  ((HBd.out.setCell (by simp) _).setCell (by simp) _).setCell (by simp) _
 obtain⟨x0,x1,x2⟩:=set3_cells (X:=.int .i64 (rnd (cl*co))) (Y:=.int .i64 (rnd (cl*so))) (Z:=.int .i64 sl) g0 g1 g2
 generalize ((W4.setCell ⟨w.heap.size+1,0,none⟩ (.int .i64 (rnd (cl*co)))).setCell ⟨w.heap.size+1,1,none⟩ (.int .i64 (rnd (cl*so)))).setCell ⟨w.heap.size+1,2,none⟩ (.int .i64 sl)=W5 at HB5 x0 x1 x2 ⊢
 refine bodyPost_ret (by simp[results,Tryz.results216,go_sem,x0,x1,x2];try rfl) rfl ?_
 exact⟨rfl,HB5.out⟩
set_option maxRecDepth 100000 in
set_option maxHeartbeats 4000000 in
theorem rOf_ok (la lo:Int) (w:World) (h:vldB la lo=true) :
  Calls Tryz.prog 205 #[.agg #[.int .i64 la,.int .i64 lo]] w fun e w'=>e=.returned (.tuple #[vcV (vecOf la lo),.int .i64 0])∧Below w.heap.size w w':=by
 have hb:=vld_bd h
 have p1:=prod_bd _ _ (cosZ_bd la) (cosZ_bd lo)
 have p2:=prod_bd _ _ (cosZ_bd la) (sinZ_bd lo)
 have HV:Hid (vcV (vecOf la lo)=.agg #[.int .i64 (rnd (cosZ la*cosZ lo)),.int .i64 (rnd (cosZ la*sinZ lo)),.int .i64 (sinZ la)]):=rfl
 have t1:=fun w=>rtCos_any la w (by omega) (by omega)
 have t2:=fun w=>rtCos_any lo w (by omega) (by omega)
 have t3:=fun w=>rtSin_any la w (by omega) (by omega)
 have t4:=fun w=>rtSin_any lo w (by omega) (by omega)
 have r1:=fun w=>rround_any (cosZ la*cosZ lo) w (by omega) (by omega)
 have r2:=fun w=>rround_any (cosZ la*sinZ lo) w (by omega) (by omega)
 have hw1:IntKind.i64.wrap (cosZ la*cosZ lo)=cosZ la*cosZ lo:=by rw[IntKind.wrap_i64];omega
 have hw2:IntKind.i64.wrap (cosZ la*sinZ lo)=cosZ la*sinZ lo:=by rw[IntKind.wrap_i64];omega
 have hv:=fun w=>rsValid_any la lo w
 rw[HV.out]
 rw[h] at hv
 obtain⟨cl,hcl⟩:∃c,cosZ la=c:=⟨_,rfl⟩
 obtain⟨co,hco⟩:∃c,cosZ lo=c:=⟨_,rfl⟩
 obtain⟨sl,hsl⟩:∃c,sinZ la=c:=⟨_,rfl⟩
 obtain⟨so,hso⟩:∃c,sinZ lo=c:=⟨_,rfl⟩
 rw[hcl,hco] at p1 r1 hw1
 rw[hcl,hso] at p2 r2 hw2
 rw[hcl] at t1
 rw[hco] at t2
 rw[hsl] at t3
 rw[hso] at t4
 rw[hcl,hco,hsl,hso]
 clear hcl hco hsl hso HV h hb
 obtain⟨W2,hW2⟩:∃W2,(w.alloc (.cells #[.int .i64 la,.int .i64 lo] 23)).alloc (.cells #[.int .i64 0,.int .i64 0,.int .i64 0] 106)=W2:=⟨_,rfl⟩
 have HB:Hid (Below w.heap.size w W2):=by rw[←hW2];exact((Below.refl _ _).alloc (Nat.le_refl _) _).alloc (by simp) _
 have HC:Hid (W2.cell? ⟨w.heap.size,0,none⟩=some (.int .i64 la)∧W2.cell? ⟨w.heap.size,1,none⟩=some (.int .i64 lo) ∧
   W2.cell? ⟨w.heap.size+1,0,none⟩=some (.int .i64 0)∧W2.cell? ⟨w.heap.size+1,1,none⟩=some (.int .i64 0)∧W2.cell? ⟨w.heap.size+1,2,none⟩=some (.int .i64 0) ∧
   W2.frozen? ⟨w.heap.size+1,0,none⟩=false∧W2.frozen? ⟨w.heap.size+1,1,none⟩=false∧W2.frozen? ⟨w.heap.size+1,2,none⟩=false∧w.heap.size+1<W2.heap.size):=by rw[←hW2];unfold Hid;simp[go_sem]
 have c0:=HC.out.1
 have c1:=HC.out.2.1
 have s2:=fun W=>still0 (t2 W)
 have s3:=fun W=>still0 (t3 W)
 have s4:=fun W=>still0 (t4 W)
 have q1:=fun W=>still0 (r1 W)
 have q2:=fun W=>still0 (r2 W)
 go_enter Tryz.func205,Tryz.ntmps205
 go_wp2_with fail
 try rw[hW2]
 refine(hv _).mono ?_
 rintro e w1 ⟨rfl,hbv⟩
 have HBV:Hid (Below w.heap.size w w1):=HB.out.trans (hbv.mono HB.out.size)
 have HC1:Hid (w1.cell? ⟨w.heap.size,0,none⟩=some (.int .i64 la)∧w1.cell? ⟨w.heap.size,1,none⟩=some (.int .i64 lo) ∧
   w1.cell? ⟨w.heap.size+1,0,none⟩=some (.int .i64 0)∧w1.cell? ⟨w.heap.size+1,1,none⟩=some (.int .i64 0)∧w1.cell? ⟨w.heap.size+1,2,none⟩=some (.int .i64 0) ∧
   w1.frozen? ⟨w.heap.size+1,0,none⟩=false∧w1.frozen? ⟨w.heap.size+1,1,none⟩=false∧w1.frozen? ⟨w.heap.size+1,2,none⟩=false):=by
  obtain⟨x0,x1,x2,x3,x4,x5,x6,x7,x8⟩:=HC.out
  have k0:∀j,w1.cell? ⟨w.heap.size,j,none⟩=W2.cell? ⟨w.heap.size,j,none⟩:=fun j=>hbv.cell (p:=⟨w.heap.size,j,none⟩) (by show w.heap.size<_;omega)
  have k1:∀j,w1.cell? ⟨w.heap.size+1,j,none⟩=W2.cell? ⟨w.heap.size+1,j,none⟩:=fun j=>hbv.cell (p:=⟨w.heap.size+1,j,none⟩) x8
  have k2:∀j,w1.frozen? ⟨w.heap.size+1,j,none⟩=W2.frozen? ⟨w.heap.size+1,j,none⟩:=fun j=>hbv.frozen (p:=⟨w.heap.size+1,j,none⟩) x8
  exact⟨(k0 _).trans x0,(k0 _).trans x1,(k1 _).trans x2,(k1 _).trans x3,(k1 _).trans x4,(k2 _).trans x5,(k2 _).trans x6,(k2 _).trans x7⟩
 clear hbv HC HB c0 c1 hW2
 have c0:=HC1.out.1
 have c1:=HC1.out.2.1
 go_wp2_with fail
 refine(t1 _).mono ?_
 rintro e w1 ⟨rfl,rfl⟩
 go_wp2_with fail
 have e0:w1.drew.cell? ⟨w.heap.size,0,none⟩=some (.int .i64 la):=c0
 have e1:w1.drew.cell? ⟨w.heap.size,1,none⟩=some (.int .i64 lo):=c1
 obtain⟨W3,hW3⟩:∃W3,w1.drew=W3:=⟨_,rfl⟩
 rw[hW3] at e0 e1
 refine wp_region_still_tail 16 (by kernel_rfl) (by kernel_rfl) ?_
 simp only[List.take_succ_cons,List.take_zero,List.drop_succ_cons,List.drop_zero]
 change wpStill _ _ w1.drew _ _ _
 rw[hW3]
 repeat still_step
 still_call (s2 _)
 repeat still_step
 still_call (q1 _)
 repeat still_step
 still_call (s4 _)
 repeat still_step
 still_call (q2 _)
 repeat still_step
 still_call (s3 _)
 repeat still_step
 refine wpStill_nil ?_
 change wpList _ _ _ _ _ w1.drew
 have g0:w1.drew.cell? ⟨w.heap.size+1,0,none⟩=some (.int .i64 0):=HC1.out.2.2.1
 have g1:w1.drew.cell? ⟨w.heap.size+1,1,none⟩=some (.int .i64 0):=HC1.out.2.2.2.1
 have g2:w1.drew.cell? ⟨w.heap.size+1,2,none⟩=some (.int .i64 0):=HC1.out.2.2.2.2.1
 have k0:w1.drew.frozen? ⟨w.heap.size+1,0,none⟩=false:=HC1.out.2.2.2.2.2.1
 have k1:w1.drew.frozen? ⟨w.heap.size+1,1,none⟩=false:=HC1.out.2.2.2.2.2.2.1
 have k2:w1.drew.frozen? ⟨w.heap.size+1,2,none⟩=false:=HC1.out.2.2.2.2.2.2.2
 have HBd:Hid (Below w.heap.size w w1.drew):=HBV.out.drew
 clear c0 c1 hW3 HBV HC1
 generalize w1.drew=W4 at *
 go_wp2
 have HB5:Hid (Below w.heap.size w (((W4.setCell ⟨w.heap.size+1,0,none⟩ (.int .i64 (rnd (cl*co)))).setCell ⟨w.heap.size+1,1,none⟩ (.int .i64 (rnd (cl*so)))).setCell ⟨w.heap.size+1,2,none⟩ (.int .i64 sl))) :=
  ((HBd.out.setCell (by simp) _).setCell (by simp) _).setCell (by simp) _
 obtain⟨x0,x1,x2⟩:=set3_cells (X:=.int .i64 (rnd (cl*co))) (Y:=.int .i64 (rnd (cl*so))) (Z:=.int .i64 sl) g0 g1 g2
 generalize ((W4.setCell ⟨w.heap.size+1,0,none⟩ (.int .i64 (rnd (cl*co)))).setCell ⟨w.heap.size+1,1,none⟩ (.int .i64 (rnd (cl*so)))).setCell ⟨w.heap.size+1,2,none⟩ (.int .i64 sl)=W5 at HB5 x0 x1 x2 ⊢
 refine bodyPost_ret (by simp[results,Tryz.results205,go_sem,x0,x1,x2];try rfl) rfl ?_
 exact⟨rfl,HB5.out⟩
def PosB (b:Nat) (la lo:Int) (w:World):Prop:=w.cell? ⟨b,0,none⟩=some (.int .i64 la)∧w.cell? ⟨b,1,none⟩=some (.int .i64 lo)
theorem PosB.below {b:Nat} {la lo:Int} {w w':World} (h:PosB b la lo w) (hb:b<w.heap.size) {B:Nat} (hbe:Below B w w') (hB:b<B):PosB b la lo w' :=
 ⟨(hbe.cell (p:=⟨b,0,none⟩) hB).trans h.1,(hbe.cell (p:=⟨b,1,none⟩) hB).trans h.2⟩
def VecB (b:Nat) (u:V3) (w:World):Prop:=w.cell? ⟨b,0,none⟩=some (.int .i64 u.x)∧w.cell? ⟨b,1,none⟩=some (.int .i64 u.y)∧w.cell? ⟨b,2,none⟩=some (.int .i64 u.z)∧b<w.heap.size
def DT (w T:World):Prop:=Below w.heap.size w T∧w.heap.size+1<T.heap.size
theorem DT.alloc {w T:World} (o:Obj) (h:DT w T):DT w (T.alloc o):=⟨h.1.alloc h.1.size o,by rw[World.size_alloc];have:=h.2;omega⟩
theorem DT.setCell {w T:World} (q:Addr) (v:Value) (hq:w.heap.size≤q.block) (h:DT w T):DT w (T.setCell q v):=⟨h.1.setCell hq v,by rw[World.size_setCell];exact h.2⟩
theorem DT.via {w T wa:World} (hb:Below T.heap.size T wa) (h:DT w T):DT w wa:=⟨Below.then_ h.1 hb,Nat.lt_of_lt_of_le h.2 hb.size⟩
theorem ds_set {w:World} {x0 x1 y0 y1:Option Value} {T:World} (q:Addr) (v:Value) (hs:w.heap.size+1<q.block) (h:T.cell? ⟨w.heap.size,0,none⟩=x0∧T.cell? ⟨w.heap.size,1,none⟩=x1∧T.cell? ⟨w.heap.size+1,0,none⟩=y0∧T.cell? ⟨w.heap.size+1,1,none⟩=y1) :
  (T.setCell q v).cell? ⟨w.heap.size,0,none⟩=x0∧(T.setCell q v).cell? ⟨w.heap.size,1,none⟩=x1∧(T.setCell q v).cell? ⟨w.heap.size+1,0,none⟩=y0∧(T.setCell q v).cell? ⟨w.heap.size+1,1,none⟩=y1:=by
 have k:∀c j,c≤w.heap.size+1→(T.setCell q v).cell? ⟨c,j,none⟩=T.cell? ⟨c,j,none⟩:=fun c j hc=>World.cell?_setCell_other _ _ _ _ (fun e=>by rw[e] at hs;simp at hs;omega)
 exact⟨(k _ _ (by omega)).trans h.1,(k _ _ (by omega)).trans h.2.1,(k _ _ (by omega)).trans h.2.2.1,(k _ _ (by omega)).trans h.2.2.2⟩
def B3 (b:Nat) (x y z:Int) (T:World):Prop:=T.cell? ⟨b,0,none⟩=some (.int .i64 x)∧T.cell? ⟨b,1,none⟩=some (.int .i64 y)∧T.cell? ⟨b,2,none⟩=some (.int .i64 z)∧T.frozen? ⟨b,0,none⟩=false∧T.frozen? ⟨b,1,none⟩=false∧T.frozen? ⟨b,2,none⟩=false∧b<T.heap.size
theorem B3.via {b:Nat} {x y z:Int} {T wa:World} (hb:Below T.heap.size T wa) (h:B3 b x y z T):B3 b x y z wa:=by
 obtain⟨h0,h1,h2,f0,f1,f2,hl⟩:=h
 exact⟨(hb.cell (p:=⟨b,0,none⟩) hl).trans h0,(hb.cell (p:=⟨b,1,none⟩) hl).trans h1,(hb.cell (p:=⟨b,2,none⟩) hl).trans h2,(hb.frozen (p:=⟨b,0,none⟩) hl).trans f0,(hb.frozen (p:=⟨b,1,none⟩) hl).trans f1,(hb.frozen (p:=⟨b,2,none⟩) hl).trans f2,Nat.lt_of_lt_of_le hl hb.size⟩
theorem B3.grow {b:Nat} {x y z:Int} {T:World} (h:B3 b x y z T) (o:Obj):B3 b x y z (T.alloc o):=B3.via ((Below.refl _ T).alloc (Nat.le_refl _) o) h
theorem B3.last (T:World) (x y z:Int) (t:TypeId):B3 T.heap.size x y z (T.alloc (.cells #[.int .i64 x,.int .i64 y,.int .i64 z] t)):=by
 have h:=heap_alloc_new T (.cells #[.int .i64 x,.int .i64 y,.int .i64 z] t)
 refine⟨?_,?_,?_,?_,?_,?_,by rw[World.size_alloc];exact Nat.lt_succ_self _⟩
 ·simp only[World.cell?,h,Option.bind_some,Bind.bind];rfl
 ·simp only[World.cell?,h,Option.bind_some,Bind.bind];rfl
 ·simp only[World.cell?,h,Option.bind_some,Bind.bind];rfl
 ·unfold World.frozen?;rw[h];simp
 ·unfold World.frozen?;rw[h];simp
 ·unfold World.frozen?;rw[h];simp
theorem B3.last2 (T:World) (o:Obj) (x y z:Int) (t:TypeId):B3 (T.heap.size+1) x y z ((T.alloc o).alloc (.cells #[.int .i64 x,.int .i64 y,.int .i64 z] t)):=by
 have:=B3.last (T.alloc o) x y z t
 rw[World.size_alloc] at this
 exact this
theorem B3.drew {b:Nat} {x y z:Int} {T:World} (h:B3 b x y z T):B3 b x y z T.drew:=h
theorem DT.drew {w T:World} (h:DT w T):DT w T.drew:=⟨h.1.drew,h.2⟩
theorem DT.bel {w T:World} (h:DT w T):Hid (Below w.heap.size w T):=h.1
theorem ds_drew {w:World} {x0 x1 y0 y1:Option Value} {T:World} (h:T.cell? ⟨w.heap.size,0,none⟩=x0∧T.cell? ⟨w.heap.size,1,none⟩=x1∧T.cell? ⟨w.heap.size+1,0,none⟩=y0∧T.cell? ⟨w.heap.size+1,1,none⟩=y1) :
  T.drew.cell? ⟨w.heap.size,0,none⟩=x0∧T.drew.cell? ⟨w.heap.size,1,none⟩=x1∧T.drew.cell? ⟨w.heap.size+1,0,none⟩=y0∧T.drew.cell? ⟨w.heap.size+1,1,none⟩=y1:=h
theorem VecB.drewN {b:Nat} {u:V3} {w:World} (h:VecB b u w) (n:Nat):VecB b u (w.drewN n):=h
structure BelBy (w:World) where
 x:World
 h:Below w.heap.size w x
instance (w:World):Inhabited (BelBy w):=⟨⟨w,Below.refl _ w⟩⟩
theorem wp_region_quiet_bel {P:Program} {id:Nat} {Q:Exit→Act→World→Prop} {a:Act} {w:World} {l:List Oper} (hm:P.follows .mixedOrders=true) (hB:Region.lexB .any l.toArray=true)
  (h:wpQuiet P l.toArray (fun w'=>∃p:BelBy w,w'=p.x) (fun a'=>∀w',(∃p:BelBy w,w'=p.x)→Q .normal a' w') l a):(Code.region id l.toArray true).wp P Q a w :=
 wp_region_quiet (C:=fun w'=>∃p:BelBy w,w'=p.x) hm hB ⟨⟨w.drew,(Below.refl _ w).drew⟩,rfl⟩ (by simpa using h)
theorem Calls.bel_of {P:Program} {f:FuncId} {args:Array Value} {w:World} {p:BelBy w} {v:Value}
  (h:Calls P f args p.x fun e w'=>e=.returned v∧Below p.x.heap.size p.x w'):Calls P f args p.x fun e w''=>e=.returned v∧∃q:BelBy w,w''=q.x :=
 h.mono fun _ _ ⟨he,hb⟩=>⟨he,⟨⟨_,Below.then_ p.h hb⟩,rfl⟩⟩
theorem VecB.by {b:Nat} {u:V3} {w:World} (h:VecB b u w):∀p:BelBy w,p.x.cell? ⟨b,0,none⟩=some (.int .i64 u.x)∧p.x.cell? ⟨b,1,none⟩=some (.int .i64 u.y)∧p.x.cell? ⟨b,2,none⟩=some (.int .i64 u.z):=fun p =>
 ⟨(p.h.cell (p:=⟨b,0,none⟩) h.2.2.2).trans h.1,(p.h.cell (p:=⟨b,1,none⟩) h.2.2.2).trans h.2.1,(p.h.cell (p:=⟨b,2,none⟩) h.2.2.2).trans h.2.2.1⟩
end Go.Proofs.YtgmehlgfilpleaaGreatDoor
namespace Go.Proofs.YtgmehlgfilpleaaGreatDoor
open Go Go.RowKit
set_option linter.unusedVariables false
set_option linter.unusedSimpArgs false
section
variable {P:Program} {ops:Array Oper} {md:Region.Mode} {C:World→Prop}
def anyHead (P:Program) (md:Region.Mode) (ops:Array Oper) (C:World→Prop) (n:Nat) (L:Array Bool→Act→Prop):Nat→Array Bool→Act→Prop
 | 0,ls,a=>L ls a
 | f+1,ls,a=>Region.ready md ops ls≠[]∧∀i∈Region.ready md ops ls,i<n∧qOp P ops C i (anyHead P md ops C n L f (ls.setIfInBounds i true)) a
theorem any_of_head {n g:Nat} {L:Array Bool→Act→Prop} {Q':Exit→Act→World→Prop} (hL:∀ls a w,C w→L ls a→wpAny P md ops Q' g ls a w) :
  ∀(f:Nat) (ls:Array Bool) (a:Act) (w:World),C w→anyHead P md ops C n L f ls a→wpAny P md ops Q' (f+g) ls a w:=by
 intro f
 induction f with
 | zero=>intro ls a w hw h;rw[Nat.zero_add];exact hL _ _ _ hw h
 | succ f ih =>
  intro ls a w hw h
  rw[show f+1+g=(f+g)+1 by omega]
  exact⟨fun h0=>absurd h0 h.1,fun i hi=>wpOp_of_qOp hw (fun a' w' hw' hh=>ih _ a' w' hw' hh) (h.2 i hi).2⟩
theorem head_first {n i:Nat} {oi:Oper} {v:Value} {L:Array Bool→Act→Prop} (hi:ops[i]? = some oi) (hsel:∀(j:Nat) (o:Oper) cs b,ops[j]? = some o→o.op ≠ .select cs b)
  (hs:Region.sinkB md ops n=true) (hc:Region.chainB md ops n=true) (hn:n<ops.size) (hin:i<n)
  (hdone:∀ls a,L ls a→∀j∈Region.ready md ops ls,n≤j) :
  ∀(f:Nat) (ls:Array Bool) (a:Act),HeadInv md ops n ls →
   (∀j oj,ops[j]? = some oj→j≠i→ls.getD j true=false→(∀e∈oj.after,Region.binds md e=true→e.on≠i)→oi.apart ops oj=true) →
   i∈Region.ready md ops ls→YieldsIn P ops C oi v a →
   anyHead P md ops C n L f (ls.setIfInBounds i true) (a.put oi.dst v)→anyHead P md ops C n L (f+1) ls a:=by
 have low:∀(ls:Array Bool),HeadInv md ops n ls→i∈Region.ready md ops ls→∀j∈Region.ready md ops ls,j<n:=fun ls inv hr j hj=>by
  rcases Nat.lt_or_ge j n with h|h
  ·exact h
  ·exact absurd hj (tail_waits hs hc hn inv _ i rfl hin (mem_ready.1 hr).1 j h)
 intro f
 induction f with
 | zero =>
  intro ls a inv _ hr hy H
  refine⟨fun h=>(by rw[h] at hr;cases hr),fun j hj=>⟨low ls inv hr j hj,?_⟩⟩
  by_cases hji:j=i
  ·subst hji;exact hy.qOp hi H
  ·have h1:=hdone _ _ H j (ready_mono hj hji)
   have h2:=low ls inv hr j hj
   omega
 | succ f ih =>
  intro ls a inv hfree hr hy H
  have hun:=(mem_ready.1 hr).1
  refine⟨fun h=>(by rw[h] at hr;cases hr),fun j hj => ?_⟩
  have hjn:=low ls inv hr j hj
  refine⟨hjn,?_⟩
  by_cases hji:j=i
  ·subst hji;exact hy.qOp hi H
  ·have h1:=(H.2 j (ready_mono hj hji)).2
   obtain⟨hjun,oj,hoj,hall⟩:=mem_ready.1 hj
   have hnot:∀e∈oj.after,Region.binds md e=true→e.on≠i:=fun e he hb heq=>by
    have h1:=hall e he hb
    rw[heq,getD_both hun] at h1
    cases h1
   have h2:=qOp_put hoj (hfree j oj hoj hji hjun hnot) (fun cs b=>hsel i oi cs b hi) (fun cs b=>hsel j oj cs b hoj) hy h1
   have hfree':∀k ok,ops[k]? = some ok→k≠i→(ls.setIfInBounds j true).getD k true=false →
     (∀e∈ok.after,Region.binds md e=true→e.on≠i)→oi.apart ops ok=true:=fun k ok hk hki hun hno=>by
    refine hfree k ok hk hki ?_ hno
    by_cases hjk:j=k
    ·subst hjk;exact hjun
    ·rw[getD_set_ne true hjk] at hun;exact hun
   refine qOp_mono (fun a' h3=>ih (ls.setIfInBounds j true) a' (inv.set hj hjn) hfree' (ready_mono hr (Ne.symm hji)) h3.1 ?_) h2
   rw[Array.setIfInBounds_comm _ _ hji]
   exact h3.2
theorem head_lex {n g:Nat} {Lq:Act→Prop} (hsel:Region.noSelect ops=true) (hs:Region.sinkB md ops n=true) (hc:Region.chainB md ops n=true) (hn:n<ops.size) :
  ∀(l:List Oper) (k:Nat) (ls:Array Bool) (a:Act),(∀j,j<l.length→l[j]? = ops[k+j]?)→k+l.length=n→HeadInv md ops n ls →
  Region.lexHead md ops g l.length k ls=true→wpQuiet P ops C Lq l a →
  anyHead P md ops C n (fun ls' a'=>Region.seqB md ops g n ls'=true∧Lq a') l.length ls a:=by
 intro l
 induction l with
 | nil =>
  intro k ls a hl hk _ hB h
  have hkn:k=n:=by simpa using hk
  subst hkn
  exact⟨by simpa [Region.lexHead] using hB,h⟩
 | cons o l ih =>
  intro k ls a hl hk inv hB h
  have h0:ops[k]? = some o:=by simpa using (hl 0 (by simp)).symm
  simp only[List.length_cons,Region.lexHead,Bool.and_eq_true] at hB
  obtain⟨⟨hr,hf⟩,hB'⟩:=hB
  have hkn:k<n:=by simp only[List.length_cons] at hk;omega
  have hr':k∈Region.ready md ops ls:=by simpa using hr
  have hst:qOp P ops C k (wpQuiet P ops C Lq l) a:=by unfold qOp;simp only[h0];exact h
  obtain⟨v,hy,hK⟩:=yieldsIn_of_qOp h0 hst
  exact head_first h0 (Region.noSelect_spec hsel) hs hc hn hkn (fun ls' a' hL=>seqB_ready hL.1) l.length ls a inv (Region.free_spec h0 hf) hr' hy
   (ih (k+1) _ _ (fun j hj=>by have:=hl (j+1) (by simp;omega);simpa [Nat.add_assoc,Nat.add_comm 1 j] using this) (by simp only[List.length_cons] at hk;omega) (inv.set hr' hkn) hB' hK)
theorem wp_region_quiet_tail {id:Nat} {Q:Exit→Act→World→Prop} {a:Act} {w:World} {l:List Oper} (n:Nat) (hm:P.follows .mixedOrders=true) (hB:Region.lexTailB .any l.toArray n=true) (hC:C {w with drawn:=w.drawn+1})
  (h:wpQuiet P l.toArray C (fun a'=>∀w',C w'→wpList P l.toArray Q (l.drop n) a' w') (l.take n) a):(Code.region id l.toArray true).wp P Q a w:=by
 simp only[Region.lexTailB,Bool.and_eq_true,decide_eq_true_eq] at hB
 obtain⟨⟨⟨⟨hsel,hn⟩,hs⟩,hc⟩,hlex⟩:=hB
 have hn':n<l.length:=by simpa using hn
 have htl:(l.take n).length=n:=by simp;omega
 have hdl:(l.drop n).length=l.toArray.size-n:=by simp
 have inv0:HeadInv .any l.toArray n (Array.replicate l.toArray.size false) :=
  ⟨by simp,fun j oj _ hl=>(by rw[getD_replicate_false] at hl;cases hl),fun t _ ht=>getD_in (by simpa using ht) (getD_replicate_false _ _)⟩
 have H:=head_lex (C:=C) (md:=.any) (g:=l.toArray.size-n) hsel hs hc hn (l.take n) 0 _ a (fun j hj=>by
  have hj':j<n:=by rw[htl] at hj;exact hj
  simp[hj']) (by simpa using htl) inv0 (by rw[htl];exact hlex) h
 refine wp_region_any hm ?_
 have:=any_of_head (Q':=Q) (g:=l.toArray.size-n) (fun ls a' w' hw' hL=>by
  have:=wpAny_of_seq (md:=.any) (Q':=Q) (l.drop n) n ls a' w' (fun j=>by simp[List.getElem?_drop]) (by rw[hdl];exact hL.1) (hL.2 w' hw')
  rwa [hdl] at this) _ _ _ _ hC H
 rw[htl,show n+(l.toArray.size-n)=l.toArray.size by omega] at this
 exact this
theorem wp_region_bel_tail {id:Nat} {Q:Exit→Act→World→Prop} {a:Act} {w:World} {l:List Oper} (n:Nat) (hm:P.follows .mixedOrders=true) (hB:Region.lexTailB .any l.toArray n=true)
  (h:wpQuiet P l.toArray (fun w'=>∃p:BelBy w,w'=p.x) (fun a'=>∀w',(∃p:BelBy w,w'=p.x)→wpList P l.toArray Q (l.drop n) a' w') (l.take n) a):(Code.region id l.toArray true).wp P Q a w :=
 wp_region_quiet_tail (C:=fun w'=>∃p:BelBy w,w'=p.x) n hm hB ⟨⟨w.drew,(Below.refl _ w).drew⟩,rfl⟩ h
end
end Go.Proofs.YtgmehlgfilpleaaGreatDoor
