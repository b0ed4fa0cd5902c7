/-
  RTellR1: what else. RArgs: what else. RHelp: what else. The reference's Leads. The reference's All. SSetH: what else. Decide: the reference's Within and Short. Package decide: list, operation, short. Package decide: short; the look for a word that is reached.
-/
import Derived.Test.YthdfplafihmejaaGreatZtCLike
import Derived.Test.YthdfplafihmejaaGreatZtBaseZ
import Derived.Test.YthdfplafihmejaaGreatZtRRefAZ
import Derived.Test.YthdfplafihmejaaGreatZtCMap
import Derived.Test.YthdfplafihmejaaGreatZtVPlain2
import Derived.Test.YthdfplafihmejaaGreatZtAEnt
import Derived.Test.YthdfplafihmejaaGreatZtVPlain
import Derived.Test.YthdfplafihmejaaGreatZtUPlain
import Derived.Test.YthdfplafihmejaaGreatZtURun
import Derived.Test.YthdfplafihmejaaGreatZtCSort
import Derived.Test.YthdfplafihmejaaGreatZtUBack
namespace Go.Proofs.YthdfplafihmejaaGreat
open Go.RowKit Go.Maps
section
variable {w:World} {v:Value} {R:List zF} {s:ByteArray} {b:Int}
theorem zeb (hA:zbA w v R s) (h47:xt R) (hs:s.size<=140737488355328) {k:Int} (h:zH R s b=k) (hk:k≠0):Calls Tryz.prog 48 #[v,.string s,.int .i64 b] w (ziZ w k):=by
 unfold zH at h;by_cases h1:yI (Zp s.data.toList) b R.length=0
 ·rw [if_pos h1] at h
  have h2:zdz R s b=none:=by
   cases h2:zdz R s b with
   | none=>rfl
   | some r=>rw [h2] at h;simp at h;exact absurd h.symm hk
  rw [if_pos h2] at h;subst h;obtain ⟨m1,m2,m3,m4⟩:=ZE h1;obtain ⟨n,rfl⟩:∃ n:Nat,b=n:=⟨b.toNat,by omega⟩;refine (zg1 w v R s n hA.rules h47 m4 m1 (by omega) (by omega)).mono fun e w' h=>?_;unfold zdz at h2;rw [Int.toNat_natCast] at h2;exact h.2 h2
 ·rw [if_neg h1] at h
  obtain ⟨la,cap,rfl,q1,q2⟩:=hA.rules;rw [<- h];exact zlX w la R.length cap s b hs q1 h1
theorem zdA (hA:zbA w v R s) (h47:xt R) (h:zH R s b=0) {r:List Ent} (hr:zdz R s b=some r):Calls Tryz.prog 48 #[v,.string s,.int .i64 b] w (zjN w r):=by
 obtain ⟨h1,_⟩:=Zb h;obtain ⟨m1,m2,m3,m4⟩:=ZE h1;obtain ⟨n,rfl⟩:∃ n:Nat,b=n:=⟨b.toNat,by omega⟩;refine (zg1 w v R s n hA.rules h47 m4 m1 (by omega) (by omega)).mono fun e w' h=>?_;unfold zdz at hr;rw [Int.toNat_natCast] at hr;exact h.1 r hr
end
section
variable {w:World} {v:Value} {R:List zF} {s:ByteArray} {b:Int}
set_option maxRecDepth 100000 in
theorem zki (hA:zbA w v R s) (h47:xt R) (hs:s.size<=140737488355328) (t:ByteArray) {k:Int} (h:zH R s b=k) (hk:k≠0):Calls Tryz.prog 37 #[v,.string s,.string t,.int .i64 b] w fun e w'=>e=.returned (.tuple #[.bool false,.int .i64 k])∧Chg (fun _=>False) w w':=by
 have W:=ze (zeb hA h47 hs h hk);have g:(k != 0)=true:=by rw [zre];exact hk
 obtain ⟨la,cap,rfl,_,_⟩:=hA.rules;clear hA h hk;go_enter Tryz.func37,Tryz.ntmps37;go_wp2_with fail;(with_reducible refine W.out.mono ?_);rintro e w' ⟨rfl,kc⟩;go_wp2;go_ret2;exact ⟨rfl,kc⟩
theorem zf8 (r:List Ent) (u:Wd):decide (0<=Xo r u)=decide (u∈zv r):=by
 unfold Xo;by_cases h:u∈zv r
 ·rw [if_pos h,zqY h,decide_eq_true_eq];omega
 ·rw [if_neg h,zqZ h];rfl
set_option maxRecDepth 100000 in
theorem zlU (hA:zbA w v R s) (h47:xt R) (t:ByteArray) (h:zH R s b=0) {r:List Ent} (hr:zdz R s b=some r):Calls Tryz.prog 37 #[v,.string s,.string t,.int .i64 b] w fun e w'=>e=.returned (.tuple #[.bool (decide (t.data.toList∈zv r)),.int .i64 0])∧Chg (fun _=>False) w w':=by
 have W:=ze (zdA hA h47 h hr);obtain ⟨h1,_⟩:=Zb h;obtain ⟨m1,m2,m3,m4⟩:=ZE h1;obtain ⟨s1,s2,s3⟩:=XG (by omega) hr;obtain ⟨la,cap,rfl,_,_⟩:=hA.rules;have hrl:r.length<=5000:=by omega
 have PN:=ze (zf8 r t.data.toList)
 have PB:-9223372036854775808<=Xo r t.data.toList∧Xo r t.data.toList<=9223372036854775807:=by
  unfold Xo;split
  ·have:(zv r).idxOf t.data.toList<=(zv r).length:=List.idxOf_le_length
   rw [Zm] at this;omega
  ·omega
 have PLA:=ze (fun w' base bb lv fv bv (hX:zb2 w' base bb lv fv bv r r r)=>zbj w' base bb lv fv bv r r r t hX (by omega));clear hA h hr h1 m1 m2 m3 m4 s1 s2 s3;generalize Xo r t.data.toList=pi at *;generalize decide (t.data.toList∈zv r)=db at *;obtain ⟨pb1,pb2⟩:=PB;go_enter Tryz.func37,Tryz.ntmps37;go_wp2_with fail;(with_reducible refine W.out.mono ?_);rintro e w' ⟨bb,rfl,⟨lv,fv,bv,hX⟩,kc⟩;have PL:=ze (PLA.out _ _ _ _ _ _ hX);clear hX PLA;go_wp2_with fail;(with_reducible refine PL.out.mono ?_);rintro e w2 ⟨rfl,rfl⟩;go_wp2;go_ret2;exact ⟨by rw [<- PN.out];rfl,kc⟩
theorem zfl (hA:zbA w v R s) (h47:xt R) (hs:s.size<=140737488355328) (t:ByteArray):Calls Tryz.prog 37 #[v,.string s,.string t,.int .i64 b] w fun e w'=>e=.returned (.tuple #[.bool (Xk R s t b),.int .i64 (zH R s b)])∧Chg (fun _=>False) w w':=by
 by_cases h:zH R s b=0
 ·obtain ⟨_,r,hr⟩:=Zb h
  have:=zlU hA h47 t h hr;rw [show decide (t.data.toList∈zv r)=Xk R s t b by unfold Xk zeT;rw [if_pos h,hr];rfl,<- h] at this;exact this
 ·have:=zki hA h47 hs t rfl h
  rw [show false=Xk R s t b by unfold Xk;rw [if_neg h]] at this;exact this
end
section
variable {w:World} {v:Value} {R:List zF} {s:ByteArray} {b:Int}
set_option maxRecDepth 100000 in
theorem znG (hA:zbA w v R s) (h47:xt R) (hs:s.size<=140737488355328) {k:Int} (h:zH R s b=k) (hk:k≠0):Calls Tryz.prog 22 #[v,.string s,.int .i64 b] w fun e w'=>e=.returned (.tuple #[.slice none 0 0,.int .i64 k])∧Chg (fun _=>False) w w':=by
 have W:=ze (zeb hA h47 hs h hk);have g:(k != 0)=true:=by rw [zre];exact hk
 obtain ⟨la,cap,rfl,_,_⟩:=hA.rules;clear hA h hk;go_enter Tryz.func22,Tryz.ntmps22;go_wp2_with fail;(with_reducible refine W.out.mono ?_);rintro e w' ⟨rfl,kc⟩;go_wp2;go_ret2;exact ⟨rfl,kc⟩
set_option maxRecDepth 100000 in
theorem zph (hA:zbA w v R s) (h47:xt R) (h:zH R s b=0) {r:List Ent} (hr:zdz R s b=some r):Calls Tryz.prog 22 #[v,.string s,.int .i64 b] w fun e w'=>∃ va,e=.returned (.tuple #[va,.int .i64 0])∧w'.ownsRow w.heap.size 57 1 va r.length (yX r)∧Chg (fun _=>False) w w':=by
 have W:=ze (zdA hA h47 h hr);obtain ⟨la,cap,rfl,_,_⟩:=hA.rules;clear hA h hr;go_enter Tryz.func22,Tryz.ntmps22;go_wp2_with fail;(with_reducible refine W.out.mono ?_);rintro e w' ⟨bb,rfl,⟨lv,fv,bv,hX⟩,kc⟩;obtain ⟨aw,cw,rfl⟩:=zl hX.hl;have c0:w'.cell? ⟨bb,0,none⟩=some (.slice aw r.length cw):=zf hX.hb rfl;have HX:=ze hX;clear hX;go_wp2;go_ret2;exact ⟨_,rfl,HX.out.hl,kc⟩
theorem zko (hA:zbA w v R s) (h47:xt R) (hs:s.size<=140737488355328):Calls Tryz.prog 22 #[v,.string s,.int .i64 b] w (ziX w (zH R s b) (Xz R s b)):=by
 by_cases h:zH R s b=0
 ·obtain ⟨_,r,hr⟩:=Zb h
  refine (zph hA h47 h hr).mono fun e w' ⟨va,he,ho,hc⟩=>⟨va,by rw [h];exact he,?_,hc⟩;unfold Xz zeT;rw [if_pos h,hr];exact zdO ho (fun u hu=>by have:=((zcf h hr).1 u hu).2;omega)
 ·refine (znG hA h47 hs rfl h).mono fun e w' ⟨he,hc⟩=>⟨_,he,?_,hc⟩
  unfold Xz;rw [if_neg h];exact zdP _ _
end
section
variable (w:World) (v:Value) (G:Nat->Prop) (l:List ByteArray) (x:ByteArray)
theorem zjj (hv:zx w v G l):Calls Tryz.prog 23 #[v,.string x] w fun e w'=>e=.returned (.bool (Xw l x))∧w=w':=by
 obtain ⟨la,cap,rfl,hl0,hcl⟩:=hv;have HCL:=ze hcl;unfold maxLen at hl0;clear hcl;go_enter Tryz.func23,Tryz.ntmps23;go_wp2;go_loop [5] (fun iv=>∃ k:Nat,k<=l.length∧iv=.int .i64 k∧Hid (∀ j,j < k->l[j]?≠some x)) (fun iv=>l.length - (intOf iv).toNat)
 case atStart=>exact ⟨0,by omega,rfl,ze (fun j hj=>by omega)⟩
 case round=>
  obtain ⟨k,hk,rfl,HI⟩:=hrel;by_cases hlt:k < l.length
  ·obtain ⟨y,hy⟩:∃ y,l[k]? = some y:=⟨_,zq0 hlt⟩
   obtain ⟨lb,lo,rfl,_,c0,_⟩:=HCL.out k y hy;by_cases hxy:y=x
   ·have n1:(y.toList == x.toList)=true:=by rw [xC,zqY hxy]
    have R:=ze (show Xw l x=true from zqY (by rw [<- hxy];exact zq2 hy));clear hy hxy;go_wp2;go_ret;exact ⟨by rw [R.out];rfl,rfl⟩
   ·have n1:(y.toList == x.toList)=false:=by rw [xC,zqZ hxy]
    have HI2:=ze (show ∀ j,j < k+1->l[j]?≠some x from fun j hj=>by
     rcases Nat.lt_or_ge j k with q | q
     ·exact HI.out j q
     ·obtain rfl:j=k:=by omega
      rw [hy];exact fun e=>hxy (Option.some.inj e))
    clear hy hxy;go_wp2;go_round
    case rel=>exact ⟨k+1,by omega,by go_num,HI2⟩
    case measure=>simp [intOf];omega
  ·obtain rfl:k=l.length:=by omega
   have R:=ze (show Xw l x=false from zqZ (zcl HI.out));go_wp2;go_ret;exact ⟨by rw [R.out];rfl,rfl⟩
end
theorem zm1 {f:ByteArray->Bool} {l:List ByteArray} {k:Nat} {y:ByteArray} (h:l[k]? = some y) (hp:(l.take k).all f=true):(l.take (k+1)).all f=f y:=by
 rw [zri,h,List.all_append,hp];simp
theorem zpO {f:ByteArray->Bool} {l:List ByteArray} {k:Nat} {y:ByteArray} (h:l[k]? = some y) (hy:f y=false):l.all f=false:=by
 rw [zrm];intro q;have:=zrh.1 q y (zq2 h);rw [hy] at this;cases this
set_option maxHeartbeats 4000000 in
set_option maxRecDepth 100000 in
theorem zgR (w:World) (av bv:Value) (a b:List ByteArray) (G G':Nat->Prop) (ha:zx w av G a) (hb:zx w bv G' b):
  Calls Tryz.prog 64 #[av,bv] w fun e w'=>e=.returned (.bool (a.all (Xw b)))∧Chg (fun _=>False) w w':=by
 have HA:=ze ha;have HAS:=ze (fun W (k:Chg (fun _=>False) w W) x=>zjj W bv G' b x (hb.chg k (fun _ _ e=>e)));have NO:=ze (fun k y=>@zpO (Xw b) a k y);have SN:=ze (fun k y=>@zm1 (Xw b) a k y);obtain ⟨la,cap,rfl,hl0,_⟩:=ha;obtain ⟨lb,bcap,rfl,_,_⟩:=hb;unfold maxLen at hl0;generalize hres:a.all (Xw b)=res at *;have RES:=ze hres;clear hres;go_enter Tryz.func64,Tryz.ntmps64;go_wp2;go_loopw [5] (fun iv wr=>∃ k:Nat,k<=a.length∧iv=.int .i64 k∧Hid ((a.take k).all (Xw b)=true∧Chg (fun _=>False) w wr)) (fun iv _=>a.length - (intOf iv).toNat)
 case atStart=>exact ⟨0,by omega,rfl,ze ⟨rfl,Chg.refl _ _⟩⟩
 case round=>
 obtain ⟨k,hk,rfl,HI⟩:=hrel;by_cases hlt:k < a.length
 rotate_left
 · obtain rfl:k=a.length:=by omega
   have RT:res=true:=by have:=HI.out.1;rw [zrk] at this;rw [<- RES.out,this]
   have KF:=ze HI.out.2;subst RT;clear HI RES NO SN HAS;go_wp2;go_ret;exact ⟨rfl,KF.out⟩
 obtain ⟨x,hx⟩:∃ x,a[k]? = some x:=⟨_,zq0 hlt⟩;obtain ⟨_,_,e1,_,hcl⟩:=HA.out.chg HI.out.2 (fun _ _ e=>e);cases e1;obtain ⟨g,o,rfl,_,q0,_⟩:=hcl k x hx;have H1:=ze (HAS.out wr HI.out.2 x);have NX:=ze (SN.out k x hx HI.out.1);have NN:=ze (NO.out k x hx);have KF:=ze HI.out.2;clear HI hcl hx NO SN HAS;go_wp2_with fail;clear q0;(with_reducible refine H1.out.mono ?_);rintro e w2 ⟨rfl,rfl⟩;clear H1;cases hb0:Xw b x with
 | true=>
  rw [hb0] at NX;clear hb0 NN;go_wp2;go_roundw
  case rel=>exact ⟨k+1,by omega,by go_num,ze ⟨NX.out,KF.out⟩⟩
  case measure=>simp [intOf];omega
 | false=>
  have RF:res=false:=NN.out hb0;subst RF;clear hb0 NX NN RES;go_wp2;go_ret;exact ⟨rfl,KF.out⟩
def zoB (op:Int) (c:List ByteArray) (L:List Za):Int:=if ZX op c L < L.length then (ZX op c L:Int) else -1
theorem zpa {op:Int} {c:List ByteArray} {L:List Za} {k:Nat} {x:Za} (h:∀ j,j < k->∀ y,L[j]? = some y->YC op c y=false) (hx:L[k]? = some x) (hp:YC op c x=true):zoB op c L=k:=by
 have hl:=(zq1.1 hx).1
 have e:ZX op c L=k:=by
  unfold ZX;refine (List.findIdx_eq hl).2 ⟨by rw [(zq1.1 hx).2];exact hp,fun j hj=>?_⟩;exact h j hj _ (zq0 _)
 unfold zoB;rw [e,if_pos hl]
theorem zlN {op:Int} {c:List ByteArray} {L:List Za} (h:∀ j,j < L.length->∀ y,L[j]? = some y->YC op c y=false):zoB op c L=-1:=by
 unfold zoB;rw [if_neg];intro q;unfold ZX at q;have:=List.findIdx_getElem (xs:=L) (p:=YC op c) (w:=q);rw [h _ q _ (zq0 q)] at this;cases this
set_option maxHeartbeats 4000000 in
set_option maxRecDepth 100000 in
theorem zgW (w:World) (lv cv:Value) (L:List Za) (op:Int) (c:List ByteArray) (G2 G3:Nat->Prop) (hl:ZI w lv G2 L) (hL:L.length<=1000) (hc:zx w cv G3 c):
  Calls Tryz.prog 34 #[lv,.int .i64 op,cv] w fun e w'=>e=.returned (.int .i64 (zoB op c L))∧Chg (fun _=>False) w w':=by
 have HL:=ze hl;have WI:=ze (fun W (k:Chg (fun _=>False) w W) sv s G (h:zx W sv G s)=>zgR W sv cv s c G G3 h (hc.chg k (fun _ _ e=>e)));have AT:=ze (fun k x=>@zpa op c L k x);have NO:=ze (@zlN op c L);obtain ⟨la,cap,rfl,_,_⟩:=hl.shape;obtain ⟨lb,bcap,rfl,_,_⟩:=hc;generalize zoB op c L=res at *;clear hl;go_enter Tryz.func34,Tryz.ntmps34;go_wp2;go_loopw [7] (fun iv wr=>∃ k:Nat,k<=L.length∧iv=.int .i64 k∧Hid ((∀ j,j < k->∀ y,L[j]? = some y->YC op c y=false)∧Chg (fun _=>False) w wr)) (fun iv _=>L.length - (intOf iv).toNat)
 case atStart=>exact ⟨0,by omega,rfl,ze ⟨fun j hj=>by omega,Chg.refl _ _⟩⟩
 case round=>
 obtain ⟨k,hk,rfl,HI⟩:=hrel;by_cases hlt:k < L.length
 rotate_left
 · obtain rfl:k=L.length:=by omega
   have RT:=ze (NO.out HI.out.1);have KF:=ze HI.out.2;clear HI NO AT WI;go_wp2;go_ret;exact ⟨by rw [RT.out];rfl,KF.out⟩
 obtain ⟨⟨eo,es⟩,hx⟩:∃ x,L[k]? = some x:=⟨_,zq0 hlt⟩;obtain ⟨g,o,sa,sc,rfl,_,q0,q1,hset⟩:=(HL.out.chg HI.out.2 (fun _ _ e=>e)).get hx;simp only at q0 q1 hset;have W1:=ze (WI.out wr HI.out.2 _ _ _ hset.at_);have SP:=ze (show YC op c (eo,es)=(decide (eo=op) && es.all (Xw c)) from rfl)
 have NX:=ze (fun (h:YC op c (eo,es)=false)=>show ∀ j,j < k+1->∀ y,L[j]? = some y->YC op c y=false from fun j hj y hy=>by
  by_cases e:j=k
  · subst e;rw [hx] at hy;cases hy;exact h
  · exact HI.out.1 j (by omega) y hy)
 have YES:=ze (fun h=>AT.out k (eo,es) HI.out.1 hx h);have KF:=ze HI.out.2;clear HI hx hset NO AT WI;by_cases ho:eo=op
 rotate_left
 · have g1:(eo == op)=false:=zq9.2 ho
   have N2:=ze (NX.out (by rw [SP.out,zqZ ho];rfl));clear ho NX YES SP W1;go_wp2;go_roundw
   case rel=>exact ⟨k+1,by omega,by go_num,ze ⟨N2.out,KF.out⟩⟩
   case measure=>simp [intOf];omega
 subst ho;go_wp2_with fail;clear q0 q1;(with_reducible refine W1.out.mono ?_);rintro e w2 ⟨rfl,k2⟩;have K2:=ze (KF.out.trans k2);clear W1 k2 KF;cases hb0:es.all (Xw c) with
 | true=>
  have RT:=ze (YES.out (by rw [SP.out,hb0];simp));clear hb0 NX YES SP;go_wp2;go_ret;exact ⟨by rw [RT.out];rfl,K2.out⟩
 | false=>
  have N2:=ze (NX.out (by rw [SP.out,hb0];simp));clear hb0 NX YES SP;go_wp2;go_roundw
  case rel=>exact ⟨k+1,by omega,by go_num,ze ⟨N2.out,K2.out⟩⟩
  case measure=>simp [intOf];omega
def zgw (w:World) (C:List zq) (L:List Za) (c:List ByteArray) (e:Ending) (w':World):Prop:=Chg (fun _=>False) w w' ∧
 (Ye C L c=true->∃ b0,e=.returned (.tuple #[.pointer (some ⟨b0,0,none⟩),.int .i64 0])∧w.heap.size<=b0∧Yk w' b0 180 (fun k=>w.heap.size<=k∧k≠b0) L 0) ∧
 (Ye C L c=false->e=.returned (.tuple #[.pointer none,.int .i64 2]))
theorem zix {w w':World} {C:List zq} {L:List Za} {c:List ByteArray} (hk:Chg (fun _=>False) w w') (h:Ye C L c=false):zgw w C L c (.returned (.tuple #[.pointer none,.int .i64 2])) w':=
 ⟨hk,fun e=>(by rw [h] at e;cases e),fun _=>rfl⟩
theorem zjG {C:List zq} {k:Nat} {x:zq} (h:C[k]? = some x):(C.take (k+1)).all ZD=((C.take k).all ZD && ZD x):=by
 rw [zri,h,List.all_append];simp
theorem zm3 {C:List zq} {k:Nat} {x:zq} (h:C[k]? = some x) (hx:ZD x=false):C.all ZD=false:=by
 rw [zrm];intro q;have:=zrh.1 q x (zq2 h);rw [hx] at this;cases this
set_option maxHeartbeats 4000000 in
set_option maxRecDepth 100000 in
theorem zjv (w:World) (v lv cv:Value) (P:List (zq × Value)) (L:List Za) (c:List ByteArray) (G G2 G3:Nat->Prop) (hv:ym w v G P) (hl:ZI w lv G2 L) (hc:zx w cv G3 c) (hL:L.length<=1000):
  Calls Tryz.prog 40 #[v,lv,cv] w (zgw w (zk P) L c):=by
 have M1:=ze (zbh w cv G3 c hc);have NW:=ze (fun w1 (q:Chg (fun _=>False) w w1)=>znV w1 lv L G2 (hl.chg q (fun _ _ e=>e)) hL);have HV:=ze hv;obtain ⟨la,cap,rfl,hpl,_⟩:=hv;obtain ⟨_,_,rfl,_,_⟩:=hl.shape;obtain ⟨_,_,rfl,_,_⟩:=hc;have CG:=ze (fun k p (h:P[k]? = some p)=>Zy h);have CL:=ze (zQ P);unfold maxLen at hpl;have LB:=ze (show Ye (zk P) L c=(zaJ c && (decide (zeo [] L=0) && (zk P).all ZD)) from rfl);have LBAD:=ze (fun w1 (q:Chg (fun _=>False) w w1)=>@zix w w1 (zk P) L c q);have LRES:=ze (show ∀ e w1,zgw w (zk P) L c e w1↔_ from fun _ _=>Iff.rfl);generalize hcs:zk P=C at *;clear hcs hl;go_enter Tryz.func40,Tryz.ntmps40;go_wp2_with fail;(with_reducible refine M1.out.mono ?_);rintro e w2 ⟨rfl,d2⟩;have K2:=ze (show Chg (fun _=>False) w w2 from d2.chg);have N2:=ze (NW.out w2 K2.out);clear d2 M1 NW;cases hsb:zaJ c with
 | false=>
  have B:=ze (LBAD.out w2 K2.out (by rw [LB.out,hsb];rfl));clear hsb;go_wp2;go_ret2;exact B.out
 | true=>
 have SB:=ze hsb;clear hsb;go_wp2_with fail;(with_reducible refine N2.out.mono ?_);rintro e w3 ⟨h0,h1,k3⟩;have K3:=ze (K2.out.trans k3);have hsz:=K2.out.size;by_cases hn:zeo [] L=0
 rotate_left
 · obtain rfl:=h1 hn
   have B:=ze (LBAD.out w3 K3.out (by rw [LB.out,SB.out,zqZ hn];rfl));have g1:(zeo [] L != 0)=true:=by rw [zre];exact hn
   generalize zeo [] L=ne at *;clear h0 h1 k3 hn N2;go_wp2;go_ret2;exact B.out
 obtain ⟨b0,rfl,hb0,hla⟩:=h0 hn;have HN:=ze hn;have HB:=ze (Nat.le_trans hsz hb0);have HLA:=ze (show Yk w3 b0 180 (fun k=>w.heap.size<=k∧k≠b0) L 0 from hla.up (fun k hk=>⟨by have:=hk.1;omega,hk.2.2⟩) (fun e=>e.2 rfl));clear h0 h1 k3 hn N2 hb0 hla K2;go_wp2;go_loopw [24] (fun iv wr=>∃ k:Nat,k<=P.length∧iv=.int .i64 k∧Hid ((C.take k).all ZD=true∧Chg (fun _=>False) w3 wr)) (fun iv _=>P.length - (intOf iv).toNat)
 case atStart=>exact ⟨0,by omega,rfl,ze ⟨by simp,Chg.refl _ _⟩⟩
 case round=>
  obtain ⟨k,hk,rfl,HI⟩:=hrel;obtain ⟨hall,hkc⟩:=HI.out;have ALL:=ze hall;have KC:=ze hkc;clear HI hall hkc;by_cases hlt:k < P.length
  rotate_left
  · obtain rfl:k=P.length:=by omega
    have R:=ze (show zgw w C L c (.returned (.tuple #[.pointer (some ⟨b0,0,none⟩),.int .i64 0])) wr from by
     have ha:=ALL.out;rw [List.take_of_length_le (by rw [CL.out];exact zrj _)] at ha;have hb:Ye C L c=true:=by rw [LB.out,SB.out,zqY HN.out,ha];rfl
     exact ⟨K3.out.trans KC.out,fun _=>⟨b0,rfl,HB.out,HLA.out.chg KC.out (fun e=>e) (fun _ _ e=>e)⟩,fun e=>by rw [hb] at e;cases e⟩)
    go_wp2;go_ret2;exact R.out
  obtain ⟨⟨x,sv⟩,hp⟩:∃ p,P[k]? = some p:=⟨_,zq0 hlt⟩;obtain ⟨_,_,e1,_,hcl⟩:=HV.out.chg (K3.out.trans KC.out) (fun _ _ e=>e);cases e1;obtain ⟨g,o,sa,sc,rfl,hgg,hsv,c0,c1,c2,c3,c4,c5,c6,hca⟩:=hcl k _ hp;simp only at hsv;subst hsv;have HP:=ze (CG.out _ _ hp);clear hcl hp hgg;simp only at c0 c1 c2 c3 c4 c5 c6 hca HP;have ka:=zi (fun _=>False) wr (.cells #[.int .i64 x.kind,.int .u16 (x.sg:Int),.string x.sp,.slice sa x.fr.length sc,.int .i64 x.f,.int .i64 x.t,.int .i64 x.n] 64);have CH:=zeD (wr.alloc (.cells #[.int .i64 x.kind,.int .u16 (x.sg:Int),.string x.sp,.slice sa x.fr.length sc,.int .i64 x.f,.int .i64 x.t,.int .i64 x.n] 64)) x sa sc G (hca.chg ka (fun _ _ e=>e));have NX:=ze (fun (q:ZD x=true)=>show (C.take (k+1)).all ZD=true from by rw [zjG HP.out,ALL.out,q];rfl);have BD:=ze (fun (q:ZD x=false)=>show Ye C L c=false from by rw [LB.out,zm3 HP.out q,Bool.and_false,Bool.and_false]);unfold xZ at CH;generalize ZD x=cb at *;obtain ⟨kind,sg,sp,fr,f,t,num⟩:=x;unfold xI at CH;simp only at c0 c1 c2 c3 c4 c5 c6 CH ka;have CH:=ze CH;have KA:=ze (KC.out.trans ka);clear ka hca HP KC;go_wp2_with fail;generalize wr.alloc (.cells #[.int .i64 kind,.int .u16 (sg:Int),.string sp,.slice sa fr.length sc,.int .i64 f,.int .i64 t,.int .i64 num] 64)=w4 at *;(with_reducible refine CH.out.mono ?_);rintro e w5 ⟨⟨z,rfl,hz⟩,k5⟩;have K5:=ze (KA.out.trans k5);clear CH k5 KA c0 c1 c2 c3 c4 c5 c6;cases cb with
  | false=>
   have g1:(z != 0)=true:=by rw [zre];intro e;exact absurd (hz.1 e) (by decide)
   have RV:=ze (LBAD.out w5 (K3.out.trans K5.out) (BD.out rfl));clear hz;go_wp2;go_ret2;exact RV.out
  | true=>
   have g1:(z != 0)=false:=by rw [hz.2 rfl];rfl
   have NN:=ze (NX.out rfl);clear hz NX;go_wp2;go_roundw
   case rel=>exact ⟨k+1,by omega,by go_num,ze ⟨NN.out,K5.out⟩⟩
   case measure=>simp [intOf];omega
def opB (op:Int):Bool:=decide (0<=op) && decide (op < 8)
theorem zoG (w:World) (op:Int):Calls Tryz.prog 41 #[.int .i64 op] w fun e w'=>e=.returned (.bool (opB op))∧w=w':=by
 unfold opB;by_cases h1:0<=op
 · have g1:decide (0<=op)=true:=zqY h1
   rw [g1,Bool.true_and];go_enter Tryz.func41,Tryz.ntmps41;go_wp2;go_ret;exact ⟨rfl,rfl⟩
 · have g1:decide (0<=op)=false:=zqZ h1
   rw [g1,Bool.false_and];go_enter Tryz.func41,Tryz.ntmps41;go_wp2;go_ret;exact ⟨rfl,rfl⟩
theorem ziF {α:Type} {p:α->Bool}:∀ {l:List α} {k:Nat} {x:α},l[k]? = some x->p x=true->(∀ (j:Nat) y,j < k->l[j]? = some y->p y=false)->l.findIdx p=k
 | [],k,x,h,_,_=>by simp at h
 | a :: l,0,x,h,hp,_=>by simp at h;subst h;rw [List.findIdx_cons,hp];rfl
 | a :: l,k+1,x,h,hp,hn=>by
  rw [List.findIdx_cons,hn 0 a (by omega) rfl,ziF (k:=k) (by simpa using h) hp (fun j y hj hy=>hn (j+1) y (by omega) (by simpa using hy))];rfl
theorem zmz {α:Type} {p:α->Bool} {l:List α} (h:∀ (j:Nat) y,j < l.length->l[j]? = some y->p y=false):l.findIdx p=l.length:=by
 rw [List.findIdx_eq_length];intro x hx;obtain ⟨j,hj⟩:=List.mem_iff_getElem?.1 hx;exact h j x (zq1.1 hj).1 hj
theorem zeF {α:Type} {p:α->Bool} {l:List α} {k:Nat} {x:α} (hx:l[k]? = some x) (hp:p x=false) (h:∀ (j:Nat) y,j < k->l[j]? = some y->p y=false):∀ (j:Nat) y,j < k+1->l[j]? = some y->p y=false:=fun j y hj hy=>by
 rcases Nat.lt_or_ge j k with q | q
 · exact h j y q hy
 · obtain rfl:j=k:=by omega
   rw [hx] at hy;cases hy;exact hp
theorem zj3 (w:World) (x:Za) (sa:Option Addr) (sc:Nat) (op:Int) (cv:Value) (c:List ByteArray) (p q:Nat) (G G':Nat->Prop) (hx:zx w (.slice sa x.2.length sc) G x.2) (hc:zx w cv G' c) (hcl:c.length<=1000) (hp:w.heap[p]? = some (.cells #[.int .i64 op] 3 (0,0))) (hq:w.heap[q]? = some (.cells #[cv] 26 (0,0))):
  Calls Tryz.prog 115 #[.agg #[.int .i64 x.1,.slice sa x.2.length sc],.pointer (some ⟨p,0,none⟩),.pointer (some ⟨q,0,none⟩)] w fun e w'=>e=.returned (.bool (YC op c x))∧Chg (fun _=>False) w w':=by
 have ka:=zi (fun _=>False) w (.cells #[.int .i64 x.1,.slice sa x.2.length sc] 56);have WI:=ze (zcH (w.alloc (.cells #[.int .i64 x.1,.slice sa x.2.length sc] 56)) _ cv x.2 c G G' (hx.chg ka (fun _ _ e=>e)) (hc.chg ka (fun _ _ e=>e)) hcl);have c0:=zf (o:=0) (ka.obj (fun e=>e) hp) rfl;have c1:=zf (o:=0) (ka.obj (fun e=>e) hq) rfl;have KA:=ze ka;obtain ⟨ca,cc,rfl,_,_⟩:=hc;have SP:=ze (show YC op c x=(decide (x.1=op) && x.2.all (Xw c)) from rfl);generalize YC op c x=r at *;obtain ⟨oq,l⟩:=x;simp only at WI c0 c1 SP;generalize l.all (Xw c)=al at *;clear hx hp hq ka;by_cases hop:oq=op
 · have RV:=ze (show r=al from by rw [SP.out,zqY hop];rfl)
   subst hop;have g1:(oq == oq)=true:=by simp
   clear SP;go_enter Tryz.func115,Tryz.ntmps115;go_wp2_with fail;(with_reducible refine WI.out.mono ?_);rintro e w2 ⟨rfl,k2⟩;go_wp2;go_ret;exact ⟨by rw [RV.out];rfl,KA.out.trans k2⟩
 · have RV:=ze (show r=false from by rw [SP.out,zqZ hop];rfl)
   have g1:(oq == op)=false:=by rw [zq9];exact hop
   clear SP hop;go_enter Tryz.func115,Tryz.ntmps115;go_wp2;go_ret;exact ⟨by rw [RV.out];rfl,KA.out⟩
def Xl (op:Int) (c:List ByteArray) (L:List Za):Int:=if ZX op c L < L.length then (ZX op c L:Int) else -1
set_option maxRecDepth 100000 in
theorem zkL (w:World) (lv:Value) (L:List Za) (op:Int) (cv:Value) (c:List ByteArray) (p q:Nat) (G G':Nat->Prop) (hl:ZI w lv G L) (hc:zx w cv G' c) (hcl:c.length<=1000) (hp:w.heap[p]? = some (.cells #[.int .i64 op] 3 (0,0))) (hq:w.heap[q]? = some (.cells #[cv] 26 (0,0))):
  Calls Tryz.prog 114 #[lv,.func (.func 115) #[] #[.pointer (some ⟨p,0,none⟩),.pointer (some ⟨q,0,none⟩)]] w fun e w'=>e=.returned (.int .i64 (Xl op c L))∧Chg (fun _=>False) w w':=by
 obtain ⟨la,cap,rfl,hl0,hl1⟩:=hl.shape;have HL:=ze hl;have FI:=ze (fun w1 (k:Chg (fun _=>False) w w1) x sa sc (hs:zx w1 (.slice sa x.2.length sc) G x.2)=>zj3 w1 x sa sc op cv c p q G G' hs (hc.chg k (fun _ _ e=>e)) hcl (k.obj (fun e=>e) hp) (k.obj (fun e=>e) hq));unfold maxLen at hl1;clear hl hp hq hc;go_enter Tryz.func114,Tryz.ntmps114;go_wp2;go_loopw [8] (fun iv wr=>∃ k:Nat,k<=L.length∧iv=.int .i64 k∧Hid ((∀ (j:Nat) y,j < k->L[j]? = some y->YC op c y=false)∧Chg (fun _=>False) w wr)) (fun iv _=>L.length - (intOf iv).toNat)
 case atStart=>exact ⟨0,by omega,rfl,ze ⟨fun j y hj=>by omega,Chg.refl _ _⟩⟩
 case round=>
  obtain ⟨k,hk,rfl,HI⟩:=hrel;by_cases hlt:k < L.length
  · obtain ⟨y,hy⟩:∃ y,L[k]? = some y:=⟨_,zq0 hlt⟩
    obtain ⟨g,o,sa,sc,rfl,_,c0,c1,hs⟩:=(HL.out.chg HI.out.2 (fun _ _ e=>e)).get hy;have F:=ze (FI.out wr HI.out.2 y sa sc hs.at_);have KC:=ze HI.out.2;have YES:=ze (fun q=>ziF hy q HI.out.1);have NO:=ze (fun q=>zeF hy q HI.out.1);clear HI hy hs FI;generalize YC op c y=r at *;obtain ⟨oq,l⟩:=y;simp only at F c0 c1;cases r with
    | true=>
     have R:=ze (show Xl op c L=(k:Int) from by
      have:=YES.out rfl;unfold Xl ZX;rw [this,if_pos hlt])
     clear YES NO;go_wp2_with fail;(with_reducible refine F.out.mono ?_);rintro e w2 ⟨rfl,k2⟩;go_wp2;go_ret;exact ⟨by rw [R.out];rfl,KC.out.trans k2⟩
    | false=>
     have N:=ze (NO.out rfl);clear YES NO;go_wp2_with fail;(with_reducible refine F.out.mono ?_);rintro e w2 ⟨rfl,k2⟩;have K2:=ze (KC.out.trans k2);clear k2;go_wp2;go_roundw
     case rel=>exact ⟨k+1,by omega,by go_num,ze ⟨N.out,K2.out⟩⟩
     case measure=>simp [intOf];omega
  · obtain rfl:k=L.length:=by omega
    have R:=ze (show Xl op c L=-1 from by
     have:=zmz HI.out.1;unfold Xl ZX;rw [this,if_neg (by omega)])
    go_wp2;go_ret;exact ⟨by rw [R.out];rfl,HI.out.2⟩
theorem zlA (w:World) (lv:Value) (L:List Za) (op:Int) (cv:Value) (c:List ByteArray) (G G':Nat->Prop) (hl:ZI w lv G L) (hc:zx w cv G' c) (hcl:c.length<=1000):
  Calls Tryz.prog 89 #[lv,.int .i64 op,cv] w fun e w'=>e=.returned (.tuple #[.int .i64 (Xl op c L),.bool (decide (ZX op c L < L.length))])∧Chg (fun _=>False) w w':=by
 obtain ⟨la,cap,rfl,hl0,hl1⟩:=hl.shape;obtain ⟨ca,cc,rfl,hc0,hc1⟩:=id hc;have k1:=zi (fun _=>False) w (.cells #[.int .i64 op] 3);have k2:=zi (fun _=>False) (w.alloc (.cells #[.int .i64 op] 3)) (.cells #[.slice ca c.length cc] 26);have K:=ze (k1.trans k2);have o1:=zh (w.alloc (.cells #[.int .i64 op] 3)) (.cells #[.slice ca c.length cc] 26);have o0:=k2.obj (fun e=>e) (zh w (.cells #[.int .i64 op] 3));have IX:=zkL _ _ L op _ c _ _ G G' (hl.chg (k1.trans k2) (fun _ _ e=>e)) (hc.chg (k1.trans k2) (fun _ _ e=>e)) hcl o0 o1;rw [zq8] at IX;have IX:=ze IX;unfold maxLen at hl1;by_cases hs:ZX op c L < L.length
 · have h0:0<=Xl op c L:=by unfold Xl;rw [if_pos hs];omega
   have g1:decide (0<=Xl op c L)=true:=zqY h0;have R:=ze (zqY hs);clear hs hl hc k1 k2 o1 o0 hc0 hc1;generalize Xl op c L=sv at *;go_enter Tryz.func89,Tryz.ntmps89;go_wp2_with fail;(with_reducible refine IX.out.mono ?_);rintro e w2 ⟨rfl,k2⟩;go_wp2;go_ret2;exact ⟨by rw [R.out];rfl,K.out.trans k2⟩
 · have h0:Xl op c L=-1:=by unfold Xl;rw [if_neg hs]
   have R:=ze (zqZ hs);rw [h0] at IX ⊢;clear hs hl hc k1 k2 o1 o0 hc0 hc1 h0;go_enter Tryz.func89,Tryz.ntmps89;go_wp2_with fail;(with_reducible refine IX.out.mono ?_);rintro e w2 ⟨rfl,k2⟩;go_wp2;go_ret2;exact ⟨by rw [R.out];rfl,K.out.trans k2⟩
theorem zow (w:World) (av:Value) (l:List ByteArray) (v:ByteArray) (p:Nat) (G:Nat->Prop) (hl:zx w av G l) (hp:w.heap[p]? = some (.cells #[av] 25 (0,0))):
  Calls Tryz.prog 94 #[.string v,.pointer (some ⟨p,0,none⟩)] w fun e w'=>e=.returned (.bool (decide (v∈l)))∧w=w':=by
 have CO:=ze (zcu w av G l v hl);have c0:=zf (o:=0) hp rfl;obtain ⟨_,_,rfl,_,_⟩:=hl;clear hp;go_enter Tryz.func94,Tryz.ntmps94;go_wp2_with fail;(with_reducible refine CO.out.mono ?_);rintro e w2 ⟨rfl,rfl⟩;go_wp2;go_ret;exact ⟨rfl,rfl⟩
def zg4 (c l:List ByteArray):Nat:=c.findIdx fun v=>decide (v∈l)
set_option maxRecDepth 100000 in
theorem zkP (w:World) (cv av:Value) (c l:List ByteArray) (p:Nat) (G G':Nat->Prop) (hc:zx w cv G c) (hl:zx w av G' l) (hp:w.heap[p]? = some (.cells #[av] 25 (0,0))) (hr:zg4 c l < c.length):
  Calls Tryz.prog 93 #[cv,.func (.func 94) #[] #[.pointer (some ⟨p,0,none⟩)]] w fun e w'=>e=.returned (.int .i64 (zg4 c l:Int))∧w=w':=by
 have FI:=ze (fun v=>zow w av l v p G' hl hp);obtain ⟨ca,cc,rfl,hc0,hcc⟩:=hc;have HCC:=ze hcc;have HR:=ze hr;unfold maxLen at hc0;clear hcc hp hl hr;go_enter Tryz.func93,Tryz.ntmps93;go_wp2;go_loop [8] (fun iv=>∃ k:Nat,k<=c.length∧iv=.int .i64 k∧Hid (∀ (j:Nat) y,j < k->c[j]? = some y->decide (y∈l)=false)) (fun iv=>c.length - (intOf iv).toNat)
 case atStart=>exact ⟨0,by omega,rfl,ze (fun j y hj=>by omega)⟩
 case round=>
  obtain ⟨k,hk,rfl,HI⟩:=hrel;by_cases hlt:k < c.length
  · obtain ⟨y,hy⟩:∃ y,c[k]? = some y:=⟨_,zq0 hlt⟩
    obtain ⟨lb,lo,rfl,_,c0,_⟩:=HCC.out k y hy;have F:=ze (FI.out y);have YES:=ze (fun q=>ziF (p:=fun v=>decide (v∈l)) hy q HI.out);have NO:=ze (fun q=>zeF (p:=fun v=>decide (v∈l)) hy q HI.out);clear HI hy FI;generalize decide (y∈l)=r at *;cases r with
    | true=>
     have R:=ze (show zg4 c l=k from YES.out rfl);clear YES NO;go_wp2_with fail;(with_reducible refine F.out.mono ?_);rintro e w2 ⟨rfl,rfl⟩;go_wp2;go_ret;exact ⟨by rw [R.out];rfl,rfl⟩
    | false=>
     have N:=ze (NO.out rfl);clear YES NO;go_wp2_with fail;(with_reducible refine F.out.mono ?_);rintro e w2 ⟨rfl,rfl⟩;go_wp2;go_round
     case rel=>exact ⟨k+1,by omega,by go_num,N⟩
     case measure=>simp [intOf];omega
  · obtain rfl:k=c.length:=by omega
    exfalso;have h1:=zmz (p:=fun v=>decide (v∈l)) HI.out;have h2:=HR.out;unfold zg4 at h2;omega
end Go.Proofs.YthdfplafihmejaaGreat
