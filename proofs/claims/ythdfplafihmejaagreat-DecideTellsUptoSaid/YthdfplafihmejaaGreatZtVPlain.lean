/-
  Package proof: what Make answers, in plain Lean; the path's contract with a row of its own. Package proof: Make. Decide, in plain Lean: what is decided, and why.
-/
import Derived.Test.YthdfplafihmejaaGreatZtQCut
import Derived.Test.YthdfplafihmejaaGreatZtQReach
import Derived.Test.YthdfplafihmejaaGreatZtURun
import Derived.Test.YthdfplafihmejaaGreatZtUPlain
namespace Go.Proofs.YthdfplafihmejaaGreat
open Go.RowKit Go.Maps
def zk8 (h:Nat × Nat):Int × Int:=((h.1:Int),(h.2:Int))
theorem zd7 (l:List (Nat × Nat)):Zv (l.map zk8)=yq l:=by unfold Zv yq;rw [List.flatMap_map];rfl
theorem zdR {R:List Rul}:∀ {l:List (Nat × Nat)} {w u:Wd},Zp w=true->zcI R w l=some u->Zp u=true∧∀ h∈l,h.1<=8∧h.2 < R.length
 | [],w,u,hw,hu=>by cases hu;exact ⟨hw,fun h hh=>by cases hh⟩
 | (a,k) :: t,w,u,hw,hu=>by
  unfold zcI at hu;split at hu
  ·rename_i hm
   have hs:=zaS.2 hm
   have h1:Ym R w ((a:Int),(k:Int))=some (zeY R w (a,k)):=by
    unfold Ym;rw [if_pos hs];simp only [Int.toNat_natCast]
   obtain ⟨m1,m2⟩:=zdR (zd1 hw h1).1 hu;obtain ⟨_,s2,_,s4,s5,_⟩:=hs;simp only at s2 s4 s5;have h8:=(zdE.1 hw).2.2;refine ⟨m1,fun h hh=>?_⟩;rcases List.mem_cons.1 hh with rfl | hh
   ·exact ⟨by simp only;omega,by simp only;omega⟩
   ·exact m2 h hh
  ·cases hu
theorem zfh {R:List zF} {s t:ByteArray} {b:Int} (h:ZU R s t b=0):Zp s.data.toList=true∧R.length<=400∧∃ l:List (Nat × Nat),xT R s t b=l.map zk8∧l.length<=5000∧zcI (R.map Zw) s.data.toList l=some t.data.toList:=by
 unfold xT;rw [if_pos h];unfold ZU at h;by_cases h0:zH R s b=0
 ·rw [if_pos h0] at h
  obtain ⟨ha,r,hr⟩:=Zb h0;obtain ⟨m1,m2,m3,m4⟩:=ZE ha;obtain ⟨s1,s2,s3⟩:=XG (by omega) hr;have er:zeT R s b=r:=by unfold zeT;rw [hr];rfl
  rw [er] at h ⊢;by_cases hin:t.data.toList∈zv r
  ·obtain ⟨i1,i2⟩:=zjU hin
   obtain ⟨p1,p2⟩:=zcR (zf1 hr) _ i1;rw [i2] at p1;exact ⟨m1,m4,_,rfl,by omega,p1⟩
  ·rw [if_neg hin] at h
   cases h
 ·rw [if_neg h0] at h
  exact absurd h h0
theorem Ys (R:List zF) (s t:ByteArray) (b:Int):(xT R s t b).length<=5000∧∀ x∈xT R s t b,0<=x.1∧x.1<=8∧0<=x.2∧x.2 < R.length∧R.length<=400:=by
 by_cases h:ZU R s t b=0
 ·obtain ⟨h1,hR,l,h2,h3,h4⟩:=zfh h
  rw [h2];refine ⟨by rw [zq4];exact h3,fun x hx=>?_⟩;obtain ⟨y,hy,rfl⟩:=List.mem_map.1 hx;obtain ⟨q1,q2⟩:=(zdR h1 h4).2 y hy;rw [zq4] at q2;unfold zk8;simp only;omega
 ·unfold xT
  rw [if_neg h];exact ⟨Nat.zero_le _,fun x hx=>by cases hx⟩
theorem zgM (R:List zF) (s t:ByteArray) (b:Int):xe (xT R s t b):=fun x hx=>by
 have:=(Ys R s t b).2 x hx;unfold zcE;omega
theorem zeH {R:List zF} {b:Int} {c:zq} (h:xJ R b c=(true,0)):∀ f∈c.fr,ZU R f (ZW c.sg) b=0:=fun f hf=>by
 obtain ⟨h1,h2⟩:=zjE.1 h f hf;unfold Xk at h2;rw [if_pos h1,zra] at h2;unfold ZU;rw [if_pos h1,if_pos h2]
section
variable {w:World} {v:Value} {R:List zF} {s:ByteArray} {b:Int}
theorem zjn (hA:zbA w v R s) (t:ByteArray) (ht:t.size<=maxLen) (h:ZU R s t b=0):Calls Tryz.prog 123 #[v,.string s,.string t,.int .i64 b] w fun e w'=>∃ va,e=.returned (.tuple #[va,.int .i64 0])∧w'.ownsRow w.heap.size 153 2 va (xT R s t b).length (Zv (xT R s t b))∧Chg (fun _=>False) w w':=by
 unfold xT;rw [if_pos h];unfold ZU at h;by_cases h0:zH R s b=0
 ·rw [if_pos h0] at h
  obtain ⟨_,r,hr⟩:=Zb h0;have er:zeT R s b=r:=by unfold zeT;rw [hr];rfl
  rw [er] at h ⊢;by_cases hin:t.data.toList∈zv r
  ·have e2:=zd7 (Yi r ((zv r).idxOf t.data.toList))
   unfold zk8 at e2;rw [e2,zq4];exact zpl hA t ht h0 hr hin
  ·rw [if_neg hin] at h
   cases h
 ·rw [if_neg h0] at h
  exact absurd h h0
theorem zpm (hA:zbA w v R s) (t:ByteArray) (ht:t.size<=maxLen) (h:ZU R s t b≠0):Calls Tryz.prog 123 #[v,.string s,.string t,.int .i64 b] w fun e w'=>e=.returned (.tuple #[.slice none 0 0,.int .i64 (ZU R s t b)])∧Chg (fun _=>False) w w':=by
 by_cases h0:zH R s b=0
 ·obtain ⟨_,r,hr⟩:=Zb h0
  have er:zeT R s b=r:=by unfold zeT;rw [hr];rfl
  unfold ZU at h ⊢;rw [if_pos h0,er] at h ⊢;by_cases hin:t.data.toList∈zv r
  ·rw [if_pos hin] at h
   exact absurd rfl h
  ·rw [if_neg hin]
   exact zl6 hA t ht h0 hr hin
 ·unfold ZU
  rw [if_neg h0];exact znK hA t rfl h0
end
def Xp (R:List zF) (b:Int) (c:zq):List zE:=c.fr.map fun f=>xT R f (ZW c.sg) b
def znY (C:List zq) (R:List zF) (b:Int) (O:List Nat) (k:Nat):zP:=⟨(O.getD k 0:Nat),match C[O.getD k 0]? with
 | some c=>Xp (R++zY C (O.take k)) b c
 | none=>[]⟩
def zai (C:List zq) (R:List zF) (b:Int) (O:List Nat) (n:Nat):List zP:=(List.range n).map (znY C R b O)
theorem zer (C:List zq) (R:List zF) (b:Int) (O:List Nat) (n:Nat):zai C R b O (n+1)=zai C R b O n++[znY C R b O n]:=by
 unfold zai;rw [List.range_succ,List.map_append];rfl
theorem zdF {C:List zq} {R:List zF} {b:Int} {O:List Nat} {k i:Nat} {c:zq} (h:O[k]? = some i) (hc:C[i]? = some c):znY C R b O k=⟨(i:Int),Xp (R++zY C (O.take k)) b c⟩:=by
 unfold znY;rw [zq6,h];simp only [Option.getD_some,hc]
def yh (R:List zF) (C:List zq) (b:Int) (s:ASt) (x u:ByteArray):zL:=⟨zai C R b s.order s.order.length,xT s.rules x u b⟩
open Classical in
noncomputable def xl (R:List zF) (C:List zq) (x u:ByteArray) (b:Int):Int × zL:=match Zc R C b with
 | .error k=>(k,⟨[],[]⟩)
 | .ok s=>if ZU s.rules x u b=0 then (if yF R.length C (yh R C b s x u) then (0,zgE R.length C (yh R C b s x u)) else (2,⟨[],[]⟩)) else (ZU s.rules x u b,⟨[],[]⟩)
theorem zfc {R:List zF} {C:List zq} {b:Int} {s:ASt} (h:zab R C b s) (hC:C.length<=1000) (hF:∀ c∈C,c.fr.length<=1000) (x u:ByteArray):xz (yh R C b s x u)∧(yh R C b s x u).items.length<=1000∧(yh R C b s x u).steps.length<=1000000∧∀ y∈(yh R C b s x u).items,y.paths.length<=1000∧∀ l∈y.paths,l.length<=1000000:=by
 have ho:s.order.length<=C.length:=yS h.nd h.lt
 have key:∀ y∈(yh R C b s x u).items,∃ (i:Nat) (c:zq) (Q:List zF),i < C.length∧c∈C∧y=⟨(i:Int),Xp Q b c⟩:=fun y hy=>by
  obtain ⟨k,hk,rfl⟩:=List.mem_map.1 hy;rw [List.mem_range] at hk;obtain ⟨i,hi⟩:∃ i,s.order[k]? = some i:=⟨_,zq0 hk⟩;have hic:=h.lt i (zq2 hi);obtain ⟨c,hc⟩:∃ c,C[i]? = some c:=⟨_,zq0 hic⟩;exact ⟨i,c,_,hic,zq2 hc,zdF hi hc⟩
 refine ⟨⟨fun y hy=>?_,zgM _ _ _ _⟩,?_,Nat.le_trans (Ys _ _ _ _).1 (by omega),fun y hy=>?_⟩
 ·obtain ⟨i,c,Q,hi,_,rfl⟩:=key y hy
  refine ⟨by unfold zcE;simp only;omega,fun l hl=>?_⟩;obtain ⟨f,_,rfl⟩:=List.mem_map.1 hl;exact zgM _ _ _ _
 ·unfold yh zai
  simp only;rw [zq4,List.length_range];omega
 ·obtain ⟨i,c,Q,_,hc,rfl⟩:=key y hy
  refine ⟨by simp only;unfold Xp;rw [zq4];exact hF c hc,fun l hl=>?_⟩;obtain ⟨f,_,rfl⟩:=List.mem_map.1 hl;exact Nat.le_trans (Ys _ _ _ _).1 (by omega)
theorem zd8 {R:List zF} {C:List zq} {b:Int} {s:ASt} (h:zab R C b s) (k:Nat):s.rules.take (R.length+(zY C (s.order.take k)).length)=R++zY C (s.order.take k)∧R.length+(zY C (s.order.take k)).length<=s.rules.length:=by
 have e:s.rules=(R++zY C (s.order.take k))++zY C (s.order.drop k):=by
  rw [h.rules,List.append_assoc];unfold zY;rw [<- List.flatMap_append,zrd]
 rw [e,<- zq3,List.take_append_of_le_length (zrj _),zrk];exact ⟨rfl,by rw [zq3 (bs:=zY C (s.order.drop k))];omega⟩
def znc (w:World) (q:Int × zL) (e:Ending) (w':World):Prop:=Chg (fun _=>False) w w' ∧
 ∃ iv sv,e=.returned (.tuple #[.agg #[iv,sv],.int .i64 q.1])∧xg w' iv (fun k=>w.heap.size<=k∧k < w'.heap.size) q.2.items∧w'.ownsRow w.heap.size 153 2 sv q.2.steps.length (Zv q.2.steps)
theorem Xs (w:World) (G:Nat->Prop):xg w (.slice none 0 0) G []:=⟨none,0,rfl,by simp,fun j x hj=>by simp at hj⟩
theorem zbl (w:World) (base:Nat) (e:TypeId) (size:Nat):w.ownsRow base e size (.slice none 0 0) 0 []:=⟨by simp,.inl ⟨rfl,rfl⟩⟩
theorem zdd {w:World} {la:Option Addr} {n cap m:Nat} {G:Nat->Prop} {R:List zF} (h:zX w (.slice la n cap) G R) (hm:m<=R.length):zX w (.slice la m cap) G (R.take m):=by
 obtain ⟨la',cap',e,h2,h3⟩:=h;cases e;have hl:(R.take m).length=m:=by rw [zq5];omega
 refine ⟨la,cap,by rw [hl],by rw [hl];omega,fun j r hj=>?_⟩;rw [List.getElem?_take] at hj;split at hj
 ·exact h3 j r hj
 ·cases hj
theorem zhB (a:Nat):(ZW a).size=2:=by simp [ZW,Zg,ByteArray.size]
structure zqs (W:World) (b0 bR base:Nat) (oa va:Option Addr) (oc vc:Nat) (s:ASt) (vp:Value) (wb:Nat) (L:zE):Prop where
 out:W.heap[b0]? = some (.cells #[.slice none 0 0,.slice none 0 0] 83 (0,0))
 res:W.heap[bR]? = some (.cells #[.slice oa s.order.length oc,.slice va s.rules.length vc] 165 (0,0))
 ord:W.ownsRow base 3 1 (.slice oa s.order.length oc) s.order.length (Yj s.order)
 rul:W.ownsRow base 66 2 (.slice va s.rules.length vc) s.rules.length (zD s.rules)
 stp:W.ownsRow wb 153 2 vp L.length (Zv L)
theorem zqs.chg {W W':World} {b0 bR base:Nat} {oa va:Option Addr} {oc vc:Nat} {s:ASt} {vp:Value} {wb:Nat} {L:zE} (h:zqs W b0 bR base oa va oc vc s vp wb L) {S:Nat->Prop} (k:Chg S W W') (hS:∀ i,S i->W.heap.size<=i):zqs W' b0 bR base oa va oc vc s vp wb L:=by
 have ne:∀ {i:Nat},i < W.heap.size->¬ S i:=fun h e=>by have:=hS _ e;omega
 exact ⟨k.obj (ne (zr h.out)) h.out,k.obj (ne (zr h.res)) h.res,zn h.ord k (fun i hi=>ne (h.ord.lt i hi).2),zn h.rul k (fun i hi=>ne (h.rul.lt i hi).2),zn h.stp k (fun i hi=>ne (h.stp.lt i hi).2)⟩
set_option maxHeartbeats 16000000 in
set_option maxRecDepth 100000 in
theorem znT (w:World) (ra:Option Addr) (R:List zF) (rc:Nat) (v:Value) (P:List (zq × Value)) (G:Nat->Prop) (b:Int) (x u:ByteArray) (h:Yb w ra R rc v P G) (hx:x.size<=maxLen) (hu:u.size<=maxLen) (hF:∀ c∈zk P,c.fr.length<=1000):
  Calls Tryz.prog 96 #[.slice ra R.length rc,v,.string x,.string u,.int .i64 b] w (znc w (xl R (zk P) x u b)):=by
 have HA:=ze h;have HX:=ze hx;have HU:=ze hu
 have RSZ:=ze (show R.length<=400->∀ r∈R,r.1.size<=400∧r.2.size<=maxLen from fun hl r hr=>⟨h.size hl r hr,by
  obtain ⟨_,_,_,_,q⟩:=h.rules;obtain ⟨j,hj⟩:=List.mem_iff_getElem?.1 hr;obtain ⟨_,_,_,_,_,_,q2⟩:=q j r hj;exact q2.2⟩)
 obtain ⟨la,lcap,rfl,_,_⟩:=h.certs;have k1:=zi (fun _=>False) w (.cells #[.slice none 0 0,.slice none 0 0] 83);have O1:=ze (zh w (.cells #[.slice none 0 0,.slice none 0 0] 83));have K1:=ze k1;have h1:=h.chg k1;clear k1 h hx hu;cases hacc:Zc R (zk P) b with
 | error k=>
  as_aux_lemma=>
  have ME:xl R (zk P) x u b=(k,⟨[],[]⟩):=by unfold xl;rw [hacc]
  rw [ME];have RUN:=ze (zlK h1 hacc);clear hacc ME h1;go_enter Tryz.func96,Tryz.ntmps96;go_wp2_with fail;generalize w.alloc (.cells #[.slice none 0 0,.slice none 0 0] 83)=w1 at *;(with_reducible refine RUN.out.mono ?_);rintro e w2 ⟨hk0,rfl,k2⟩;have kb:=zi (fun _=>False) w2 (.cells #[.slice none 0 0,.slice none 0 0] 165);have O1b:=ze (kb.obj (fun e=>e) (k2.obj (fun e=>e) O1.out));have KB:=ze (K1.out.trans (k2.trans kb));have g0:(k != 0)=true:=by rw [zre];exact hk0
  have d0:=zf (o:=0) O1b.out rfl;have e0:=zm (o:=0) O1b.out;have d1:=zf (o:=1) O1b.out rfl;have e1:=zm (o:=1) O1b.out;clear kb RUN k2 hk0;go_wp2;obtain ⟨W,hW⟩:∃ W,W=((w2.alloc (.cells #[.slice none 0 0,.slice none 0 0] 165)).setCell ⟨w.heap.size,0,none⟩ (.slice none 0 0)).setCell ⟨w.heap.size,1,none⟩ (.slice none 0 0):=⟨_,rfl⟩;rw [<- hW];obtain ⟨ob,kW⟩:=zd6 O1b.out _ _ W hW;clear hW;have z0:W.cell? ⟨w.heap.size,0,none⟩=some (.slice none 0 0):=zf ob rfl;have z1:W.cell? ⟨w.heap.size,1,none⟩=some (.slice none 0 0):=zf ob rfl;refine bodyPost_ret (v:=.tuple #[.agg #[.slice none 0 0,.slice none 0 0],.int .i64 k]) (by simp [results,Tryz.results96,go_sem,z0,z1]) rfl ?_;exact ⟨KB.out.next kW (fun k hk e=>by omega),_,_,rfl,Xs _ _,zbl _ _ _ _⟩
 | ok s=>
 have RUN:=ze (zoA h1 hacc);obtain ⟨hc1,hc2,hc3,hc4⟩:=zcC hacc;have INV:=ze (YH hacc).1.inv;have FEW:=ze (zhL.few hacc (RSZ.out (by omega)));clear hc1 hc2 hc3 hc4 h1 RSZ;generalize hq:xl R (zk P) x u b=q;go_enter Tryz.func96,Tryz.ntmps96;go_wp2_with fail;have hs01:w.heap.size < (w.alloc (.cells #[.slice none 0 0,.slice none 0 0] 83)).heap.size:=by rw [zq8];omega
 generalize w.alloc (.cells #[.slice none 0 0,.slice none 0 0] 83)=w1 at *;(with_reducible refine RUN.out.mono ?_);rintro e w2 ⟨oa,va,oc,vc,rfl,hoo,hor,k2⟩;have kb:=zi (fun _=>False) w2 (.cells #[.slice oa s.order.length oc,.slice va s.rules.length vc] 165);have K3:=ze (K1.out.trans (k2.trans kb));have O13:=ze (kb.obj (fun e=>e) (k2.obj (fun e=>e) O1.out));have OR3:=ze (zh w2 (.cells #[.slice oa s.order.length oc,.slice va s.rules.length vc] 165));have OO3:=ze (zn hoo kb (fun _ _ e=>e));have RR3:=ze (zn hor kb (fun _ _ e=>e));have SZ:=ze (show ∀ r∈s.rules,r.1.size<=maxLen∧r.2.size<=maxLen from fun r hr=>⟨by have:=(FEW.out.2 r hr).1;unfold maxLen;omega,(FEW.out.2 r hr).2⟩);have ASK:=ze (show zbA (w2.alloc (.cells #[.slice oa s.order.length oc,.slice va s.rules.length vc] 165)) (.slice va s.rules.length vc) s.rules x from ⟨ZT RR3.out SZ.out,.inl ⟨FEW.out.1,fun r hr=>(FEW.out.2 r hr).1⟩,HX.out⟩);have q0:=zf (o:=0) OR3.out rfl;have q1:=zf (o:=1) OR3.out rfl;have HS13:=ze (show w1.heap.size<=(w2.alloc (.cells #[.slice oa s.order.length oc,.slice va s.rules.length vc] 165)).heap.size from Nat.le_trans k2.size kb.size);clear k2 kb hoo hor RUN O1;by_cases htp:ZU s.rules x u b=0
 rotate_left
 ·as_aux_lemma=>
  have ME:q=(ZU s.rules x u b,⟨[],[]⟩):=by rw [<- hq];unfold xl;rw [hacc];exact if_neg htp
  have PA:=ze (zpm ASK.out u HU.out htp);clear hacc ASK hq;subst ME;generalize ZU s.rules x u b=k at *;go_wp2_with fail;generalize w2.alloc (.cells #[.slice oa s.order.length oc,.slice va s.rules.length vc] 165)=w3 at *;(with_reducible refine PA.out.mono ?_);rintro e w4 ⟨rfl,k4⟩;have O1b:=ze (k4.obj (fun e=>e) O13.out);have KB:=ze (K3.out.trans k4);have g0:(k != 0)=true:=by rw [zre];exact htp
  have d0:=zf (o:=0) O1b.out rfl;have e0:=zm (o:=0) O1b.out;have d1:=zf (o:=1) O1b.out rfl;have e1:=zm (o:=1) O1b.out;clear PA k4 htp q0 q1;go_wp2;obtain ⟨W,hW⟩:∃ W,W=(w4.setCell ⟨w.heap.size,0,none⟩ (.slice none 0 0)).setCell ⟨w.heap.size,1,none⟩ (.slice none 0 0):=⟨_,rfl⟩;rw [<- hW];obtain ⟨ob,kW⟩:=zd6 O1b.out _ _ W hW;clear hW;have z0:W.cell? ⟨w.heap.size,0,none⟩=some (.slice none 0 0):=zf ob rfl;have z1:W.cell? ⟨w.heap.size,1,none⟩=some (.slice none 0 0):=zf ob rfl;refine bodyPost_ret (v:=.tuple #[.agg #[.slice none 0 0,.slice none 0 0],.int .i64 k]) (by simp [results,Tryz.results96,go_sem,z0,z1]) rfl ?_;exact ⟨KB.out.next kW (fun k hk e=>by omega),_,_,rfl,Xs _ _,zbl _ _ _ _⟩
 have ME1:=ze (fun (hc:yF R.length (zk P) (yh R (zk P) b s x u))=>show q=(0,zgE R.length (zk P) (yh R (zk P) b s x u)) from by rw [<- hq];unfold xl;rw [hacc];simp only;rw [if_pos htp,if_pos hc]);have ME2:=ze (fun (hc:¬ yF R.length (zk P) (yh R (zk P) b s x u))=>show q=(2,⟨[],[]⟩) from by rw [<- hq];unfold xl;rw [hacc];simp only;rw [if_pos htp,if_neg hc]);have WF:=ze (zfc INV.out (by rw [zQ];exact HA.out.few) hF x u);have PA:=ze (zjn ASK.out u HU.out htp);have EW:=ze (show yh R (zk P) b s x u=⟨zai (zk P) R b s.order s.order.length,xT s.rules x u b⟩ from rfl);generalize yh R (zk P) b s x u=wh at *;have PS:=ze (Ys s.rules x u b).1;generalize xT s.rules x u b=L at *;obtain ⟨IT,hIT⟩:∃ IT:Nat->List zP,IT=zai (zk P) R b s.order:=⟨_,rfl⟩;have IT0:=ze (show IT 0=[] from by rw [hIT];rfl)
 have ITS:=ze (fun (k i:Nat) c (hi:s.order[k]? = some i) (hc:(zk P)[i]? = some c)=>show IT (k+1)=IT k++[⟨(i:Int),Xp (R++zY (zk P) (s.order.take k)) b c⟩] from by
  rw [hIT,zer,zdF hi hc])
 obtain ⟨AH,hAH⟩:∃ AH:Nat->Nat,AH=fun k=>R.length+(zY (zk P) (s.order.take k)).length:=⟨_,rfl⟩;have AH0:=ze (show AH 0=R.length from by rw [hAH];simp [zY])
 have AHS:=ze (fun (k i:Nat) c (hi:s.order[k]? = some i) (hc:(zk P)[i]? = some c)=>show AH (k+1)=AH k+c.fr.length from by
  rw [hAH];simp only;rw [zri,hi,Option.toList_some,XF hc,zq3];unfold yr;rw [zq4];omega)
 have AHT:=ze (fun k=>show s.rules.take (AH k)=R++zY (zk P) (s.order.take k)∧AH k<=s.rules.length from by rw [hAH];exact zd8 INV.out k);have JUST:=ze (fun (k i:Nat) c (hi:s.order[k]? = some i) (hc:(zk P)[i]? = some c)=>zeH (INV.out.just k i c hi hc));have ITL:=ze (fun k=>show (IT k).length=k from by rw [hIT];unfold zai;simp);rw [<- hIT] at EW;clear hIT hAH hacc ASK htp hq;have PCL:=zQ P;have OLT:=ze (fun i (hi:i∈s.order)=>show i < P.length from by have:=INV.out.lt i hi;omega);have CTO:=ze (fun (i:Nat) q (hq:P[i]? = some q)=>Zy hq);have OLN:=ze (show s.order.length<=P.length from by have:=yS INV.out.nd INV.out.lt;omega);have PFW:=HA.out.few;clear PCL INV;have hs23:(w2.alloc (.cells #[.slice oa s.order.length oc,.slice va s.rules.length vc] 165)).heap.size=w2.heap.size+1:=zq8 _ _;have HS3:=ze hs23;clear hs23;go_wp2_with fail;clear q0 q1;generalize w2.alloc (.cells #[.slice oa s.order.length oc,.slice va s.rules.length vc] 165)=w3 at *;generalize w2.heap.size=bR at *;(with_reducible refine PA.out.mono ?_);rintro e w4 ⟨vp,rfl,hst,k4⟩;obtain ⟨sa,sc,rfl⟩:=zl hst;have ka:=zi (fun _=>False) w4 (.cells #[.slice none 0 0,.slice sa L.length sc] 83)
 have KP0:=ze (show XR (w4.alloc (.cells #[.slice none 0 0,.slice sa L.length sc] 83)) (w4.alloc (.cells #[.slice none 0 0,.slice sa L.length sc] 83)) w4.heap.size (.slice none 0 0) (.slice sa L.length sc) [] (fun _=>False) from
  ⟨zh _ _,⟨rfl,.inl ⟨rfl,rfl⟩⟩,fun x hx=>(by cases hx),fun _ e=>e.elim⟩)
 have M4:=ze (show zqs w4 w.heap.size bR w1.heap.size oa va oc vc s (.slice sa L.length sc) w3.heap.size L from
  ⟨k4.obj (fun e=>e) O13.out,k4.obj (fun e=>e) OR3.out,zn OO3.out k4 (fun _ _ e=>e),zn RR3.out k4 (fun _ _ e=>e),hst⟩)
 have KM:=ze (K3.out.trans (k4.trans ka));have KA:=ze ka
 have MM:=ze (fun W (kW:Chg (fun j=>j=w4.heap.size) (w4.alloc (.cells #[.slice none 0 0,.slice sa L.length sc] 83)) W)=>
  show zqs W w.heap.size bR w1.heap.size oa va oc vc s (.slice sa L.length sc) w3.heap.size L from M4.out.chg ((KA.out.mono (fun _ _ e=>e.elim)).trans kW) (fun i e=>by omega))
 have HZ:=ze (show w.heap.size < w4.heap.size∧w1.heap.size<=w4.heap.size∧w3.heap.size<=w4.heap.size∧w4.heap.size < (w4.alloc (.cells #[.slice none 0 0,.slice sa L.length sc] 83)).heap.size from
  ⟨zr M4.out.out,Nat.le_trans HS13.out k4.size,k4.size,by rw [zq8];omega⟩)
 have q0:=zf (o:=0) (MM.out _ (Chg.refl _ _)).res rfl;clear hst k4 ka M4 KA O13 OR3 OO3 RR3 PA K3 HS3 HS13;go_wp2_with fail;clear q0;generalize w4.alloc (.cells #[.slice none 0 0,.slice sa L.length sc] 83)=wM at *;generalize w4.heap.size=br at *;go_loopw [16,56] (fun av iv wr=>∃ (k:Nat) (ivv:Value) (xs:List (zP × Value)) (Gx:Nat->Prop),k<=s.order.length∧av=.int .i64 (AH k:Int)∧iv=.int .i64 k∧Hid (XR wM wr br ivv (.slice sa L.length sc) xs Gx∧Chg (fun j=>j=br) wM wr∧xs.map Prod.fst=IT k)) (fun _ iv _=>s.order.length - (intOf iv).toNat)
 case atStart=>exact ⟨0,_,[],_,by omega,by rw [AH0.out],rfl,ze ⟨KP0.out,Chg.refl _ _,by rw [IT0.out];rfl⟩⟩
 case round=>
  obtain ⟨k,ivv,xs,Gx,hk,rfl,rfl,HI⟩:=hrel;have KP:=ze HI.out.1;have KC:=ze HI.out.2.1;have XM:=ze HI.out.2.2;clear HI;by_cases hlt:k < s.order.length
  ·as_aux_lemma=>
   obtain ⟨i,hi⟩:∃ i,s.order[k]? = some i:=⟨_,zq0 hlt⟩;have hil:=OLT.out i (zq2 hi);obtain ⟨pq,hpq⟩:∃ pq,P[i]? = some pq:=⟨_,zq0 hil⟩;have hci:=CTO.out i pq hpq;have JU:=ze (JUST.out k i _ hi hci);have ITN:=ze (ITS.out k i _ hi hci);have AHN:=AHS.out k i _ hi hci;obtain ⟨aht1,aht2⟩:=AHT.out k;have AHL:=(AHT.out (k+1)).2;have FL:=FEW.out.1;have HFI:=hF _ (zq2 hci);rw [<- aht1] at JU ITN;have M0:=ze (MM.out wr KC.out);obtain ⟨_,_,e1,_,hoc⟩:=zch M0.out.ord;cases e1;obtain ⟨go,rfl,_,oc0⟩:=hoc k i hi;have KW:=ze (KM.out.next KC.out (fun j hj e=>by have:=HZ.out.1;omega));obtain ⟨_,_,e1,_,hcv⟩:=HA.out.certs;cases e1;obtain ⟨cg,co,ca,ccp,rfl,hcg,ecv,cw0,cw1,cw2,cw3,cw4,cw5,cw6,hca⟩:=hcv i pq hpq;have CA:=ze hca;obtain ⟨⟨ck,sg,sp,fr,cf,ct,cn⟩,cv⟩:=pq;simp only at cw1 cw3 CA JU ITN AHN HFI;have hk8:=zq7 hlt OLN.out;have LOW:=ze HA.out.low;have ky:=zi (fun _=>False) wr (.cells #[.int .i64 (i:Int),.slice none 0 0] 98)
   have PI0:=ze (show xR wr (wr.alloc (.cells #[.int .i64 (i:Int),.slice none 0 0] 98)) wr.heap.size (i:Int) (.slice none 0 0) [] (fun _=>False) from
    ⟨zh _ _,⟨rfl,.inl ⟨rfl,rfl⟩⟩,fun z hz=>(by cases hz),fun _ e=>e.elim,ky,zrj _⟩)
   have c1:=zj (KW.out.trans ky) (fun e=>e) cw1;have ks:=zi (fun _=>False) (wr.alloc (.cells #[.int .i64 (i:Int),.slice none 0 0] 98)) (.cells #[.int .u16 (sg:Int)] 62);have WO0:=(zb4 ((wr.alloc (.cells #[.int .i64 (i:Int),.slice none 0 0] 98)).alloc (.cells #[.int .u16 (sg:Int)] 62)) _ 0 1 sg CA.out.sg (zf (zh (wr.alloc (.cells #[.int .i64 (i:Int),.slice none 0 0] 98)) (.cells #[.int .u16 (sg:Int)] 62)) rfl));rw [zq8] at WO0;have WO:=ze WO0;have PIS:=ze (PI0.out.chg ks);have b0:=zf (o:=0) M0.out.res rfl;have hoc2:s.order.length<=oc:=zek M0.out.ord;clear hcv hca ecv cw0 cw2 cw4 cw5 cw6 ky ks hoc hci hpq hi PI0 aht1 WO0 JUST ITS AHS AHT KP0;go_upto_region 12 with fail;clear oc0 b0;go_wp2_with fail;clear c1;generalize (wr.alloc (.cells #[.int .i64 (i:Int),.slice none 0 0] 98)).alloc (.cells #[.int .u16 (sg:Int)] 62)=wx at *;(with_reducible refine WO.out.mono ?_);rintro e wy ⟨rfl,k7⟩;have PIY:=ze (PIS.out.chg k7);have c3:=zj (KW.out.trans PIY.out.ch) (fun e=>e) cw3;clear WO k7 PIS;go_wp2_with fail;clear c3;obtain ⟨wo,hwo⟩:∃ wo,wo=wr:=⟨_,rfl⟩;subst hwo;obtain ⟨PQ,hPQ⟩:∃ PQ:List zE,PQ=Xp (s.rules.take (AH k)) b ⟨ck,sg,sp,fr,cf,ct,cn⟩:=⟨_,rfl⟩;have PQL:=ze (show PQ.length=fr.length from by rw [hPQ];unfold Xp;rw [zq4])
   have PQT:=ze (fun (j:Nat) f (hf:fr[j]? = some f)=>show PQ.take (j+1)=PQ.take j++[xT (s.rules.take (AH k)) f (ZW sg) b] from by
    rw [hPQ];unfold Xp;rw [zri,zrb,hf];rfl)
   have JUF:=ze (fun (j:Nat) f (hf:fr[j]? = some f)=>JU.out f (zq2 hf));have ITP:=ze (show IT (k+1)=IT k++[⟨(i:Int),PQ⟩] from by rw [hPQ];exact ITN.out);clear hPQ JU ITN;obtain ⟨_,_,e1,hfl0,hfc⟩:=CA.out.set.at_;cases e1;have HFC:=ze hfc;clear hfc;go_loopw [75] (fun jv wr=>∃ (j:Nat) (pv:Value) (zs:List (zE × Value)) (Gz:Nat->Prop),j<=fr.length∧jv=.int .i64 j∧Hid (xR wo wr wo.heap.size (i:Int) pv zs Gz∧zs.map Prod.fst=PQ.take j)) (fun jv _=>fr.length - (intOf jv).toNat)
   case atStart=>exact ⟨0,_,[],_,by omega,rfl,ze ⟨PIY.out,rfl⟩⟩
   case round=>
    obtain ⟨j,pv,zs,Gz,hj,rfl,HJ⟩:=hrel;obtain ⟨za,zc,ezv⟩:=zl HJ.out.1.row;subst ezv;have PI:=ze HJ.out.1;have ZM:=ze HJ.out.2
    have hzl:zs.length<=1000:=by
     have:=congrArg List.length ZM.out;rw [zq4,zq5] at this;omega
    have CK:=ze (KC.out.trans (PI.out.ch.mono (fun _ _ e=>e.elim)));clear HJ PIY;by_cases hjl:j < fr.length
    ·as_aux_lemma=>
     obtain ⟨f,hf⟩:∃ f,fr[j]? = some f:=⟨_,zq0 hjl⟩;obtain ⟨fb,fo,rfl,_,f0',hfs⟩:=HFC.out j f hf;have KWJ:=ze (KW.out.trans PI.out.ch);have f0:=zj KWJ.out (fun e=>e) f0';have PQN:=ze (PQT.out j f hf);have M1:=ze (MM.out wr CK.out);have b1:=zf (o:=1) M1.out.res rfl;have hvc:s.rules.length<=vc:=zek M1.out.rul;have SZA:=ze (show ∀ r∈s.rules,r.1.size<=maxLen∧r.2.size<=maxLen from SZ.out);have ASKJ:=ze (show zbA wr (.slice va (AH k) vc) (s.rules.take (AH k)) f from ⟨zdd (ZT M1.out.rul SZA.out) aht2,.inl ⟨by rw [zq5];omega,fun r hr=>(FEW.out.2 r (List.mem_of_mem_take hr)).1⟩,hfs⟩);have PA:=ze (zjn ASKJ.out (ZW sg) (by rw [zhB];unfold maxLen;omega) (JUF.out j f hf));have PN:=ze (Ys (s.rules.take (AH k)) f (ZW sg) b).1;generalize xT (s.rules.take (AH k)) f (ZW sg) b=l at *;have x1:AH k<=vc:=by omega
     have x2:(AH k:Int)<=(vc:Int):=by omega
     have hzz:wo.heap.size<=wr.heap.size:=PI.out.ch.size;clear f0' hf hfs ASKJ SZA PQT JUF HFC;go_wp2_with fail;clear f0 b1;(with_reducible refine PA.out.mono ?_);rintro e wa ⟨vl,rfl,hoa,k8⟩;obtain ⟨aa,ac,rfl⟩:=zl hoa;have PA2:=ze (PI.out.chg k8);have HOA:=ze (ZP hoa hzz);have y1:=zf (o:=1) PA2.out.box rfl;have kb:=zi (fun _=>False) wa (.cells #[.slice aa l.length ac] 81);have PB:=ze (PA2.out.chg kb);have HOB:=ze (zn HOA.out kb (fun _ _ e=>e));have hza:wo.heap.size<=wa.heap.size:=PA2.out.ch.size;clear PA k8 hoa kb PI HOA;go_wp2_with (at_builtin;refine Zd rfl (.tmp 95) (.tmp 97) 96 rfl 81 1 24 Tryz.underlying96 Tryz.elemSteps wo.heap.size (.slice za zs.length zc) zs.length (zs.map Prod.snd) rfl PB.out.row wa.heap.size [.slice aa l.length ac] 81 (0,0) rfl (zh _ _) rfl ?p1 ?p2 ?p3 ?p4 ?pnx)
     case p1=>intro u hu;simp at hu;subst hu;rfl
     case p2=>omega
     case p3=>unfold maxLen;omega
     case p4=>first | omega | (rw [zq8];omega)
     intro v9 w9 o9 g9;obtain ⟨a9,c9,rfl⟩:=zl o9;have PP:=PB.out.push (l:=l) (v:=.slice aa l.length ac) HOB.out g9 o9;have bx9:=PP.2;have PNX:=ze PP.1;have y4:=zf (o:=1) bx9 rfl;have f4:=zm (o:=1) bx9;have ZN:=ze (show (zs++[(l,Value.slice aa l.length ac)]).map Prod.fst=PQ.take (j+1) from by rw [PQN.out,List.map_append,ZM.out];rfl);clear PP bx9 o9 g9 PB HOB y1;go_wp2;go_roundw
     case rel=>exact ⟨j+1,_,_,_,by omega,by go_num,ze ⟨PNX.out,ZN.out⟩⟩
     case measure=>simp [intOf];omega
    ·as_aux_lemma=>
     obtain rfl:j=fr.length:=by omega
     obtain ⟨pd1,pd2⟩:=PI.out.done;rw [ZM.out,<- PQL.out,zrk] at pd1;have KPW:=ze (KP.out.chg PI.out.ch);obtain ⟨ia,ic,eiv⟩:=zl KPW.out.row;subst eiv
     have hxl:xs.length<=1000:=by
      have:=congrArg List.length XM.out;rw [zq4,ITL.out] at this;omega
     have ka:=zi (fun _=>False) wr (.cells #[.int .i64 (i:Int),.slice za zs.length zc] 98)
     have HPP:=ze (And.intro (pd1.chg ka (fun _ _ e=>e)) (fun k hk=>show wM.heap.size<=k∧∃ cs t,(wr.alloc (.cells #[.int .i64 (i:Int),.slice za zs.length zc] 98)).heap[k]? = some (.cells cs t (0,0))∧(t=81∨t=153) from by
      obtain ⟨h1,cs,t,q,ht⟩:=pd2 k hk;exact ⟨Nat.le_trans KC.out.size h1,cs,t,ka.obj (fun e=>e) q,ht⟩))
     have KPA:=ze (KPW.out.chg ka);have KCA:=ze (CK.out.trans (ka.mono (fun _ _ e=>e.elim)));have b0:=zf (o:=0) KPW.out.box rfl;have y0:=zf (o:=0) PI.out.box rfl;have y1:=zf (o:=1) PI.out.box rfl;have hwm:wM.heap.size<=wr.heap.size:=CK.out.size;clear pd1 pd2 ka KPW JUF PQT HFC;go_wp2_with (at_builtin;refine Zd rfl (.tmp 102) (.tmp 104) 80 rfl 98 2 32 Tryz.underlying80 Tryz.elemItem wM.heap.size (.slice ia xs.length ic) xs.length (Xv xs) rfl KPA.out.row _ [.int .i64 (i:Int),.slice za zs.length zc] 98 (0,0) rfl (zh _ _) rfl ?u1 ?u2 ?u3 ?u4 ?unx)
     case u1=>first | exact ⟨rfl,rfl⟩ | (intro u hu;simp at hu;rcases hu with rfl | rfl <;> rfl)
     case u2=>omega
     case u3=>unfold maxLen;omega
     case u4=>first | omega | (rw [zq8];omega)
     intro v5 w5 o5 g5;obtain ⟨a5,c5,rfl⟩:=zl o5;have KPP:=KPA.out.push (y:=⟨(i:Int),PQ⟩) HPP.out.1 HPP.out.2 g5 o5;have KPN:=ze KPP.1;have bx5:=KPP.2.1;have b5:=zf (o:=0) bx5 rfl;have f5:=zm (o:=0) bx5
     have KCN:=ze (KCA.out.next KPP.2.2 (fun i hi e=>by
      rcases e with e | e
      ·exact e
      ·have:=(KPA.out.row.lt i e).1;omega))
     have c3:=zj (KM.out.next KCN.out (fun j hj e=>by have:=HZ.out.1;omega)) (fun e=>e) cw3;have XN:=ze (show (xs++[((⟨(i:Int),PQ⟩:zP),Value.slice za zs.length zc)]).map Prod.fst=IT (k+1) from by rw [ITP.out,List.map_append,XM.out];rfl);have x3:IntKind.i64.wrap ((AH k:Int)+(fr.length:Int))=(AH (k+1):Int):=by rw [IntKind.wrap_i64] <;> omega
     have hil2:(i:Int) < (P.length:Int):=by omega
     clear KPP bx5 o5 g5 HPP KPA KCA b0 y0 y1 AHN;go_wp2;go_roundw
     case rel=>exact ⟨k+1,_,_,_,by omega,rfl,by go_num,ze ⟨KPN.out,KCN.out,XN.out⟩⟩
     case measure=>simp [intOf];omega
  ·as_aux_lemma=>
   obtain rfl:k=s.order.length:=by omega
   have M0:=ze (MM.out wr KC.out);have KW:=ze (KM.out.next KC.out (fun j hj e=>by have:=HZ.out.1;omega));obtain ⟨ia,ic,eiv⟩:=zl KP.out.row;subst eiv;have b0:=zf (o:=0) KP.out.box rfl;have b1:=zf (o:=1) KP.out.box rfl;have WI:wh.items.length=xs.length:=by rw [EW.out,<- XM.out,zq4]
   have HP:=ze (show Zz wr (.slice ia xs.length ic) (.slice sa L.length sc) (· < wr.heap.size) wh from by
    have it:=zcj KP.out.row KP.out.ent;rw [XM.out] at it;rw [EW.out];refine ⟨it.up (fun k hk=>?_),(zaf M0.out.stp).up (fun k hk=>(M0.out.stp.lt k hk).2)⟩;rcases hk with hk | hk
    ·obtain ⟨_,cs,t,q,_⟩:=KP.out.typ k hk
     exact zr q
    ·exact (KP.out.row.lt k hk).2)
   have CU:=zpE wr (R.length:Int) (.slice la P.length lcap) (.slice ia xs.length ic) (.slice sa L.length sc) P wh G (· < wr.heap.size) (HA.out.certs.chg KW.out (fun _ _ e=>e)) HP.out (fun _ e=>e) WF.out.1 WF.out.2.1 hF WF.out.2.2.1 WF.out.2.2.2;unfold zhN at CU;have CU:=ze CU;have O0:=ze M0.out.out;go_wp2_with fail;clear b0 b1;(with_reducible refine CU.out.mono ?_);rintro e wc ⟨kc,hres⟩;have OC:=ze (kc.obj (fun e=>e) O0.out);have hbl:w.heap.size < wr.heap.size:=zr O0.out;have d0:=zf (o:=0) OC.out rfl;have e0:=zm (o:=0) OC.out;have d1:=zf (o:=1) OC.out rfl;have e1:=zm (o:=1) OC.out;have KWC:=ze (KW.out.trans kc);have hsc:=kc.size;rcases hres with ⟨hco,iv,sv,rfl,hit,hrow⟩ | ⟨hno,rfl⟩
   ·have E:=ME1.out hco
    subst E;obtain ⟨i1,i2,rfl⟩:=hit.shape;obtain ⟨j1,j2,rfl⟩:=zl hrow;generalize (zgE R.length (zk P) wh).items.length=n1 at *;generalize hn2:(zgE R.length (zk P) wh).steps.length=n2 at *;have HN:=ze hn2;clear hn2;have HIT:=ze hit;have HROW:=ze hrow;clear hit hrow hco CU O0 kc ME1 ME2;go_wp2;obtain ⟨W,hW⟩:∃ W,W=(wc.setCell ⟨w.heap.size,0,none⟩ (.slice i1 n1 i2)).setCell ⟨w.heap.size,1,none⟩ (.slice j1 n2 j2):=⟨_,rfl⟩;rw [<- hW];obtain ⟨ob,kW⟩:=zd6 OC.out _ _ W hW;clear hW;have z0:W.cell? ⟨w.heap.size,0,none⟩=some (.slice i1 n1 i2):=zf ob rfl;have z1:W.cell? ⟨w.heap.size,1,none⟩=some (.slice j1 n2 j2):=zf ob rfl;refine bodyPost_ret (v:=.tuple #[.agg #[.slice i1 n1 i2,.slice j1 n2 j2],.int .i64 0]) (by simp [results,Tryz.results96,go_sem,z0,z1]) rfl ?_;have hsW:=kW.size;have hr2:=zn HROW.out kW (fun k hk e=>by have:=(HROW.out.lt k hk).1;omega);exact ⟨KWC.out.next kW (fun k hk e=>by omega),_,_,rfl,(HIT.out.chg kW (fun k hk e=>by omega)).up (fun k hk=>⟨by omega,by omega⟩),by simp only;rw [HN.out];exact ZP hr2 (Nat.le_of_lt hbl)⟩
   ·have E:=ME2.out hno
    subst E;clear hno CU O0 kc ME1 ME2;go_wp2;obtain ⟨W,hW⟩:∃ W,W=(wc.setCell ⟨w.heap.size,0,none⟩ (.slice none 0 0)).setCell ⟨w.heap.size,1,none⟩ (.slice none 0 0):=⟨_,rfl⟩;rw [<- hW];obtain ⟨ob,kW⟩:=zd6 OC.out _ _ W hW;clear hW;have z0:W.cell? ⟨w.heap.size,0,none⟩=some (.slice none 0 0):=zf ob rfl;have z1:W.cell? ⟨w.heap.size,1,none⟩=some (.slice none 0 0):=zf ob rfl;refine bodyPost_ret (v:=.tuple #[.agg #[.slice none 0 0,.slice none 0 0],.int .i64 2]) (by simp [results,Tryz.results96,go_sem,z0,z1]) rfl ?_;exact ⟨KWC.out.next kW (fun k hk e=>by omega),_,_,rfl,Xs _ _,zbl _ _ _ _⟩
structure zgA where
 ans:Int
 entry:Int
 short:Bool
 rules:List zF
def zhe:zgA:=⟨0,0,false,[]⟩
def Ye (C:List zq) (L:List Za) (c:List ByteArray):Bool:=zaJ c && (decide (zeo [] L=0) && C.all ZD)
def YC (op:Int) (c:List ByteArray) (x:Za):Bool:=decide (x.1=op) && x.2.all (Xw c)
def ZX (op:Int) (c:List ByteArray) (L:List Za):Nat:=L.findIdx (YC op c)
def zlb (op b:Int):Bool:=(decide (0<=op) && decide (op < 8)) && (decide (1<=b) && decide (b<=5000))
def zka (R:List zF) (C:List zq) (L:List Za) (op:Int) (c:List ByteArray) (b:Int):zgA:=
 match Zc R C b with
 | .ok s=>⟨(yE s.rules b c op 0 0 L).1,(yE s.rules b c op 0 0 L).2,false,s.rules⟩
 | .error _=>⟨2,0,false,[]⟩
def yG (R:List zF) (C:List zq) (L:List Za) (op:Int) (c:List ByteArray) (b:Int):Int × zgA:=
 if Ye C L c=true then (if zlb op b=true then (if 400 < R.length+ZB C then (3,zhe)
   else if ZX op c L < L.length then (0,⟨1,(ZX op c L:Int),true,[]⟩) else (0,zka R C L op c b)) else (1,zhe)) else (2,zhe)
def zbx (d:zgA) (b:Int) (x:ByteArray):List ByteArray:=if d.short=true then [x] else Xz d.rules x b
def toW (d:zgA) (b:Int) (c:List ByteArray) (x:ByteArray):Nat:=c.findIdx fun v=>decide (v∈zbx d b x)
noncomputable def zg6 (R:List zF) (C:List zq) (d:zgA) (b:Int) (c:List ByteArray) (x:ByteArray):zL:=if d.short=true then ⟨[],[]⟩ else (xl R C x (c.getD (toW d b c x) ⟨#[]⟩) b).2
structure zdL where
 entry:Int
 ways:List Int
 proofs:List zL
def znM:zdL:=⟨0,[],[]⟩
def zgK (L:List Za) (i:Int):List ByteArray:=match L[i.toNat]? with
 | some x=>x.2
 | none=>[]
noncomputable def zhZ (R:List zF) (C:List zq) (L:List Za) (c:List ByteArray) (b:Int) (d:zgA):zdL:=
 ⟨d.entry,(zgK L d.entry).map (fun x=>(toW d b c x:Int)),(zgK L d.entry).map (zg6 R C d b c)⟩
noncomputable def Yt (R:List zF) (C:List zq) (L:List Za) (op:Int) (c:List ByteArray) (b:Int):Int × zdL × Int:=
 if (yG R C L op c b).1=0∧(yG R C L op c b).2.ans=1 then (1,zhZ R C L c b (yG R C L op c b).2,0) else ((yG R C L op c b).2.ans,znM,(yG R C L op c b).1)
theorem zhI {R:List zF} {C:List zq} {b e:Int} (h:Zc R C b=.error e) (h0:zeU R.length C b=0):e=12:=by
 have hC:C.all ZD=true:=by
  unfold zeU at h0;split at h0
  · assumption
  · cases h0
 have hb:¬ (b < 1∨5000 < b)∧R.length+ZB C<=400:=by
  unfold zeU at h0;rw [if_pos hC] at h0;split at h0
  · cases h0
  split at h0
  · cases h0
  exact ⟨by assumption,by omega⟩
 have back:∀ (s:ASt) (c:zq),zab R C b s->c∈C->(xJ s.rules b c).2≠0->(xJ s.rules b c).2=12:=by
  intro s c hs hc hne;have hcm:=zcv (zrh.1 hC c hc)
  have key:∀ l:List ByteArray,(∀ x∈l,Zp x.data.toList=true)->(xM s.rules b (ZW c.sg) l).2≠0->(xM s.rules b (ZW c.sg) l).2=12:=by
   intro l;induction l with
   | nil=>intro _ h;exact absurd rfl h
   | cons x l ih=>
    intro hl hne;unfold xM at hne ⊢;by_cases h1:zH s.rules x b=0
    · rw [if_pos h1] at hne ⊢
      by_cases h2:Xk s.rules x (ZW c.sg) b=true
      · rw [if_pos h2] at hne ⊢
        exact ih (fun y hy=>hl y (List.mem_cons_of_mem _ hy)) hne
      · rw [if_neg h2] at hne;exact absurd rfl hne
    · rw [if_neg h1]
      show zH s.rules x b=12
      have ha:yI (Zp x.data.toList) b s.rules.length=0:=by
       have:=hs.small hb.2;unfold yI;rw [if_pos (hl x List.mem_cons_self),if_neg hb.1,if_neg (by omega)]
      unfold zH at h1 ⊢;rw [if_pos ha] at h1 ⊢;split at h1
      · rw [if_pos (by assumption)]
      · exact absurd rfl h1
  exact key c.fr (fun x hx=>zaU hcm.fr hx) hne
 have step:∀ (s:ASt) (i:Nat),zab R C b s->zbw C b s i=.error e->e=12:=by
  intro s i hs he;unfold zbw at he;split at he
  · cases he
  split at he
  · cases he
  rename_i c hc;split at he
  · split at he <;> cases he
  · rename_i hne
    cases he;exact back s c hs (zq2 hc) hne
 have pass:∀ (n:Nat) (s:ASt),zab R C b s->YJ C b s n=.error e->e=12:=by
  intro n;induction n with
  | zero=>intro s _ he;cases he
  | succ n ih=>
   intro s hs he;unfold YJ at he;cases hp:YJ C b s n with
   | error e'=>rw [hp] at he;cases he;exact ih s hs hp
   | ok u=>rw [hp] at he;exact step u n (hs.pass n hp).1 he
 have run:∀ (f:Nat) (s:ASt),zab R C b s->zia C b f s=.error e->e=12:=by
  intro f;induction f with
  | zero=>intro s _ he;cases he
  | succ f ih=>
   intro s hs he;unfold zia at he;cases hp:YJ C b s C.length with
   | error e'=>rw [hp] at he;cases he;exact pass _ s hs hp
   | ok u=>
    rw [hp] at he;simp only at he;split at he
    · cases he
    · exact ih u (hs.pass _ hp).1 he
 unfold Zc at h;rw [if_pos h0] at h;exact run _ _ (zab.start R C b) h
theorem zgl {R:List zF} {C:List zq} {L:List Za} {op:Int} {c:List ByteArray} {b:Int} (h:(yG R C L op c b).1≠0):(yG R C L op c b).2=zhe:=by
 unfold yG at h ⊢;split
 · split
   · split
     · rfl
     · rename_i h1 h2 h3
       rw [if_pos h1,if_pos h2,if_neg h3] at h;split at h <;> exact absurd rfl h
   · rfl
 · rfl
theorem zcs {R:List zF} {C:List zq} {L:List Za} {op:Int} {c:List ByteArray} {b:Int} (h:(yG R C L op c b).1=0):Ye C L c=true∧zlb op b=true∧R.length+ZB C<=400∧(yG R C L op c b).2=if ZX op c L < L.length then ⟨1,(ZX op c L:Int),true,[]⟩ else zka R C L op c b:=by
 unfold yG at h ⊢;by_cases h1:Ye C L c=true
 · rw [if_pos h1] at h ⊢
   by_cases h2:zlb op b=true
   · rw [if_pos h2] at h ⊢
     by_cases h3:400 < R.length+ZB C
     · rw [if_pos h3] at h;cases h
     · rw [if_neg h3]
       refine ⟨h1,h2,by omega,?_⟩;split <;> rfl
   · rw [if_neg h2] at h;cases h
 · rw [if_neg h1] at h;cases h
theorem yj {C:List zq} {L:List Za} {c:List ByteArray}:Ye C L c=true↔zaJ c=true∧zeo [] L=0∧C.all ZD=true:=by
 unfold Ye;rw [zrl,zrl,zra]
theorem XP {op b:Int}:zlb op b=true↔(0<=op∧op < 8)∧1<=b∧b<=5000:=by
 unfold zlb;simp only [zrl,zra]
theorem zpe {R:List zF} {C:List zq} {b:Int} (h1:C.all ZD=true) (h2:R.length+ZB C<=400) (h3:1<=b∧b<=5000):zeU R.length C b=0:=by
 unfold zeU;rw [if_pos h1,if_neg (by omega),if_neg (by omega)]
theorem zhr {R:List zF} {b:Int} {c:List ByteArray}:∀ {l:List ByteArray} {a:Int},zak R b c a l=1->a=1∧∀ x∈l,zH R x b=0∧zjs R b c x=true
 | [],a,h=>⟨h,fun x hx=>by cases hx⟩
 | x :: l,a,h=>by
  unfold zak at h;by_cases h1:zH R x b=0
  · rw [if_neg (by simpa using h1)] at h
    obtain ⟨h2,h3⟩:=zhr h;by_cases h4:zjs R b c x=true
    · rw [if_pos h4] at h2
      refine ⟨h2,fun y hy=>?_⟩;rcases List.mem_cons.1 hy with rfl | hy
      · exact ⟨h1,h4⟩
      · exact h3 y hy
    · rw [if_neg h4] at h2;cases h2
  · rw [if_pos h1] at h;cases h
theorem zbZ {R:List zF} {b:Int} {c:List ByteArray} {op:Int}:∀ {L:List Za} {k:Nat} {a:Int},a≠1->(yE R b c op k a L).1=1->∃ (i:Nat) (x:Za),L[i]? = some x∧(yE R b c op k a L).2=((k+i:Nat):Int)∧x.1=op∧zcZ R b c x.2=1∧∀ j,j < i->∀ y,L[j]? = some y->¬ (y.1=op∧zcZ R b c y.2=1)
 | [],k,a,ha,h=>absurd h ha
 | x :: L,k,a,ha,h=>by
  unfold yE at h ⊢;by_cases h1:x.1=op
  · rw [if_pos h1] at h ⊢
    by_cases h2:zcZ R b c x.2=1
    · rw [if_pos h2]
      exact ⟨0,x,rfl,rfl,h1,h2,fun j hj=>by omega⟩
    · rw [if_neg h2] at h ⊢
      have ha2:(if zcZ R b c x.2=2 then (2:Int) else a)≠1:=by
       split
       · decide
       · exact ha
      obtain ⟨i,y,q1,q2,q3,q4,q5⟩:=zbZ ha2 h;refine ⟨i+1,y,by simpa using q1,by rw [q2];congr 1;omega,q3,q4,fun j hj z hz=>?_⟩;cases j with
      | zero=>simp at hz;subst hz;exact fun e=>h2 e.2
      | succ j=>exact q5 j (by omega) z (by simpa using hz)
  · rw [if_neg h1] at h ⊢
    obtain ⟨i,y,q1,q2,q3,q4,q5⟩:=zbZ ha h;refine ⟨i+1,y,by simpa using q1,by rw [q2];congr 1;omega,q3,q4,fun j hj z hz=>?_⟩;cases j with
    | zero=>simp at hz;subst hz;exact fun e=>h1 e.1
    | succ j=>exact q5 j (by omega) z (by simpa using hz)
structure zgy (R:List zF) (C:List zq) (L:List Za) (op:Int) (c:List ByteArray) (b:Int) (d:zgA) (i:Nat) (x:Za):Prop where
 at_:L[i]? = some x
 entry:d.entry=i
 op_:x.1=op
 way:(d.short=true∧x.2.all (Xw c)=true)∨(d.short=false∧∃ s,Zc R C b=.ok s∧d.rules=s.rules∧zcZ s.rules b c x.2=1)
theorem zcr {R:List zF} {C:List zq} {L:List Za} {op:Int} {c:List ByteArray} {b:Int} (h:(yG R C L op c b).1=0) (h1:(yG R C L op c b).2.ans=1):∃ i x,zgy R C L op c b (yG R C L op c b).2 i x:=by
 obtain ⟨_,_,_,e⟩:=zcs h;generalize (yG R C L op c b).2=d at h1 e ⊢;by_cases hs:ZX op c L < L.length
 · rw [if_pos hs] at e
   have:=List.findIdx_getElem (xs:=L) (p:=YC op c) (w:=hs);unfold YC at this;rw [zrl,zra] at this;refine ⟨ZX op c L,_,zq0 hs,by rw [e],this.1,.inl ⟨by rw [e],this.2⟩⟩
 · rw [if_neg hs] at e
   unfold zka at e;split at e
   · rename_i s hacc
     rw [e] at h1;obtain ⟨i,x,q1,q2,q3,q4,_⟩:=zbZ (by decide) h1;refine ⟨i,x,q1,by rw [e];simpa using q2,q3,.inr ⟨by rw [e],s,hacc,by rw [e],q4⟩⟩
   · rw [e] at h1;cases h1
theorem zdY {R:List zF} {b:Int} {x v:ByteArray} (h:zH R x b=0):v∈Xz R x b↔Xk R x v b=true:=by
 have:=(zcM h).tell (t:=v);rw [<- this,zra]
theorem Xe {R:List zF} {C:List zq} {L:List Za} {op:Int} {c:List ByteArray} {b:Int} {d:zgA} {i:Nat} {x:Za} (h:zgy R C L op c b d i x) {w:ByteArray} (hw:w∈x.2):toW d b c w < c.length∧(d.short=false->zH d.rules w b=0)∧∀ v,c[toW d b c w]? = some v->v∈zbx d b w:=by
 have key:∀ v∈c,v∈zbx d b w->toW d b c w < c.length∧∀ v,c[toW d b c w]? = some v->v∈zbx d b w:=by
  intro v hv hl;have hlt:toW d b c w < c.length:=List.findIdx_lt_length_of_exists ⟨v,hv,zqY hl⟩;refine ⟨hlt,fun u hu=>?_⟩;have:=List.findIdx_getElem (xs:=c) (p:=fun v=>decide (v∈zbx d b w)) (w:=hlt);rw [zra] at this;have e:c[toW d b c w]=u:=(zq1.1 hu).2;rwa [<- e]
 rcases h.way with ⟨h1,h2⟩ | ⟨h1,s,h2,h3,h4⟩
 · have:=zrh.1 h2 w hw
   unfold Xw at this;rw [zra] at this;obtain ⟨k1,k2⟩:=key w this (by unfold zbx;rw [if_pos h1];simp);exact ⟨k1,(fun e=>by rw [h1] at e;cases e),k2⟩
 · obtain ⟨_,h5⟩:=zhr h4
   obtain ⟨h6,h7⟩:=h5 w hw;unfold zjs zeM at h7;obtain ⟨v,hv,hc⟩:=List.any_eq_true.1 h7;unfold Xw at hc;rw [zra] at hc;obtain ⟨k1,k2⟩:=key v hc (by unfold zbx;rw [h1,h3];exact hv);exact ⟨k1,fun _=>by rw [h3];exact h6,k2⟩
end Go.Proofs.YthdfplafihmejaaGreat
