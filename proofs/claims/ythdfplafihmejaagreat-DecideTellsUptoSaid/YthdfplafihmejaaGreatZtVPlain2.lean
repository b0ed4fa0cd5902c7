/-
  Package proof: Heavy, leads; Check in plain Lean. Package proof: Check. Cuts in plain Lean: whose a rule is, what is needed, where rules go; a cut proof, cut again, stays. Proofs that are right, in plain Lean: item by item; cut they stay right; what is made is right; what is right is so. QCutP: what else. Decide, in plain Lean: what is asked, what a why is, and what follows. Decide, in plain Lean: the answer is the truth; in whatever order certificates stand.
-/
import Derived.Test.YthdfplafihmejaaGreatZtQNum
import Derived.Test.YthdfplafihmejaaGreatZtQReach
import Derived.Test.YthdfplafihmejaaGreatZtAEnt
import Derived.Test.YthdfplafihmejaaGreatZtQNeed
import Derived.Test.YthdfplafihmejaaGreatZtUPlain
import Derived.Test.YthdfplafihmejaaGreatZtVPlain
namespace Go.Proofs.YthdfplafihmejaaGreat
open Go.RowKit Go.Maps
def yV (R:List zF) (x u:ByteArray) (l:zE):Bool:=Zp x.data.toList && (match Xj (R.map Zw) x.data.toList l with
 | some y=>decide (bar y=u)
 | none=>false)
set_option maxRecDepth 100000 in
theorem zeq (w:World) (v sv:Value) (R:List zF) (l:zE) (x u:ByteArray) (hv:zX w v (· < w.heap.size) R) (hl:Yl w sv (· < w.heap.size) l) (hx:x.size<=maxLen):
  Calls Tryz.prog 73 #[v,.string x,.string u,sv] w fun e w'=>e=.returned (.bool (yV R x u l))∧Chg (fun _=>False) w w':=by
 unfold yV;cases hm:Zp x.data.toList with
 | false=>
  rw [Bool.false_and];obtain ⟨la,cap,rfl,_,_⟩:=hv;obtain ⟨ka,kc,rfl,_,_⟩:=hl;have WF:=ze (zlm w la ka R.length cap l.length kc x hx hm);clear hm;go_enter Tryz.func73,Tryz.ntmps73;go_wp2_with fail;(with_reducible refine WF.out.mono ?_);rintro e w2 ⟨rfl,k2⟩;go_wp2;go_ret;exact ⟨rfl,k2⟩
 | true=>
  rw [Bool.true_and];have WA:=zno w v sv R l x hv hl hm;clear hm hv hl;cases hw:Xj (R.map Zw) x.data.toList l with
  | none=>
   rw [hw] at WA;unfold znp at WA;simp only at WA ⊢;have WA:=ze WA;clear hw;go_enter Tryz.func73,Tryz.ntmps73;go_wp2_with fail;(with_reducible refine WA.out.mono ?_);rintro e w2 ⟨rfl,k2⟩;have K2:=ze k2;clear WA k2;go_wp2;go_ret;exact ⟨rfl,K2.out⟩
  | some y=>
   rw [hw] at WA;unfold znp at WA;simp only at WA ⊢;have WA:=ze WA;clear hw;have g1:((bar y).toList == u.toList)=decide (bar y=u):=xC _ _;generalize decide (bar y=u)=b at g1 ⊢;generalize bar y=yy at *;go_enter Tryz.func73,Tryz.ntmps73;go_wp2_with fail;(with_reducible refine WA.out.mono ?_);rintro e w2 ⟨rfl,k2⟩;have K2:=ze k2;clear WA k2;go_wp2;go_ret;exact ⟨by first | rfl | simp,K2.out⟩
def XH (R:List zF) (c:zq) (ps:List zE):Bool:=(List.range ps.length).all fun j=>yV R (c.fr.getD j ⟨#[]⟩) (ZW c.sg) (ps.getD j [])
def zck (R:List zF) (C:List zq) (seen:List Nat) (x:zP):Int:=if x.cert < 0∨(C.length:Int)<=x.cert then 1 else if x.cert.toNat∈seen then 11 else match C[x.cert.toNat]? with
 | none=>1
 | some c=>if ZD c=true∧x.paths.length=c.fr.length then (if XH R c x.paths=true then 0 else 13) else 2
def zaK (C:List zq) (x:zP):List zF:=match C[x.cert.toNat]? with
 | some c=>yr c
 | none=>[]
def YF (C:List zq):List zF->List Nat->List zP->Int × List zF
 | R,_,[]=>(0,R)
 | R,seen,x :: I=>if zck R C seen x=0 then YF C (R++zaK C x) (seen++[x.cert.toNat]) I else (zck R C seen x,R)
def yZ (R:List zF) (C:List zq) (p:zL) (x u:ByteArray):Int:=if (YF C R [] p.items).1=0 then (if yV (YF C R [] p.items).2 x u p.steps=true then 0 else 13) else (YF C R [] p.items).1
structure zeR (w wr:World) (iv sv:Value) (gs n:Nat) (rv:Value) (R:List zF) (seen:List Nat):Prop where
 box:wr.heap[w.heap.size]? = some (.cells #[iv,sv] 83 (0,0))
 sn:wr.heap[gs]? = some (.cells (xL n seen).toArray 4 (0,0))
 row:wr.ownsRow w.heap.size 66 2 rv R.length (zD R)
 ch:Chg (fun _=>False) w wr
 low:w.heap.size<=gs
theorem zeR.chg {w wr w':World} {iv sv rv:Value} {gs n:Nat} {R:List zF} {seen:List Nat} (h:zeR w wr iv sv gs n rv R seen) (k:Chg (fun _=>False) wr w'):zeR w w' iv sv gs n rv R seen:=
 ⟨k.obj (fun e=>e) h.box,k.obj (fun e=>e) h.sn,zn h.row k (fun _ _ e=>e),h.ch.trans k,h.low⟩
theorem zeR.see {w wr:World} {iv sv rv:Value} {gs n i:Nat} {R:List zF} {seen:List Nat} (h:zeR w wr iv sv gs n rv R seen) (hi:i < n):zeR w (wr.setCell ⟨gs,i,none⟩ (.bool true)) iv sv gs n rv R (seen++[i]):=by
 have kc:=zG wr gs i (.bool true);refine ⟨kc.obj (fun e=>zZ h.box h.sn (by decide) e) h.box,?_,zn h.row kc (fun k hk e=>?_),h.ch.next kc (fun k hk e=>by have:=h.low;omega),h.low⟩
 ·have:=zt (o:=i) h.sn (.bool true)
  rw [this]
  congr 2
  rw [List.setIfInBounds_toArray,zeu hi]
 ·obtain ⟨cs,q⟩:=zC h.row hk
  exact zZ q h.sn (by decide) e
theorem zeR.more {w wr w':World} {iv sv rv rv':Value} {gs n:Nat} {R M:List zF} {seen:List Nat} (h:zeR w wr iv sv gs n rv R seen) (hg:wr.grownBy w' rv.ownBlock) (ho:w'.ownsRow w.heap.size 66 2 rv' (R.length+M.length) (zD R++zD M)):zeR w w' iv sv gs n rv' (R++M) seen:=by
 have kg:=Chg.of_grown hg;refine ⟨kg.obj (fun e=>?_) h.box,kg.obj (fun e=>?_) h.sn,by rw [zq3,yQ];exact ho,h.ch.next kg (fun k hk e=>by have:=(h.row.lt k e).1;omega),h.low⟩
 ·obtain ⟨cs,q⟩:=zC h.row e
  exact zZ q h.box (by decide) rfl
 ·obtain ⟨cs,q⟩:=zC h.row e
  exact zZ q h.sn (by decide) rfl
theorem zhw {c:zq} {G:Nat->Prop} {w:World} {v:Value} (h:YI w v G c):∀ r∈yr c,r.1.size<=maxLen∧r.2.size<=maxLen:=fun r hr=>by
 unfold yr at hr;obtain ⟨x,hx,rfl⟩:=List.mem_map.1 hr;refine ⟨?_,h.sp⟩;obtain ⟨la,cap,_,_,hc⟩:=h.set.at_;obtain ⟨j,hj⟩:=List.mem_iff_getElem?.1 hx;obtain ⟨_,_,_,_,_,q⟩:=hc j x hj;exact q
theorem zl3 {R:List zF} {c:zq} {ps:List zE} (h:∀ (j:Nat) x l,c.fr[j]? = some x->ps[j]? = some l->yV R x (ZW c.sg) l=true) (hl:ps.length=c.fr.length):XH R c ps=true:=by
 unfold XH;rw [zrh];intro j hj;have hjl:=List.mem_range.1 hj
 have h1:c.fr[j]? = some (c.fr.getD j ⟨#[]⟩):=by
  rw [zq6,zq0 (by omega)];rfl
 have h2:ps[j]? = some (ps.getD j []):=by
  rw [zq6,zq0 hjl];rfl
 exact h j _ _ h1 h2
theorem zl5 {R:List zF} {c:zq} {ps:List zE} {j:Nat} {x:ByteArray} {l:zE} (h1:c.fr[j]? = some x) (h2:ps[j]? = some l) (h:yV R x (ZW c.sg) l=false):XH R c ps=false:=by
 cases hb:XH R c ps with
 | false=>rfl
 | true=>
  unfold XH at hb;rw [zrh] at hb;have:=hb j (List.mem_range.2 (zq1.1 h2).1);rw [zq6,h1,zq6,h2] at this;simp only [Option.getD_some] at this;rw [h] at this;cases this
theorem ziL {C:List zq} {R:List zF} {seen:List Nat} {I:List zP} {k:Nat} {x:zP} {e:Int} (hx:I[k]? = some x) (h:zck R C seen x=e) (he:e≠0):YF C R seen (I.drop k)=(e,R):=by
 have hk:=(zq1.1 hx).1;rw [List.drop_eq_getElem_cons hk,(zq1.1 hx).2];unfold YF;rw [if_neg (by rw [h];exact he),h]
theorem zmQ {C:List zq} {R:List zF} {seen:List Nat} {I:List zP} {k:Nat} {x:zP} (hx:I[k]? = some x) (h:zck R C seen x=0):YF C R seen (I.drop k)=YF C (R++zaK C x) (seen++[x.cert.toNat]) (I.drop (k+1)):=by
 have hk:=(zq1.1 hx).1;rw [List.drop_eq_getElem_cons hk,(zq1.1 hx).2]
 conv=>lhs;unfold YF
 rw [if_pos h]
theorem zqb (n:Nat):(madeCells #[Value.bool false] n).toList=xL n []:=za6 n
set_option maxHeartbeats 16000000 in
set_option maxRecDepth 100000 in
theorem ziK (w:World) (ra:Option Addr) (R:List zF) (rc:Nat) (v iv sv:Value) (P:List (zq × Value)) (p:zL) (x u:ByteArray) (hR:zX w (.slice ra R.length rc) (· < w.heap.size) R) (hnil:ra=none->R.length=0∧rc=0) (hRl:R.length<=1000000000) (hv:ym w v (· < w.heap.size) P) (hPl:P.length<=1000) (hp:Zz w iv sv (· < w.heap.size) p) (hI:p.items.length<=1000) (hx:x.size<=maxLen):
  Calls Tryz.prog 42 #[.slice ra R.length rc,v,.agg #[iv,sv],.string x,.string u] w fun e w'=>e=.returned (.int .i64 (yZ R (zk P) p x u))∧Chg (fun _=>False) w w':=by
 have HV:=ze hv;have HP:=ze hp;have HX:=ze hx;obtain ⟨la,lcap,rfl,hl0,_⟩:=hv;obtain ⟨ia,ic,rfl⟩:=hp.items.shape;obtain ⟨sa,sc,rfl⟩:=hp.steps.shape;have CL:=zQ P
 have RSZ:=ze (show ∀ r∈R,r.1.size<=maxLen∧r.2.size<=maxLen from fun r hr=>by
  obtain ⟨_,_,_,_,q⟩:=hR;obtain ⟨j,hj⟩:=List.mem_iff_getElem?.1 hr;obtain ⟨_,_,_,_,_,_,q2⟩:=q j r hj;exact q2)
 have kb:=zi (fun _=>False) w (.cells #[.slice ia p.items.length ic,.slice sa p.steps.length sc] 83);have OB:=ze (zh w (.cells #[.slice ia p.items.length ic,.slice sa p.steps.length sc] 83));have KB:=ze kb;have CLN:=ze (zfn (w.alloc (.cells #[.slice ia p.items.length ic,.slice sa p.steps.length sc] 83)) ra R rc (· < w.heap.size) (hR.chg kb (fun _ _ e=>e)) hnil hRl);have hs1:w.heap.size<=(w.alloc (.cells #[.slice ia p.items.length ic,.slice sa p.steps.length sc] 83)).heap.size:=kb.size;have CE:=ze (show yZ R (zk P) p x u=if (YF (zk P) R [] (p.items.drop 0)).1=0 then (if yV (YF (zk P) R [] (p.items.drop 0)).2 x u p.steps=true then 0 else 13) else (YF (zk P) R [] (p.items.drop 0)).1 from rfl);generalize yZ R (zk P) p x u=res at *;obtain ⟨CI,hCI⟩:∃ CI:List zF->List Nat->Nat->Int × List zF,CI=fun R seen k=>YF (zk P) R seen (p.items.drop k):=⟨_,rfl⟩;have CE2:=ze (show res=if (CI R [] 0).1=0 then (if yV (CI R [] 0).2 x u p.steps=true then 0 else 13) else (CI R [] 0).1 from by rw [hCI];exact CE.out);obtain ⟨IE,hIE⟩:∃ IE:List zF->List Nat->zP->Int,IE=fun R seen x=>zck R (zk P) seen x:=⟨_,rfl⟩;have STOP:=ze (fun R seen k (y:zP) (e:Int) (hy:p.items[k]? = some y) (h:IE R seen y=e) (he:e≠0)=>show CI R seen k=(e,R) from by rw [hCI];rw [hIE] at h;exact ziL hy h he);have GO:=ze (fun R seen k (y:zP) (hy:p.items[k]? = some y) (h:IE R seen y=0)=>show CI R seen k=CI (R++zaK (zk P) y) (seen++[y.cert.toNat]) (k+1) from by rw [hCI];rw [hIE] at h;exact zmQ hy h);have END:=ze (fun R seen=>show CI R seen p.items.length=(0,R) from by rw [hCI];simp only [List.drop_length];rfl);have IE1:=ze (fun R seen (y:zP) (h:y.cert < 0∨(P.length:Int)<=y.cert)=>show IE R seen y=1 from by rw [hIE];unfold zck;rw [CL];exact if_pos h);have IE2:=ze (fun R seen (y:zP) (h:¬ (y.cert < 0∨(P.length:Int)<=y.cert)) (h2:y.cert.toNat∈seen)=>show IE R seen y=11 from by rw [hIE];unfold zck;rw [CL];simp only;rw [if_neg h,if_pos h2])
 have IE3:=ze (fun R seen (y:zP) (c:Nat) q (hc:y.cert=(c:Int)) (hq:P[c]? = some q) (h2:c ∉ seen)=>show IE R seen y=if ZD q.1=true∧y.paths.length=q.1.fr.length then (if XH R q.1 y.paths=true then 0 else 13) else 2 from by
  have hcl:=(zq1.1 hq).1;rw [hIE];unfold zck;rw [CL];simp only;rw [hc,Int.toNat_natCast,if_neg (by omega),if_neg h2,Zy hq])
 have RI:=ze (fun (y:zP) (c:Nat) q (hc:y.cert=(c:Int)) (hq:P[c]? = some q)=>show zaK (zk P) y=yr q.1 from by
  unfold zaK;rw [hc,Int.toNat_natCast,Zy hq])
 clear CE CL hCI hIE hR hnil hp hx kb;obtain ⟨bi,hbi,hbz,hb1,hb2⟩:=Tryz.boolInfo;go_enter Tryz.func42,Tryz.ntmps42;go_wp2_with fail;generalize w.alloc (.cells #[.slice ia p.items.length ic,.slice sa p.steps.length sc] 83)=w1 at *;(with_reducible refine CLN.out.mono ?_);rintro e w2 ⟨v2,rfl,o2,k2⟩;obtain ⟨a2,c2,rfl⟩:=zl o2;have K2:=ze (KB.out.trans k2);have OB2:=ze (k2.obj (fun e=>e) OB.out);have O2:=ze (ZP o2 hs1);have hs2:w.heap.size<=w2.heap.size:=K2.out.size;clear CLN o2 k2 KB OB;go_wp2_with (at_make;refine wpList_make_full _ rfl (.tmp 22) (.tmp 22) 145 rfl w.heap.size 4 bi (.bool false) 1 Tryz.underlying145 hbi hbz hb1 .i64 .i64 (P.length:Int) (P.length:Int) P.length rfl rfl rfl rfl ?b2 ?b3 ?b4 ?next)
 case b2=>rw [hb2];omega
 case b3=>unfold maxLen;omega
 case b4=>exact hs2
 intro w4 own4 g4;have k4:=(Chg.of_grown g4).mono (T:=fun _=>False) (fun _ _ e=>by cases e);obtain ⟨hnd,_,_⟩:=zej own4
 have CI0:=ze (show zeR w w4 (.slice ia p.items.length ic) (.slice sa p.steps.length sc) w2.heap.size P.length (.slice a2 R.length c2) R [] from
  ⟨k4.obj (fun e=>e) OB2.out,by rw [<- zqb];first | exact hnd | simpa using hnd,zn O2.out k4 (fun _ _ e=>e),K2.out.trans k4,hs2⟩)
 have q0:=zf (o:=0) CI0.out.box rfl;clear own4 g4 k4 hnd hbi hbz hb1 hb2 OB2 O2 K2;go_wp2_with fail;clear q0;generalize w2.heap.size=gs at *;go_loopw [11,27] (fun rv iv wr=>∃ (k:Nat) (Rk:List zF) (seen:List Nat),k<=p.items.length∧Rk.length<=R.length+k*1000∧iv=.int .i64 k∧Hid (zeR w wr (.slice ia p.items.length ic) (.slice sa p.steps.length sc) gs P.length rv Rk seen∧(∀ r∈Rk,r.1.size<=maxLen∧r.2.size<=maxLen)∧CI R [] 0=CI Rk seen k)) (fun _ iv _=>p.items.length - (intOf iv).toNat)
 case atStart=>exact ⟨0,R,[],by omega,by omega,rfl,ze ⟨CI0.out,RSZ.out,rfl⟩⟩
 case round=>
  obtain ⟨k,Rk,seen,hk,hRk,rfl,HI⟩:=hrel;obtain ⟨a3,c3,er⟩:=zl HI.out.1.row;subst er;have CN:=ze HI.out.1;have RS:=ze HI.out.2.1;have EQ:=ze HI.out.2.2;clear HI CI0;by_cases hlt:k < p.items.length
  ·as_aux_lemma=>
   obtain ⟨y,hy⟩:∃ y,p.items[k]? = some y:=⟨_,zq0 hlt⟩
   have ERR:=ze (fun (e:Int) (h:IE Rk seen y=e) (he:e≠0)=>show res=e from by
    rw [CE2.out,EQ.out,STOP.out Rk seen k y e hy h he];simp only;rw [if_neg he])
   have NEXT:=ze (fun (h:IE Rk seen y=0)=>show CI R [] 0=CI (Rk++zaK (zk P) y) (seen++[y.cert.toNat]) (k+1) from by rw [EQ.out,GO.out Rk seen k y hy h]);have J1:=ze (IE1.out Rk seen y);have J2:=ze (IE2.out Rk seen y);have J3:=ze (IE3.out Rk seen y);have RIY:=ze (RI.out y);obtain ⟨_,_,e1,_,hcl⟩:=HP.out.items;cases e1;obtain ⟨lb,lo,pv,rfl,_,j0,j1,hpa⟩:=hcl k _ hy;have hpl:=hpa.len;obtain ⟨pa,pc,rfl⟩:=hpa.shape;have i0:=zj CN.out.ch (fun e=>e) j0;have i1:=zj CN.out.ch (fun e=>e) j1;have HPA:=ze hpa;obtain ⟨cert,paths⟩:=y;simp only at i0 i1 hpl HPA J1 J2 J3 RIY NEXT;have kx:=zi (fun _=>False) wr (.cells #[.int .i64 cert,.slice pa paths.length pc] 98);have OX:=ze (zh wr (.cells #[.int .i64 cert,.slice pa paths.length pc] 98));have CX:=ze (CN.out.chg kx);clear hcl hy hpa j0 j1 kx CN EQ STOP GO END IE1 IE2 IE3 RI CE2;go_upto_region 6 with fail;clear i0 i1;generalize wr.alloc (.cells #[.int .i64 cert,.slice pa paths.length pc] 98)=wx at *;generalize wr.heap.size=bx at *;have x0:=zf (o:=0) OX.out rfl;by_cases hc0:cert < 0
   ·have g2:decide (cert < 0)=true:=zqY hc0
    have E:=ze (ERR.out 1 (J1.out (.inl hc0)) (by decide));clear hc0;go_wp2;go_ret;exact ⟨by rw [E.out];rfl,CX.out.ch⟩
   have g2:decide (cert < 0)=false:=zqZ hc0;obtain ⟨c,rfl⟩:∃ c:Nat,cert=(c:Int):=⟨cert.toNat,by omega⟩;by_cases hc1:c < P.length
   rotate_left
   ·have g3:decide ((P.length:Int)<=(c:Int))=true:=zqY (by omega)
    have g4:decide (P.length<=c)=true:=zqY (by omega);have E:=ze (ERR.out 1 (J1.out (.inr (by omega))) (by decide));go_wp2;go_ret;exact ⟨by rw [E.out];rfl,CX.out.ch⟩
   have g3:decide ((P.length:Int)<=(c:Int))=false:=zqZ (by omega);have g4:decide (P.length<=c)=false:=zqZ (by omega);obtain ⟨pq,hpq⟩:∃ pq,P[c]? = some pq:=⟨_,zq0 hc1⟩;have hnot:¬ ((c:Int) < 0∨(P.length:Int)<=(c:Int)):=by omega
   clear hc0;have sc0:wx.cell? ⟨gs,c,none⟩=some (.bool (decide (c∈seen))):=zf (o:=c) CX.out.sn (by rw [zqV];exact Xu hc1);by_cases hse:c∈seen
   ·have E:=ze (ERR.out 11 (J2.out hnot (by simpa using hse)) (by decide))
    rw [zqY hse] at sc0;clear hse hnot hpq;go_wp2;go_ret;exact ⟨by rw [E.out];rfl,CX.out.ch⟩
   rw [zqZ hse] at sc0;have I3:=ze (J3.out c pq rfl hpq hse);have RIC:=ze (RIY.out c pq rfl hpq);have fz:=zm (o:=c) CX.out.sn;have kset:=zG wx gs c (.bool true);have CS:=ze (CX.out.see hc1);have OS:=ze (kset.obj (fun e=>zZ OX.out CX.out.sn (by decide) e) OX.out);obtain ⟨_,_,e1,_,hcv⟩:=HV.out;cases e1;obtain ⟨cg,co,ca,ccp,rfl,hcg,ecv,cw0,cw1,cw2,cw3,cw4,cw5,cw6,hca⟩:=hcv c pq hpq;have CA:=ze hca;obtain ⟨⟨ck,sg,sp,fr,cf,ct,cn⟩,cv⟩:=pq;simp only at cw0 cw1 cw2 cw3 cw4 cw5 cw6 CA I3 RIC ecv;have m0:=zj CS.out.ch (fun e=>e) cw0;have m1:=zj CS.out.ch (fun e=>e) cw1;have m2:=zj CS.out.ch (fun e=>e) cw2;have m3:=zj CS.out.ch (fun e=>e) cw3;have m4:=zj CS.out.ch (fun e=>e) cw4;have m5:=zj CS.out.ch (fun e=>e) cw5;have m6:=zj CS.out.ch (fun e=>e) cw6;have xs0:=zf (o:=0) OS.out rfl;have kc:=zi (fun _=>False) (wx.setCell ⟨gs,c,none⟩ (.bool true)) (.cells #[.int .i64 ck,.int .u16 (sg:Int),.string sp,.slice ca fr.length ccp,.int .i64 cf,.int .i64 ct,.int .i64 cn] 64);have oc0:=zh (wx.setCell ⟨gs,c,none⟩ (.bool true)) (.cells #[.int .i64 ck,.int .u16 (sg:Int),.string sp,.slice ca fr.length ccp,.int .i64 cf,.int .i64 ct,.int .i64 cn] 64);have hsz:(wx.setCell ⟨gs,c,none⟩ (.bool true)).heap.size=wx.heap.size:=by simp [World.setCell]
   rw [hsz] at oc0;have OC:=ze oc0;clear oc0 hsz;have CC:=ze (CS.out.chg kc);have OXC:=ze (kc.obj (fun e=>e) OS.out);have CK:=zeD ((wx.setCell ⟨gs,c,none⟩ (.bool true)).alloc (.cells #[.int .i64 ck,.int .u16 (sg:Int),.string sp,.slice ca fr.length ccp,.int .i64 cf,.int .i64 ct,.int .i64 cn] 64)) ⟨ck,sg,sp,fr,cf,ct,cn⟩ ca ccp (· < w.heap.size) (CA.out.chg CC.out.ch (fun _ _ e=>e));unfold xI xZ at CK;have CK:=ze CK;clear hcv hca ecv cw0 cw1 cw2 cw3 cw4 cw5 cw6 kset kc CX OX CS OS hse hnot hpq J1 J2 J3 RIY;go_wp2_with fail;clear x0 sc0 fz m0 m1 m2 m3 m4 m5 m6 xs0;generalize (wx.setCell ⟨gs,c,none⟩ (.bool true)).alloc (.cells #[.int .i64 ck,.int .u16 (sg:Int),.string sp,.slice ca fr.length ccp,.int .i64 cf,.int .i64 ct,.int .i64 cn] 64)=wc at *;generalize wx.heap.size=bc at *;(with_reducible refine CK.out.mono ?_);rintro e w5 ⟨⟨z,rfl,hz⟩,k5⟩;have C5:=ze (CC.out.chg k5);have OC5:=ze (k5.obj (fun e=>e) OC.out);have OX5:=ze (k5.obj (fun e=>e) OXC.out);have ZZ:=ze hz;clear CK k5 CC OC OXC hz;have r0:=zf (o:=0) OC5.out rfl;have r3:=zf (o:=3) OC5.out rfl;have y1:=zf (o:=1) OX5.out rfl;cases hcb:ZD ⟨ck,sg,sp,fr,cf,ct,cn⟩ with
   | false=>
    have g5:(z != 0)=true:=by
     rw [zre];intro e;have:=ZZ.out.1 e;rw [hcb] at this;cases this
    have E:=ze (ERR.out 2 (by rw [I3.out,if_neg (by rw [hcb];intro h;cases h.1)]) (by decide));clear hcb;go_wp2;go_ret;exact ⟨by rw [E.out];rfl,C5.out.ch⟩
   | true=>
   obtain rfl:z=0:=ZZ.out.2 hcb;have HCB:=ze hcb;clear hcb ZZ
   have hfr:fr.length<=16:=by
    obtain ⟨_,q,_⟩:=of_decide_eq_true (zcv HCB.out).fr;rwa [Zr] at q
   by_cases hlen:paths.length=fr.length
   rotate_left
   ·have g6:((paths.length:Int) != (fr.length:Int))=true:=by rw [zre];omega
    have g7:(paths.length != fr.length)=true:=by rw [zre];exact hlen
    have E:=ze (ERR.out 2 (by rw [I3.out,if_neg (fun h=>hlen h.2)]) (by decide));clear hlen;go_wp2;go_ret;exact ⟨by rw [E.out];rfl,C5.out.ch⟩
   have g6:((paths.length:Int) != (fr.length:Int))=false:=by rw [zrf];omega
   have g7:(paths.length != fr.length)=false:=by rw [zrf];exact hlen
   have I4:=ze (show IE Rk seen ⟨(c:Int),paths⟩=if XH Rk ⟨ck,sg,sp,fr,cf,ct,cn⟩ paths=true then 0 else 13 from by rw [I3.out,if_pos ⟨HCB.out,hlen⟩]);have HLEN:=ze hlen;have hl1:paths.length<=fr.length:=by omega
   have hl2:fr.length<=paths.length:=by omega
   clear hlen I3;have r1:=zf (o:=1) OC5.out rfl;have ks:=zi (fun _=>False) w5 (.cells #[.int .u16 (sg:Int)] 62);have WO:=ze (zb4 (w5.alloc (.cells #[.int .u16 (sg:Int)] 62)) w5.heap.size 0 1 sg CA.out.sg (zf (zh w5 (.cells #[.int .u16 (sg:Int)] 62)) rfl));have C6:=ze (C5.out.chg ks);have OC6:=ze (ks.obj (fun e=>e) OC5.out);have OX6:=ze (ks.obj (fun e=>e) OX5.out);clear ks C5 OC5 OX5;go_wp2_with fail;clear r0 r1 r3 y1;generalize w5.alloc (.cells #[.int .u16 (sg:Int)] 62)=w6 at *;(with_reducible refine WO.out.mono ?_);rintro e w7 ⟨rfl,k7⟩;have C7:=ze (C6.out.chg k7);have OC7:=ze (k7.obj (fun e=>e) OC6.out);have OX7:=ze (k7.obj (fun e=>e) OX6.out);have y1:=zf (o:=1) OX7.out rfl;clear WO k7 C6 OC6 OX6;go_wp2_with fail;clear y1;go_loopw [74] (fun jv wr=>∃ j:Nat,j<=paths.length∧jv=.int .i64 j∧Hid (Chg (fun _=>False) w7 wr∧∀ (i:Nat) xx l,i < j->fr[i]? = some xx->paths[i]? = some l->yV Rk xx (ZW sg) l=true)) (fun jv _=>paths.length - (intOf jv).toNat)
   case atStart=>exact ⟨0,by omega,rfl,ze ⟨Chg.refl _ _,fun i xx l hi=>by omega⟩⟩
   case round=>
    obtain ⟨j,hj,rfl,HJ⟩:=hrel;have KJ:=ze HJ.out.1;have ALL:=ze HJ.out.2;have CJ:=ze (C7.out.chg KJ.out);have OCJ:=ze (KJ.out.obj (fun e=>e) OC7.out);clear HJ;by_cases hjl:j < paths.length
    ·as_aux_lemma=>
     obtain ⟨l,hl⟩:∃ l,paths[j]? = some l:=⟨_,zq0 hjl⟩;have hjf:j < fr.length:=by omega
     obtain ⟨xx,hxx⟩:∃ xx,fr[j]? = some xx:=⟨_,zq0 hjf⟩;obtain ⟨_,_,e1,_,hcl⟩:=HPA.out;cases e1;obtain ⟨lb2,lo2,pv2,rfl,_,q0',hst⟩:=hcl j l hl;obtain ⟨qa,qc,rfl⟩:=hst.shape;have q0:=zj CJ.out.ch (fun e=>e) q0';obtain ⟨_,_,e2,_,hwl⟩:=CA.out.set.at_;cases e2;obtain ⟨wg,wo,rfl,_,u0',hxs⟩:=hwl j xx hxx;have u0:=zj CJ.out.ch (fun e=>e) u0';have r3:=zf (o:=3) OCJ.out rfl;have LD:=ze (zeq wr (.slice a3 Rk.length c3) (.slice qa l.length qc) Rk l xx (ZW sg) (ZT CJ.out.row RS.out) ((hst.chg CJ.out.ch (fun _ _ e=>e)).at_.up13 (fun k hk=>zq7 hk CJ.out.ch.size)) hxs);have BAD:=ze (fun (q:yV Rk xx (ZW sg) l=false)=>ERR.out 13 (by rw [I4.out,if_neg (by rw [zl5 hxx hl q];decide)]) (by decide))
     have GOOD:=ze (fun (q:yV Rk xx (ZW sg) l=true)=>show ∀ (i:Nat) yy m,i < j+1->fr[i]? = some yy->paths[i]? = some m->yV Rk yy (ZW sg) m=true from fun i yy m hi hyy hm=>by
      rcases Nat.lt_or_ge i j with z | z
      ·exact ALL.out i yy m z hyy hm
      ·obtain rfl:i=j:=by omega
       rw [hxx] at hyy;rw [hl] at hm;cases hyy;cases hm;exact q)
     generalize yV Rk xx (ZW sg) l=bq at LD BAD GOOD;clear hcl hl hst q0' hwl hxx u0' hxs ALL;go_wp2_with fail;(with_reducible refine LD.out.mono ?_);rintro e w8 ⟨rfl,k8⟩;have K8:=ze (KJ.out.trans k8);have CH8:=ze (CJ.out.ch.trans k8);clear LD k8 q0 u0 r3;cases bq with
     | false=>
      have E:=ze (BAD.out rfl);go_wp2;go_ret;exact ⟨by rw [E.out];rfl,CH8.out⟩
     | true=>
      have E:=ze (GOOD.out rfl);go_wp2;go_roundw
      case rel=>exact ⟨j+1,by omega,by go_num,ze ⟨K8.out,E.out⟩⟩
      case measure=>simp [intOf];omega
    ·as_aux_lemma=>
     obtain rfl:j=paths.length:=by omega
     have OK:=ze (NEXT.out (by
      rw [I4.out,if_pos];exact zl3 (fun i xx l hxx hl=>ALL.out i xx l (zq1.1 hl).1 hxx hl) HLEN.out))
     have CR:=zfH wr ⟨ck,sg,sp,fr,cf,ct,cn⟩ ca ccp (· < w.heap.size) (CA.out.chg CJ.out.ch (fun _ _ e=>e)) (by simp only;omega);unfold xI at CR;have CR:=ze CR;have CSZ:=ze (zhw CA.out);have CRL:=zaE ⟨ck,sg,sp,fr,cf,ct,cn⟩;simp only at CRL;have hcrl:(yr ⟨ck,sg,sp,fr,cf,ct,cn⟩).length<=1000:=by omega
     obtain ⟨M,hM⟩:∃ M,M=yr (⟨ck,sg,sp,fr,cf,ct,cn⟩:zq):=⟨_,rfl⟩;rw [<- hM] at CR CSZ RIC hcrl;clear CRL hM ALL;have r0:=zf (o:=0) OCJ.out rfl;have r1:=zf (o:=1) OCJ.out rfl;have r2:=zf (o:=2) OCJ.out rfl;have r3:=zf (o:=3) OCJ.out rfl;have r4:=zf (o:=4) OCJ.out rfl;have r5:=zf (o:=5) OCJ.out rfl;have r6:=zf (o:=6) OCJ.out rfl;go_wp2_with fail;clear r0 r1 r2 r3 r4 r5 r6;(with_reducible refine CR.out.mono ?_);rintro e w8 ⟨v8,rfl,o8,k8⟩;obtain ⟨a8,c8,rfl⟩:=zl o8;have C8:=ze (CJ.out.chg k8);have O8:=ze o8;have SRC:=ze (zaV (ZT o8 CSZ.out));clear CR k8 o8 CJ;have hb8:w.heap.size<=w8.heap.size:=C8.out.ch.size;have hkb:=Nat.mul_le_mul_right 1000 hk;go_wp2_with (at_builtin;refine zV rfl (.tmp 90) (.tmp 92) 22 rfl 66 2 32 Tryz.underlying22 Tryz.elemRule w.heap.size (.slice a3 Rk.length c3) Rk.length (zD Rk) rfl C8.out.row a8 M.length c8 (zD M) rfl ?a1 ?a2 ?a3 ?a4 ?a5 ?a6 ?a7 ?nx1)
     case a1=>exact yt M
     case a2=>exact SRC.out
     case a3=>
      intro e;subst e;exact zir O8.out
     case a4=>exact YO M
     case a5=>omega
     case a6=>unfold maxLen;omega
     case a7=>exact hb8
     intro v9 w9 o9 g9;obtain ⟨a9,c9,rfl⟩:=zl o9;have C9:=ze (C8.out.more g9 o9);clear o9 g9 C8 O8 SRC;go_wp2;go_roundw
     case rel=>
      exact ⟨k+1,Rk++M,seen++[c],by omega,by rw [zq3];omega,by go_num,ze ⟨C9.out,fun r hr=>by
       rcases zrc.1 hr with q | q
       ·exact RS.out r q
       ·exact CSZ.out r q,by rw [OK.out,RIC.out];simp⟩⟩
     case measure=>simp [intOf];omega
  ·as_aux_lemma=>
   obtain rfl:k=p.items.length:=by omega
   have E:=ze (show res=if yV Rk x u p.steps=true then 0 else 13 from by rw [CE2.out,EQ.out,END.out];rfl);have q1:=zf (o:=1) CN.out.box rfl;have LD:=ze (zeq wr (.slice a3 Rk.length c3) (.slice sa p.steps.length sc) Rk p.steps x u (ZT CN.out.row RS.out) ((HP.out.steps.chg CN.out.ch (fun _ _ e=>e)).at_.up13 (fun k hk=>zq7 hk CN.out.ch.size)) HX.out);generalize yV Rk x u p.steps=bq at *;go_wp2_with fail;(with_reducible refine LD.out.mono ?_);rintro e w5 ⟨rfl,k5⟩;have K5:=ze (CN.out.ch.trans k5);clear LD k5 q1;cases bq with
   | true=>
    go_wp2;go_ret;exact ⟨by rw [E.out];rfl,K5.out⟩
   | false=>
    go_wp2;go_ret;exact ⟨by rw [E.out];rfl,K5.out⟩
def zfU (roots:Int) (B:List Nat) (l:zE) (i:Nat):Prop:=∃ s∈l,Xq roots B s.2=some i
def zln (roots:Int) (B:List Nat) (x:zP) (i:Nat):Prop:=∃ l∈x.paths,zfU roots B l i
def zqt (roots:Int) (B:List Nat) (I:List zP):Prop:=∀ (k:Nat) x i,I[k]? = some x->zln roots B x i->i < k
def yD (C:List zq) (I:List zP) (k:Nat):List zF:=(I.take k).flatMap (zaK C)
def XZ (I:List zP) (k:Nat):List Nat:=(I.take k).map fun x=>x.cert.toNat
structure zeQ (R:List zF) (C:List zq) (p:zL) (x u:ByteArray):Prop where
 items:∀ (k:Nat) y,p.items[k]? = some y->zck (R++yD C p.items k) C (XZ p.items k) y=0
 last:yV (R++yD C p.items p.items.length) x u p.steps=true
theorem zf0 (C:List zq) (x:zP):(zaK C x).length=zdu C x.cert:=by
 unfold zaK zdu;cases C[x.cert.toNat]? with
 | none=>rfl
 | some c=>simp only;unfold yr;rw [zq4]
theorem zgT {C:List zq} {I:List zP} {k:Nat} {x:zP} (h:I[k]? = some x):yD C I (k+1)=yD C I k++zaK C x:=by
 unfold yD;rw [zri,h,List.flatMap_append];simp
theorem zbG (C:List zq) (I:List zP) (k:Nat):(yD C I k).length=tot C I k:=by
 unfold yD tot;rw [List.length_flatMap]
 congr 1
 exact List.map_congr_left fun x _=>zf0 C x
theorem zcX {R:List zF} {C:List zq} {seen:List Nat} {x:zP}:zck R C seen x=0↔0<=x.cert∧x.cert < C.length∧x.cert.toNat ∉ seen∧∃ c,C[x.cert.toNat]? = some c∧ZD c=true∧x.paths.length=c.fr.length∧XH R c x.paths=true:=by
 unfold zck;by_cases h1:x.cert < 0∨(C.length:Int)<=x.cert
 ·rw [if_pos h1]
  exact ⟨fun e=>(by cases e),fun ⟨a,b,_⟩=>by omega⟩
 rw [if_neg h1];by_cases h2:x.cert.toNat∈seen
 ·rw [if_pos h2]
  exact ⟨fun e=>(by cases e),fun ⟨_,_,c,_⟩=>absurd h2 c⟩
 rw [if_neg h2];obtain ⟨c,hc⟩:∃ c,C[x.cert.toNat]? = some c:=⟨_,zq0 (by omega)⟩;rw [hc];simp only;by_cases h3:ZD c=true∧x.paths.length=c.fr.length
 ·rw [if_pos h3]
  by_cases h4:XH R c x.paths=true
  ·rw [if_pos h4]
   exact ⟨fun _=>⟨by omega,by omega,h2,c,rfl,h3.1,h3.2,h4⟩,fun _=>rfl⟩
  ·rw [if_neg h4]
   exact ⟨fun e=>(by cases e),fun ⟨_,_,_,d,hd,_,_,q⟩=>by cases hd;exact absurd q h4⟩
 ·rw [if_neg h3]
  exact ⟨fun e=>(by cases e),fun ⟨_,_,_,d,hd,q1,q2,_⟩=>by cases hd;exact absurd ⟨q1,q2⟩ h3⟩
theorem zg8 {R:List zF} {c:zq} {ps:List zE} (h:XH R c ps=true) {j:Nat} {x:ByteArray} {l:zE} (h1:c.fr[j]? = some x) (h2:ps[j]? = some l):yV R x (ZW c.sg) l=true:=by
 unfold XH at h;have:=zrh.1 h j (List.mem_range.2 (zq1.1 h2).1);rwa [zq6,zq6,h1,h2] at this
theorem zl4 {R:List zF} {c:zq} {ps:List zE} (hl:ps.length=c.fr.length) (h:∀ (j:Nat) x l,c.fr[j]? = some x->ps[j]? = some l->yV R x (ZW c.sg) l=true):XH R c ps=true:=by
 unfold XH;rw [zrh];intro j hj;rw [List.mem_range] at hj;obtain ⟨l,h2⟩:∃ l,ps[j]? = some l:=⟨_,zq0 hj⟩;obtain ⟨x,h1⟩:∃ x,c.fr[j]? = some x:=⟨_,zq0 (by omega)⟩;rw [zq6,zq6,h1,h2];exact h j x l h1 h2
theorem zns {R:List Rul} {w u:Wd} {s:Int × Int} (h:Ym R w s=some u):0<=s.2∧s.2 < R.length:=by
 unfold Ym at h;split at h
 ·rename_i q;exact ⟨q.1,q.2.1⟩
 ·cases h
theorem zll {R:List Rul}:∀ {l:zE} {w u:Wd},Xj R w l=some u->∀ s∈l,0<=s.2∧s.2 < R.length
 | [],w,u,_,s,hs=>by cases hs
 | x :: t,w,u,h,s,hs=>by
  unfold Xj at h;cases hx:Ym R w x with
  | none=>rw [hx] at h;cases h
  | some v=>
   rw [hx] at h;rcases List.mem_cons.1 hs with rfl | hs
   ·exact zns hx
   ·exact zll h s hs
theorem zci {R:List zF} {x u:ByteArray} {l:zE}:yV R x u l=true↔Zp x.data.toList=true∧∃ y,Xj (R.map Zw) x.data.toList l=some y∧bar y=u:=by
 unfold yV;rw [zrl];cases Xj (R.map Zw) x.data.toList l with
 | none=>exact ⟨fun ⟨_,h⟩=>(by cases h),fun ⟨_,_,h,_⟩=>by cases h⟩
 | some y=>exact ⟨fun ⟨h1,h2⟩=>⟨h1,y,rfl,of_decide_eq_true h2⟩,fun ⟨h1,z,h2,h3⟩=>⟨h1,by cases h2;exact zqY h3⟩⟩
theorem zjw {R:List zF} {x u:ByteArray} {l:zE} (h:yV R x u l=true):∀ s∈l,0<=s.2∧s.2 < R.length:=by
 obtain ⟨_,y,hy,_⟩:=zci.1 h;intro s hs;have:=zll hy s hs;rwa [zq4] at this
section
variable {R:List zF} {C:List zq} {p:zL} {x u:ByteArray}
theorem zeQ.cutOk (h:zeQ R C p x u):yF R.length C p:=by
 refine ⟨by omega,fun k y hy=>?_,?_⟩
 ·obtain ⟨h1,h2,_,c,hc,_,h4,h5⟩:=zcX.1 (h.items k y hy)
  unfold zes;simp only [zrl,decide_eq_true_eq,zrh];refine ⟨h1,h2,fun l hl=>?_⟩;obtain ⟨j,hj⟩:=List.mem_iff_getElem?.1 hl;obtain ⟨z,hz⟩:∃ z,c.fr[j]? = some z:=⟨_,zq0 (by have:=(zq1.1 hj).1;omega)⟩;have:=zjw (zg8 h5 hz hj);unfold yP;rw [zrh];intro s hs;have h6:=this s hs;rw [zq3,zbG] at h6;unfold xO;simp only [zrl,decide_eq_true_eq];omega
 ·unfold yP
  rw [zrh];intro s hs;have h6:=zjw h.last s hs;rw [zq3,zbG] at h6;unfold xO;simp only [zrl,decide_eq_true_eq];omega
end
section
variable {R:List zF} {C:List zq} {b:Int} {s:ASt} {x u:ByteArray}
theorem zjp (h:zab R C b s) {k:Nat} {y:zP} (hy:(yh R C b s x u).items[k]? = some y):∃ i c,s.order[k]? = some i∧i < C.length∧C[i]? = some c∧y=⟨(i:Int),Xp (R++zY C (s.order.take k)) b c⟩:=by
 unfold yh zai at hy;simp only at hy;rw [zrb] at hy;obtain ⟨k2,hk2,hy2⟩:=Option.map_eq_some_iff.1 hy;obtain ⟨h1,h2⟩:=zq1.1 hk2;rw [List.length_range] at h1;rw [List.getElem_range] at h2;subst h2;obtain ⟨i,hi⟩:∃ i,s.order[k]? = some i:=⟨_,zq0 h1⟩;have hic:=h.lt i (zq2 hi);obtain ⟨c,hc⟩:∃ c,C[i]? = some c:=⟨_,zq0 hic⟩;rw [zdF hi hc] at hy2;exact ⟨i,c,hi,hic,hc,hy2.symm⟩
theorem XE:(yh R C b s x u).items.length=s.order.length:=by
 unfold yh zai;simp only;rw [zq4,List.length_range]
theorem zfS (h:zab R C b s):∀ {k:Nat},k<=s.order.length->yD C (yh R C b s x u).items k=zY C (s.order.take k)∧XZ (yh R C b s x u).items k=s.order.take k
 | 0,_=>by unfold yD XZ zY;simp
 | k+1,hk=>by
  obtain ⟨h1,h2⟩:=zfS h (k:=k) (by omega);obtain ⟨y,hy⟩:∃ y,(yh R C b s x u).items[k]? = some y:=⟨_,zq0 (by rw [XE];omega)⟩;obtain ⟨i,c,hi,_,hc,e⟩:=zjp h hy;rw [zgT hy,h1,zri,hi];constructor
  ·show _=zY C (s.order.take k++[i])
   rw [XF hc]
   congr 1
   unfold zaK;rw [e];simp only [Int.toNat_natCast,hc]
  ·unfold XZ at h2 ⊢
   rw [zri,hy,List.map_append,h2,e];rfl
theorem zfv (hacc:Zc R C b=.ok s) (ht:ZU s.rules x u b=0):zeQ R C (yh R C b s x u) x u:=by
 have F:=(YH hacc).1;have hall:=(zcC hacc).1
 have lead:∀ {Q:List zF} {f t:ByteArray},ZU Q f t b=0->yV Q f t (xT Q f t b)=true:=fun {Q f t} hq=>by
  obtain ⟨m1,_,l,e,_,hw⟩:=zfh hq;refine zci.2 ⟨m1,t.data.toList,?_,?_⟩
  ·rw [e]
   have:=zdS (Q.map Zw) l f.data.toList;unfold zk8;rw [this];exact hw
  ·unfold bar;simp
 refine ⟨fun k y hy=>?_,?_⟩
 ·have hk:k < s.order.length:=by rw [<- XE (R:=R) (C:=C) (b:=b) (x:=x) (u:=u)];exact (zq1.1 hy).1
  obtain ⟨h1,h2⟩:=zfS (x:=x) (u:=u) F.inv (Nat.le_of_lt hk);obtain ⟨i,c,hi,hil,hc,rfl⟩:=zjp F.inv hy;rw [h1,h2];have hl:(Xp (R++zY C (s.order.take k)) b c).length=c.fr.length:=by unfold Xp;rw [zq4]
  refine zcX.2 ⟨by simp only;omega,by simp only;omega,?_,c,by simp only [Int.toNat_natCast];exact hc,zrh.1 hall c (zq2 hc),hl,zl4 hl fun j w l hw hlj=>?_⟩
  ·simp only [Int.toNat_natCast]
   intro hm;obtain ⟨j,hj⟩:=List.mem_iff_getElem?.1 hm;rw [List.getElem?_take] at hj;split at hj
   ·rename_i hjk
    obtain ⟨q1,q2⟩:=zq1.1 hj;obtain ⟨q3,q4⟩:=zq1.1 hi;exact absurd (q2.trans q4.symm) (List.pairwise_iff_getElem.1 F.inv.nd j k q1 q3 hjk)
   ·cases hj
  ·have hlj':(c.fr.map fun f=>xT (R++zY C (s.order.take k)) f (ZW c.sg) b)[j]? = some l:=hlj
   rw [zrb,hw] at hlj';cases hlj';exact lead (zeH (F.inv.just k i c hi hc) w (zq2 hw))
 ·have h1:=(zfS (x:=x) (u:=u) F.inv (zrj _)).1
  rw [XE,h1,zrk,<- F.inv.rules];exact lead ht
theorem zme (hacc:Zc R C b=.ok s) (ht:ZU s.rules x u b=0):xl R C x u b=(0,zgE R.length C (yh R C b s x u)):=by
 unfold xl;rw [hacc];simp only;rw [if_pos ht,if_pos (zfv hacc ht).cutOk]
end
def zkw (R:List zF) (b:Int) (l:List ByteArray):Bool:=l.any fun x=>decide (zH R x b≠0)
theorem zhq (R:List zF) (b:Int) (c:List ByteArray):∀ (l:List ByteArray) (a:Int),zak R b c a l=if zkw R b l=true then 2 else if l.all (zjs R b c)=true then a else 0
 | [],a=>by unfold zak zkw;simp
 | x :: l,a=>by
  unfold zak zkw;rw [List.any_cons,List.all_cons];by_cases h1:zH R x b=0
  · rw [if_neg (by simpa using h1),zhq R b c l,show decide (zH R x b≠0)=false from by simpa using h1,Bool.false_or]
    unfold zkw;split
    · rfl
    · cases h2:zjs R b c x with
      | true=>simp
      | false=>simp
  · rw [if_pos h1,show decide (zH R x b≠0)=true from by simpa using h1,Bool.true_or,if_pos rfl]
theorem zn8 (R:List zF) (b:Int) (c l:List ByteArray):zcZ R b c l=if zkw R b l=true then 2 else if l.all (zjs R b c)=true then 1 else 0:=zhq R b c l 1
def zkU (R:List zF) (b:Int) (c:List ByteArray) (op v:Int) (x:Za):Bool:=decide (x.1=op) && decide (zcZ R b c x.2=v)
theorem zeL (R:List zF) (b:Int) (c:List ByteArray) (op:Int):∀ (L:List Za) (k:Nat) (a:Int),(yE R b c op k a L).1=if L.any (zkU R b c op 1)=true then 1 else if L.any (zkU R b c op 2)=true then 2 else a
 | [],k,a=>by unfold yE;simp
 | x :: L,k,a=>by
  unfold yE;rw [List.any_cons,List.any_cons];unfold zkU;by_cases h1:x.1=op
  · rw [if_pos h1,zqY h1,Bool.true_and,Bool.true_and]
    by_cases h2:zcZ R b c x.2=1
    · rw [if_pos h2,zqY h2,Bool.true_or,if_pos rfl]
    · rw [if_neg h2,zqZ h2,Bool.false_or,zeL R b c op L]
      unfold zkU;split
      · rfl
      · by_cases h3:zcZ R b c x.2=2
        · rw [zqY h3,Bool.true_or,if_pos rfl,if_pos h3];split <;> rfl
        · rw [zqZ h3,Bool.false_or,if_neg h3]
  · rw [if_neg h1,zqZ h1,Bool.false_and,Bool.false_and,Bool.false_or,Bool.false_or,zeL R b c op L]
    rfl
def toB (c:List ByteArray) (t:Int):Bool:=decide (0<=t) && decide (t < c.length)
def YQ (R:List zF) (C:List zq) (c:List ByteArray):List ByteArray->List Int->List zL->Int
 | w :: W,t :: T,p :: P=>if yZ R C p w (c.getD t.toNat ⟨#[]⟩)=0 then YQ R C c W T P else yZ R C p w (c.getD t.toNat ⟨#[]⟩)
 | _,_,_=>0
theorem zg5 {R:List zF} {C:List zq} {c W:List ByteArray} {T:List Int} {P:List zL} {k:Nat} {w:ByteArray} {t:Int} {p:zL} (h1:W[k]? = some w) (h2:T[k]? = some t) (h3:P[k]? = some p):
  YQ R C c (W.drop k) (T.drop k) (P.drop k)=if yZ R C p w (c.getD t.toNat ⟨#[]⟩)=0 then YQ R C c (W.drop (k+1)) (T.drop (k+1)) (P.drop (k+1)) else yZ R C p w (c.getD t.toNat ⟨#[]⟩):=by
 rw [List.drop_eq_getElem_cons (zq1.1 h1).1,List.drop_eq_getElem_cons (zq1.1 h2).1,List.drop_eq_getElem_cons (zq1.1 h3).1,(zq1.1 h1).2,(zq1.1 h2).2,(zq1.1 h3).2,YQ]
def atB (L:List Za) (op i:Int):Bool:=decide (0<=i) && (decide (i < L.length) && decide ((L.map (·.1)).getD i.toNat (op+1)=op))
def zfI (R:List zF) (C:List zq) (L:List Za) (op:Int) (c:List ByteArray) (y:zdL):Int:=
 if Ye C L c=true then (if 0<=op∧op < 8 then (if atB L op y.entry=true∧(y.ways.length=(zgK L y.entry).length∧y.proofs.length=(zgK L y.entry).length)∧y.ways.all (toB c)=true then YQ R C c (zgK L y.entry) y.ways y.proofs else 10) else 1) else 2
theorem ziS {L:List Za} {op i:Int}:atB L op i=true↔0<=i∧∃ x,L[i.toNat]? = some x∧x.1=op:=by
 unfold atB;rw [zrl,zrl,zra,zra,zra];constructor
 · rintro ⟨h1,h2,h3⟩
   have hl:i.toNat < L.length:=by omega
   refine ⟨h1,_,zq0 hl,?_⟩;rw [zq6,zrb,zq0 hl] at h3;exact h3
 · rintro ⟨h1,x,h2,h3⟩
   have hl:=(zq1.1 h2).1;refine ⟨h1,by omega,?_⟩;rw [zq6,zrb,h2];exact h3
theorem zbK {L:List Za} {i:Int} {x:Za} (h:L[i.toNat]? = some x):zgK L i=x.2:=by unfold zgK;rw [h]
theorem zcV:∀ {l L:List Za},zeo L l=0->∀ x∈l,zaJ x.2=true
 | [],L,_,x,hx=>by cases hx
 | y :: l,L,h,x,hx=>by
  unfold zeo at h;by_cases h0:zbu y L=0
  · rw [if_pos h0] at h
    rcases List.mem_cons.1 hx with rfl | hx
    · exact (zcp.1 (zm5 h0).1).2
    · exact zcV h x hx
  · rw [if_neg h0] at h;exact absurd h h0
section
variable {R:List zF} {C:List zq} {L:List Za} {op:Int} {c:List ByteArray} {b:Int}
theorem XI {d:zgA} {i:Nat} {x:Za} (G:zgy R C L op c b d i x) {w:ByteArray} (hw:w∈x.2) (hs:d.short=false):∃ s v,Zc R C b=.ok s∧d.rules=s.rules∧c[toW d b c w]? = some v∧ZU s.rules w v b=0∧xl R C w (c.getD (toW d b c w) ⟨#[]⟩) b=(0,zgE R.length C (yh R C b s w v)):=by
 obtain ⟨k1,k2,k3⟩:=Xe G hw;obtain ⟨v,hv⟩:∃ v,c[toW d b c w]? = some v:=⟨_,zq0 k1⟩;have hl:=k3 v hv;have hg:c.getD (toW d b c w) ⟨#[]⟩=v:=by rw [zq6,hv];rfl
 rcases G.way with ⟨q1,_⟩ | ⟨_,s,q2,q3,q4⟩
 · rw [hs] at q1;cases q1
 unfold zbx at hl;rw [if_neg (by rw [hs];decide)] at hl;have hr:=k2 hs;rw [q3] at hl hr
 have ht:ZU s.rules w v b=0:=by
  have:=(zdY hr).1 hl;unfold Xk at this;rw [if_pos hr,zra] at this;unfold ZU;rw [if_pos hr,if_pos this]
 exact ⟨s,v,q2,q3,hv,ht,by rw [hg];exact zme q2 ht⟩
end
end Go.Proofs.YthdfplafihmejaaGreat
