/-
  The reference's acl: New. Package record: May; the reference's May. Package pack: Out, once more: what may change is any set of blocks that has the writer, its row, and all that is new.
-/
import Derived.Test.YtcilaocknhphnaaGreatZrCCert1
import Derived.Test.YtcilaocknhphnaaGreatZrNAt
import Derived.Test.YtcilaocknhphnaaGreatZrARef
import Derived.Test.YtcilaocknhphnaaGreatZrANew
namespace Go.Proofs.YtcilaocknhphnaaGreat
open Go.RowKit Go.Maps
set_option maxHeartbeats 2000000 in
set_option maxRecDepth 100000 in
theorem zeH (w:World) (v:Value) (l:List zO) (G:Nat->Prop) (hl:zW w v G l) (hlen:l.length<=1000) (hz:∀ x∈l,zeh x.2):
    Calls Tryz.prog 89 #[v] w (zcE w 299 l):=by
  obtain ⟨la,cap,rfl,hcap,hcm⟩:=hl.shape;have HL:=zf hl;have HZ:=zf hz;clear hl hz;unfold maxLen at hcm;go_enter Tryz.func89,Tryz.ntmps89;go_wp2;go_loopw [5] (fun iv wr=>∃ (k:Nat),k<=l.length∧iv=.int .i64 k∧Hid (zaX w 299 l k wr)) (fun iv _=>l.length - (intOf iv).toNat)
  case atStart=>exact ⟨0,by omega,rfl,zf (Xd _ _ _)⟩
  case round=>
    obtain ⟨k,hk,rfl,HI⟩:=hrel;have hwb:=HI.out.lst.lt;by_cases hlt:k < l.length
    · obtain ⟨x,hx⟩:∃ x,l[k]? = some x:=⟨_,zgS hlt⟩
      obtain ⟨g,o,sa,sc,rfl,_,d0,d1,hs⟩:=(HL.out.chg HI.out.chg (fun _ _ e=>e)).get hx;have ka:=Chg.refl (fun _=>False) wr;have AD:=zf (zeK wr w.heap.size 299 x (l.take k) k sa x.2.length sc _ G HI.out.lst (by omega) (by rw [zgX];omega) hs (HZ.out x (zgU hx)));have NX:=zf (fun h0 w2 e hr=>HI.out.next (e:=e) hx h0 ka (w2:=w2) hr);have ER:=zf (fun h0=>HI.out.err_of hx h0);have KC:=zf (HI.out.chg.trans ka);have hb1:=HI.out.chg.size;clear HI hs hx ka;generalize hk:yD x (l.take k)=ek at *;have HEK:=zf hk;obtain ⟨op,ls⟩:=x;simp only at d0 d1 AD NX;by_cases h0:ek=0
      · have NX2:=zf (NX.out h0)
        subst h0;clear NX ER hk;go_wp2_with fail;(with_reducible refine AD.out.mono ?_);rintro e w4 hr;have N4:=zf (NX2.out w4 e hr);obtain ⟨rfl,_,_⟩:=hr;clear AD NX2;go_wp2;go_roundw
        case rel=>exact ⟨k+1,by omega,by go_num,N4⟩
        case measure=>simp [intOf];omega
      · have ER2:=zf (ER.out h0)
        have g1:(ek != 0)=true:=by rw [zg6];exact h0
        have g2:(ek == 0)=false:=by rw [zg1];exact h0
        have H0:=zf h0;clear NX ER h0 hk;go_wp2_with fail;(with_reducible refine AD.out.mono ?_);rintro e w4 ⟨rfl,_,k4⟩;have K4:=zf k4;clear k4 AD;go_wp2;go_ret2;exact XO ER2.out H0.out KC.out (K4.out.mono (fun x _ e=>by omega))
    · obtain rfl:k=l.length:=by omega
      obtain ⟨⟨es,h1,h2⟩,h3⟩:=HI.out.lst;have f1:=zn (o:=1) h1;have c1:wr.cell? ⟨w.heap.size,1,none⟩=some (.int .i64 (l.length:Int)):=zg h1 rfl;have FIN:=zf (Xc HI.out);clear HI h1 h2 h3;go_wp2;go_ret2;exact FIN.out
theorem XH (w:World) (n:Int):Calls Tryz.prog 164 #[.int .i64 n] w fun e w'=>e=.returned (.bool (ZK n))∧w=w':=by
  by_cases h0:0<=n
  · have g0:decide (0<=n)=true:=zgQ h0
    have R:=zf (show ZK n=decide (n<=4611686018427387904) by unfold ZK;rw [g0];rfl);go_enter Tryz.func164,Tryz.ntmps164;go_wp2;go_ret;exact ⟨by rw [R.out];rfl,rfl⟩
  · have g0:decide (0<=n)=false:=zgR h0
    have R:=zf (show ZK n=false by unfold ZK;rw [g0];rfl);go_enter Tryz.func164,Tryz.ntmps164;go_wp2;go_ret;exact ⟨by rw [R.out];rfl,rfl⟩
theorem xX (w:World) (n:Int):Calls Tryz.prog 90 #[.int .i64 n] w fun e w'=>e=.returned (.bool (ZK n))∧w=w':=by
  by_cases h0:0<=n
  · have g0:decide (0<=n)=true:=zgQ h0
    have R:=zf (show ZK n=decide (n<=4611686018427387904) by unfold ZK;rw [g0];rfl);go_enter Tryz.func90,Tryz.ntmps90;go_wp2;go_ret;exact ⟨by rw [R.out];rfl,rfl⟩
  · have g0:decide (0<=n)=false:=zgR h0
    have R:=zf (show ZK n=false by unfold ZK;rw [g0];rfl);go_enter Tryz.func90,Tryz.ntmps90;go_wp2;go_ret;exact ⟨by rw [R.out];rfl,rfl⟩
theorem zba {r:xK} {k:Nat} {o:yE} (hk:r.objs[k]? = some o) (h:∀ x∈r.objs.take k,yM x=true) (ho:yM o=true):∀ x∈r.objs.take (k+1),yM x=true:=by
  intro x hx;rw [zha,hk] at hx;rcases zg4.1 hx with hx | hx
  · exact h x hx
  · simp at hx;subst hx;exact ho
theorem zcr {r:xK} {o:yE} (hm:o∈r.objs) (ho:yM o=false):Yl r=false:=by
  cases h:Yl r with
  | false=>rfl
  | true=>rw [(Zv.1 h).2.2.2 o hm] at ho;cases ho
set_option maxHeartbeats 4000000 in
set_option maxRecDepth 100000 in
theorem XI (w:World) (r:xK) (oa:Option Addr) (oc:Nat) (G:Nat->Prop) (h:zN w (.slice oa r.objs.length oc) G r.objs) (hf:∀ o∈r.objs,o.ents.length<=1000):
    Calls Tryz.prog 130 #[.agg #[.int .i64 r.boot,.slice oa r.objs.length oc]] w fun e w'=>e=.returned (.bool (Yl r))∧Chg (fun _=>False) w w':=by
  have H:=zf h;have kb:=zj (fun _=>False) w (.cells #[.int .i64 r.boot,.slice oa r.objs.length oc] 40);have OB:=zf (zh w (.cells #[.int .i64 r.boot,.slice oa r.objs.length oc] 40));have KB:=zf kb;have hlm:r.objs.length<=maxLen:=by obtain ⟨_,_,e,h1,h2,_⟩:=h.shape;cases e;omega
  unfold maxLen at hlm;have c0:=zg (o:=0) OB.out rfl;have c1:=zg (o:=1) OB.out rfl;have HF:=zf hf;have B0:=zf (fun q:r.boot < 0=>show Yl r=false by unfold Yl;rw [zgR (p:=0<=r.boot) (by omega)];rfl);have B1:=zf (fun q:40 < r.boot=>show Yl r=false by unfold Yl;rw [zgR (p:=r.boot<=40) (by omega)];simp);have B2:=zf (fun q:4 < r.objs.length=>show Yl r=false by unfold Yl;rw [zgR (p:=r.objs.length<=4) (by omega)];simp);have FIN:=zf (fun (a:0<=r.boot) (b:r.boot<=40) (c:r.objs.length<=4) (d:∀ x∈r.objs,yM x=true)=>show Yl r=true from Zv.2 ⟨a,b,c,d⟩);have BAD:=zf (fun (o:yE) (hm:o∈r.objs) (ho:yM o=false)=>zcr hm ho);obtain ⟨boot,objs⟩:=r;simp only at *;clear h kb hf;go_enter Tryz.func130,Tryz.ntmps130;by_cases q0:boot < 0
  · have g0:decide (boot < 0)=true:=zgQ q0
    go_wp2;go_ret;exact ⟨by rw [B0.out q0];rfl,KB.out⟩
  have g0:decide (boot < 0)=false:=zgR q0;by_cases q1:40 < boot
  · have g1:decide (40 < boot)=true:=zgQ q1
    go_wp2;go_ret;exact ⟨by rw [B1.out q1];rfl,KB.out⟩
  have g1:decide (40 < boot)=false:=zgR q1;by_cases q2:4 < objs.length
  · have g2:decide (4 < (objs.length:Int))=true:=zgQ (by omega)
    go_wp2;go_ret;exact ⟨by rw [B2.out q2];rfl,KB.out⟩
  have g2:decide (4 < (objs.length:Int))=false:=zgR (by omega);have FIN2:=zf (FIN.out (by omega) (by omega) (by omega));clear B0 B1 B2 FIN;go_wp2;go_loopw [24] (fun iv wr=>∃ k:Nat,k<=objs.length∧iv=.int .i64 k∧Hid (∀ x∈objs.take k,yM x=true)∧Hid (Chg (fun _=>False) w wr)) (fun iv _=>objs.length - (intOf iv).toNat)
  case atStart=>exact ⟨0,by omega,rfl,zf (fun x hx=>by simp at hx),KB⟩
  case round=>
    obtain ⟨k,hk,rfl,HA,HC⟩:=hrel;clear c0 c1;have hsz:w.heap.size<=wr.heap.size:=HC.out.size;by_cases hlt:k < objs.length
    · obtain ⟨o,ho⟩:∃ o,objs[k]? = some o:=⟨_,zgS hlt⟩
      obtain ⟨g,p,ea,ec,rfl,_,d0,d1,d2,he⟩:=(H.out.chg HC.out (fun _ _ e=>e)).get ho;have hmem:=zgU ho;have ka:=zj (fun _=>False) wr (.cells #[.int .i64 o.val,.slice ea o.ents.length ec,.int .i64 o.ver] 37);have LN:=zf (zeV (wr.alloc (.cells #[.int .i64 o.val,.slice ea o.ents.length ec,.int .i64 o.ver] 37)) _ o.ents G (he.chg ka (fun _ _ e=>e)) (HF.out o hmem));have KA:=zf (HC.out.trans ka);have RV:=zf (fun w=>XH w o.val);have RW:=zf (fun w=>XH w o.ver);have NXT:=zf (fun q:yM o=true=>zba (r:=⟨boot,objs⟩) ho HA.out q);have BD:=zf (BAD.out o hmem);have O1:=zf (fun q:ZK o.val=false=>show yM o=false by unfold yM;rw [q];rfl);have O2:=zf (fun q:ZK o.ver=false=>show yM o=false by unfold yM;rw [q];simp);have O3:=zf (fun q:YJ [] o.ents≠0=>show yM o=false by unfold yM;rw [zgR q];simp);have O4:=zf (fun (a:ZK o.val=true) (b:ZK o.ver=true) (c:YJ [] o.ents=0)=>show yM o=true by unfold yM;rw [a,b,zgQ c];rfl);clear ho he ka HA HC hmem;obtain ⟨val,ver,ents⟩:=o;simp only at *;generalize hbv:ZK val=bv at *;generalize hbw:ZK ver=bw at *;cases bv with
      | false=>
        go_wp2_with fail;(with_reducible refine (RV.out _).mono ?_);rintro e w2 ⟨rfl,rfl⟩;go_wp2;go_ret;exact ⟨by rw [BD.out (O1.out (by first | rfl | trivial))];rfl,KA.out⟩
      | true=>
        cases bw with
        | false=>
          go_wp2_with fail;(with_reducible refine (RV.out _).mono ?_);rintro e w2 ⟨rfl,rfl⟩;go_wp2_with fail;(with_reducible refine (RW.out _).mono ?_);rintro e w2 ⟨rfl,rfl⟩;go_wp2;go_ret;exact ⟨by rw [BD.out (O2.out (by first | rfl | trivial))];rfl,KA.out⟩
        | true=>
          go_wp2_with fail;(with_reducible refine (RV.out _).mono ?_);rintro e w2 ⟨rfl,rfl⟩;go_wp2_with fail;(with_reducible refine (RW.out _).mono ?_);rintro e w2 ⟨rfl,rfl⟩;go_wp2_with fail;(with_reducible refine LN.out.mono ?_);rintro e w2 ⟨r1,r2,k2⟩;have K2:=zf (KA.out.trans k2);by_cases hn:YJ [] ents=0
          · obtain ⟨nb,rfl,_,_⟩:=r1 hn
            have NX:=zf (NXT.out (O4.out (by first | rfl | trivial) (by first | rfl | trivial) hn));clear r1 r2 k2 LN RV RW KA NXT BD O1 O2 O3 O4 hn;go_wp2;go_roundw
            case rel=>exact ⟨k+1,by omega,by go_num,NX,K2⟩
            case measure=>simp [intOf];omega
          · obtain rfl:=r2 hn
            have BB:=zf (BD.out (O3.out hn));have g3:(YJ [] ents != 0)=true:=by rw [zg6];exact hn
            have g4:(YJ [] ents == 0)=false:=by rw [zg1];exact hn
            generalize YJ [] ents=ne at *;clear r1 r2 k2 LN RV RW KA NXT BD O1 O2 O3 O4 hn;go_wp2;go_ret;exact ⟨by rw [BB.out];rfl,K2.out⟩
    · obtain rfl:k=objs.length:=by omega
      have DONE:=zf (FIN2.out (by have:=HA.out;rw [zhc] at this;exact this));clear HA;go_wp2;go_ret;exact ⟨by rw [DONE.out];rfl,HC.out⟩
set_option maxHeartbeats 4000000 in
set_option maxRecDepth 100000 in
theorem zbW (w:World) (r:xK) (oa:Option Addr) (oc:Nat) (G:Nat->Prop) (h:zN w (.slice oa r.objs.length oc) G r.objs) (hf:∀ o∈r.objs,o.ents.length<=1000) (hz:∀ o∈r.objs,∀ x∈o.ents,zeh x.2):
    Calls Tryz.prog 26 #[.agg #[.int .i64 r.boot,.slice oa r.objs.length oc]] w fun e w'=>e=.returned (.bool (Yl r))∧Chg (fun _=>False) w w':=by
  have H:=zf h;have kb:=zj (fun _=>False) w (.cells #[.int .i64 r.boot,.slice oa r.objs.length oc] 40);have OB:=zf (zh w (.cells #[.int .i64 r.boot,.slice oa r.objs.length oc] 40));have KB:=zf kb;have hlm:r.objs.length<=maxLen:=by obtain ⟨_,_,e,h1,h2,_⟩:=h.shape;cases e;omega
  unfold maxLen at hlm;have c0:=zg (o:=0) OB.out rfl;have c1:=zg (o:=1) OB.out rfl;have HF:=zf hf;have HZ:=zf hz;have B0:=zf (fun q:r.boot < 0=>show Yl r=false by unfold Yl;rw [zgR (p:=0<=r.boot) (by omega)];rfl);have B1:=zf (fun q:40 < r.boot=>show Yl r=false by unfold Yl;rw [zgR (p:=r.boot<=40) (by omega)];simp);have B2:=zf (fun q:4 < r.objs.length=>show Yl r=false by unfold Yl;rw [zgR (p:=r.objs.length<=4) (by omega)];simp);have FIN:=zf (fun (a:0<=r.boot) (b:r.boot<=40) (c:r.objs.length<=4) (d:∀ x∈r.objs,yM x=true)=>show Yl r=true from Zv.2 ⟨a,b,c,d⟩);have BAD:=zf (fun (o:yE) (hm:o∈r.objs) (ho:yM o=false)=>zcr hm ho);obtain ⟨boot,objs⟩:=r;simp only at *;clear h kb hf hz;go_enter Tryz.func26,Tryz.ntmps26;by_cases q0:boot < 0
  · have g0:decide (boot < 0)=true:=zgQ q0
    go_wp2;go_ret;exact ⟨by rw [B0.out q0];rfl,KB.out⟩
  have g0:decide (boot < 0)=false:=zgR q0;by_cases q1:40 < boot
  · have g1:decide (40 < boot)=true:=zgQ q1
    go_wp2;go_ret;exact ⟨by rw [B1.out q1];rfl,KB.out⟩
  have g1:decide (40 < boot)=false:=zgR q1;by_cases q2:4 < objs.length
  · have g2:decide (4 < (objs.length:Int))=true:=zgQ (by omega)
    go_wp2;go_ret;exact ⟨by rw [B2.out q2];rfl,KB.out⟩
  have g2:decide (4 < (objs.length:Int))=false:=zgR (by omega);have FIN2:=zf (FIN.out (by omega) (by omega) (by omega));clear B0 B1 B2 FIN;go_wp2;go_loopw [3] (fun iv wr=>∃ k:Nat,k<=objs.length∧iv=.int .i64 k∧Hid (∀ x∈objs.take k,yM x=true)∧Hid (Chg (fun _=>False) w wr)∧wr.cell? ⟨w.heap.size,1,none⟩=some (.slice oa objs.length oc)) (fun iv _=>objs.length - (intOf iv).toNat)
  case atStart=>exact ⟨0,by omega,rfl,zf (fun x hx=>by simp at hx),KB,c1⟩
  case round=>
    obtain ⟨k,hk,rfl,HA,HC,cb⟩:=hrel;clear c0 c1;have hsz:w.heap.size<=wr.heap.size:=HC.out.size;by_cases hlt:k < objs.length
    · obtain ⟨o,ho⟩:∃ o,objs[k]? = some o:=⟨_,zgS hlt⟩
      obtain ⟨g,p,ea,ec,rfl,_,d0,d1,d2,he⟩:=(H.out.chg HC.out (fun _ _ e=>e)).get ho;have hmem:=zgU ho;have ka:=zj (fun _=>False) wr (.cells #[.int .i64 o.val,.slice ea o.ents.length ec,.int .i64 o.ver] 37);have LN:=zf (zeH (wr.alloc (.cells #[.int .i64 o.val,.slice ea o.ents.length ec,.int .i64 o.ver] 37)) _ o.ents G (he.chg ka (fun _ _ e=>e)) (HF.out o hmem) (HZ.out o hmem));have KA:=zf (HC.out.trans ka);have RV:=zf (fun w=>xX w o.val);have RW:=zf (fun w=>xX w o.ver);have NXT:=zf (fun q:yM o=true=>zba (r:=⟨boot,objs⟩) ho HA.out q);have BD:=zf (BAD.out o hmem);have O1:=zf (fun q:ZK o.val=false=>show yM o=false by unfold yM;rw [q];rfl);have O2:=zf (fun q:ZK o.ver=false=>show yM o=false by unfold yM;rw [q];simp);have O3:=zf (fun q:YJ [] o.ents≠0=>show yM o=false by unfold yM;rw [zgR q];simp);have O4:=zf (fun (a:ZK o.val=true) (b:ZK o.ver=true) (c:YJ [] o.ents=0)=>show yM o=true by unfold yM;rw [a,b,zgQ c];rfl);clear ho he ka HA HC hmem;obtain ⟨val,ver,ents⟩:=o;simp only at *;generalize hbv:ZK val=bv at *;generalize hbw:ZK ver=bw at *;have OBJ:=zf (zh wr (.cells #[.int .i64 val,.slice ea ents.length ec,.int .i64 ver] 37));go_wp2_with fail;(with_reducible refine LN.out.mono ?_);rintro e w2 ⟨r1,r2,k2⟩;have K2:=zf (KA.out.trans k2);have OB2:=k2.obj (fun e=>e) OBJ.out;have p0:=zg (o:=0) OB2 rfl;have p2:=zg (o:=2) OB2 rfl;have cb2:=zi k2 (fun e=>e) (zi (zj (fun _=>False) wr (.cells #[.int .i64 val,.slice ea ents.length ec,.int .i64 ver] 37)) (fun e=>e) cb)
      have FIN3:∃ ev:Value,e=.returned (.tuple #[ev,.int .i64 (YJ [] ents)]):=by
        by_cases hn:YJ [] ents=0
        · obtain ⟨nb,rfl,_,_⟩:=r1 hn
          exact ⟨_,by rw [hn]⟩
        · exact ⟨_,r2 hn⟩
      obtain ⟨ev,rfl⟩:=FIN3;clear r1 r2 k2 LN OB2 OBJ cb;cases bv with
      | false=>
        go_wp2_with fail;(with_reducible refine (RV.out _).mono ?_);rintro e w3 ⟨rfl,rfl⟩;go_wp2;go_ret;exact ⟨by rw [BD.out (O1.out (by first | rfl | trivial))];rfl,K2.out⟩
      | true=>
        cases bw with
        | false=>
          go_wp2_with fail;(with_reducible refine (RV.out _).mono ?_);rintro e w3 ⟨rfl,rfl⟩;go_wp2_with fail;(with_reducible refine (RW.out _).mono ?_);rintro e w3 ⟨rfl,rfl⟩;go_wp2;go_ret;exact ⟨by rw [BD.out (O2.out (by first | rfl | trivial))];rfl,K2.out⟩
        | true=>
          by_cases hn:YJ [] ents=0
          · have NX:=zf (NXT.out (O4.out (by first | rfl | trivial) (by first | rfl | trivial) hn))
            rw [hn];clear NXT BD O1 O2 O3 O4 hn;go_wp2_with fail;(with_reducible refine (RV.out _).mono ?_);rintro e w3 ⟨rfl,rfl⟩;go_wp2_with fail;(with_reducible refine (RW.out _).mono ?_);rintro e w3 ⟨rfl,rfl⟩;go_wp2;go_roundw
            case rel=>exact ⟨k+1,by omega,by go_num,NX,K2,cb2⟩
            case measure=>simp [intOf];omega
          · have BB:=zf (BD.out (O3.out hn))
            have g3:(YJ [] ents != 0)=true:=by rw [zg6];exact hn
            have g4:(YJ [] ents == 0)=false:=by rw [zg1];exact hn
            generalize YJ [] ents=ne at *;clear NXT BD O1 O2 O3 O4 hn;go_wp2_with fail;(with_reducible refine (RV.out _).mono ?_);rintro e w3 ⟨rfl,rfl⟩;go_wp2_with fail;(with_reducible refine (RW.out _).mono ?_);rintro e w3 ⟨rfl,rfl⟩;go_wp2;go_ret;exact ⟨by rw [BB.out];rfl,K2.out⟩
    · obtain rfl:k=objs.length:=by omega
      have DONE:=zf (FIN2.out (by have:=HA.out;rw [zhc] at this;exact this));clear HA;go_wp2;go_ret;exact ⟨by rw [DONE.out];rfl,HC.out⟩
theorem Yn {P:Program} {w:World} {ops:Array Oper} {rest:List Oper} {o:Oper} {a:Act} {Q:Exit->Act->World->Prop} (hgd:o.guard=none) (sl x:Operand) (t u:TypeId)
    (ho:o.op=.call { callee:=.builtin .append,args:=#[sl,x],argTypes:=#[t,u] }) (e:TypeId) (ht:P.underlying t=some (.slice e)) (hu:P.underlying u=some .string)
    (hE:(P.info? e).map (fun i=>(i.zero,i.size,i.bytes))=some (some (.int .u8 0),1,1))
    (base:Nat) (v:Value) (n:Nat) (xs:List Value) (hs:a.eval sl=v) (hown:w.ownsRow base e 1 v n xs) (s:ByteArray) (hx:a.eval x=.string s)
    (h63:n+s.size<=140737488355328) (hbase:base<=w.heap.size)
    (h:∀ v' w',w'.ownsRow base e 1 v' (n+s.size) (xs++zu s.data.toList)->w.grownBy w' v.ownBlock->Zd w v v'->wpList P ops Q rest (a.put o.dst v') w'):wpList P ops Q (o :: rest) a w:=by
  obtain ⟨i,hi,q1,q2,q3⟩:=info_parts hE;refine wpList_plain hgd fun K hK=>?_;obtain ⟨v',w',hr,h2,h3,h4⟩:=Lib.run_append_own_string (P:=P) w base t u o.type e i ht hu hi q1 q2 q3 v n xs hown s (by unfold maxLen;omega) h63 hbase
  have sn:Zd w v v':=by
    have hxl:xs.length=n:=by simpa using hown.1
    rcases hown.2 with ⟨rfl,rfl⟩ | ⟨g,cap,cur,rfl,hbg,hg,hnc,hcm,hcs,htake⟩
    · have hx:xs=[]:=List.eq_nil_of_length_eq_zero hxl
      subst hx;obtain ⟨v2,w2,hr2,p1,_,_⟩:=Lib.run_append_own_string (P:=P) w w.heap.size t u o.type e i ht hu hi q1 q2 q3 (.slice none 0 0) 0 [] (World.ownsRow_nil _ _ _ _) s (by unfold maxLen;omega) h63 (zhb _);rw [hr] at hr2;cases hr2;exact .inr fun k hk=>(p1.lt k hk).1
    · by_cases hroom:n+s.size<=cap
      · have hcs':cur.size=cap:=by simpa using hcs
        have hr2:=Lib.run_append_room_string (P:=P) w t u o.type e i ht hu hi q2 g n cap cur hg s hroom (by omega);rw [hr] at hr2;cases hr2;exact .inl rfl
      · have holds:∀ j u,xs[j]? = some u->w.cell? ((⟨g,0,none⟩:Addr).add j)=some u:=hown.cells (g:=g) rfl
        have hr2:=Lib.run_append_grow_string (P:=P) w t u o.type e i (.int .u8 0) ht hu hi q1 ⟨g,0,none⟩ n cap xs (by rw [q2];simpa using hxl) holds s (by omega) (by omega) (by rw [q3];exact growslice_fits (by omega) (by omega));rw [hr] at hr2;cases hr2;exact .inr fun k hk=>by simp [Value.ownBlock] at hk;omega
  unfold Oper.wp execOp;simp only [ho,resolve,invoke,builtin,Sem.run_bind,Sem.run_pure,Result.andThen_ok,List.map_toArray,List.map_cons,List.map_nil,hs,hx,hr];exact hK _ _ (h v' w' h2 h3 sn)
structure Xp (w:World) (S:Nat->Prop) (b:Nat) (s:List UInt8):Prop where
  row:∃ v,w.heap[b]? = some (.cells #[.int .i64 0,v] 255 (0,0))∧w.ownsRow 0 5 1 v s.length (zu s)∧∀ k,v.ownBlock=some k->S k
  base:S b
theorem Xp.chg {S T:Nat->Prop} {w w':World} {b:Nat} {s:List UInt8} (h:Xp w S b s) (hc:Chg T w w') (hs:∀ k,S k->¬ T k):Xp w' S b s:=by
  obtain ⟨v,h1,h2,h3⟩:=h.row;exact ⟨⟨v,hc.obj (hs b h.base) h1,zo h2 hc (fun k hk=>hs k (h3 k hk)),h3⟩,h.base⟩
theorem Xp.to {S T:Nat->Prop} {w:World} {b:Nat} {s:List UInt8} (h:Xp w S b s) (hs:∀ k,k < w.heap.size->S k->T k):Xp w T b s:=by
  obtain ⟨v,h1,h2,h3⟩:=h.row;exact ⟨⟨v,h1,h2,fun k hk=>hs k (h2.lt k hk).2 (h3 k hk)⟩,hs b (zl h1) h.base⟩
theorem Xp.at_ {S:Nat->Prop} {w:World} {b:Nat} {s:List UInt8} (h:Xp w S b s):zei w 0 b s:=by
  obtain ⟨v,h1,h2,h3⟩:=h.row;exact ⟨⟨v,h1,h2⟩,Nat.zero_le _⟩
theorem zdt {S:Nat->Prop} {w:World} {v v':Value} (sn:Zd w v v') (h:∀ k,v.ownBlock=some k->S k) (hn:∀ k,w.heap.size<=k->S k):∀ k,v'.ownBlock=some k->S k:=by
  rcases sn with e | e
  · rw [e];exact h
  · exact fun k hk=>hn k (e k hk)
theorem YF {S:Nat->Prop} {w w5:World} {b:Nat} {s t:List UInt8} {v v5:Value} (hb:S b) (h:w.heap[b]? = some (.cells #[.int .i64 0,v] 255 (0,0))) (ho:w.ownsRow 0 5 1 v s.length (zu s)) (ho5:w5.ownsRow 0 5 1 v5 t.length (zu t)) (hg:Chg (fun k=>v.ownBlock=some k) w w5)
    (hv:∀ k,v.ownBlock=some k->S k) (hv5:∀ k,v5.ownBlock=some k->S k):
    w5.heap[b]? = some (.cells #[.int .i64 0,v] 255 (0,0))∧Xp (w5.setCell ⟨b,1,none⟩ v5) S b t∧Chg S w (w5.setCell ⟨b,1,none⟩ v5):=by
  have hne:v.ownBlock≠some b:=fun e=>by
    obtain ⟨cs,hcs⟩:=ZJ ho e;rw [h] at hcs;cases hcs
  have h5:=hg.obj hne h
  have hne5:v5.ownBlock≠some b:=fun e=>by
    obtain ⟨cs,hcs⟩:=ZJ ho5 e;rw [h5] at hcs;cases hcs
  have kc:=zy w5 b 1 v5;refine ⟨h5,⟨⟨v5,zk (o:=1) h5 v5,zo ho5 kc (fun k hk e=>hne5 (by rw [<- e];exact hk)),hv5⟩,hb⟩,(hg.mono (fun k _ e=>hv k e)).trans (kc.mono (fun k _ e=>by rw [e];exact hb))⟩
set_option maxHeartbeats 2000000 in
set_option maxRecDepth 100000 in
theorem zad (w:World) (S:Nat->Prop) (b:Nat) (s:List UInt8) (n:Nat) (h:Xp w S b s) (hS:∀ k,w.heap.size<=k->S k) (hn:n<=4611686018427387904) (hs:s.length<=100000):
    Calls Tryz.prog 131 #[.pointer (some ⟨b,0,none⟩),.int .i64 ((n:Nat):Int)] w fun e w'=>e=.returned (.tuple #[])∧Xp w' S b (s++zZ n)∧Chg S w w':=by
  have H:=zf h;have HS:=zf hS;have hnl:(zZ n).length<=9:=xJ 8 n (by omega);obtain ⟨v0,h1,_,_⟩:=h.row;have WE:=zf (xF w b v0 h1);have hbw:=zl h1;have g1:decide ((n:Int) < 0)=false:=zgR (by omega);have g2:decide (4611686018427387904 < (n:Int))=false:=zgR (by omega);clear h h1;go_enter Tryz.func131,Tryz.ntmps131;go_wp2_with fail;(with_reducible refine WE.out.mono ?_);rintro e w1 ⟨rfl,rfl⟩;clear WE;go_wp2;go_loopw [1] (fun nv wr=>∃ (m:Nat) (s':List UInt8),nv=.int .i64 ((m:Nat):Int)∧m<=4611686018427387904∧Hid (Xp wr S b s'∧s'++zZ m=s++zZ n∧Chg S w wr)) (fun nv _=>(intOf nv).toNat)
  case atStart=>exact ⟨n,s,rfl,hn,zf ⟨H.out,rfl,Chg.refl _ _⟩⟩
  case round=>
    obtain ⟨m,s',rfl,hm,HI⟩:=hrel
    have hl:s'.length<=100009:=by
      have:=congrArg List.length HI.out.2.1;rw [zgV,zgV] at this;omega
    obtain ⟨v,h1,h2,h3⟩:=HI.out.1.row;have OS:=zf h3;have HSW:=zf (fun k (hk:wr.heap.size<=k)=>HS.out k (Nat.le_trans HI.out.2.2.size hk));have hbase:=HI.out.1.base;have EQ:=zf HI.out.2.1;have KC:=zf HI.out.2.2;have OB:=zf h1;have OR:=zf h2;obtain ⟨va,vc,rfl⟩:=zq h2;have c1:=zg (o:=1) h1 rfl;clear h1 h2 h3 HI;by_cases hlt:128<=m
    · have g3:decide (128<=(m:Int))=true:=zgQ (by omega)
      have g4:decide ((m:Int) < 128)=false:=zgR (by omega);have ob:=zfE (m:=m);go_wp2_with (at_builtin;refine zR rfl (.tmp 25) (.tmp 29) 23 rfl 5 1 1 Tryz.underlying23 Tryz.elemByte 0 _ s'.length (zu s') rfl ?a1 wr.heap.size [.int .u8 ((m:Int) % 128+128)] 5 (0,0) rfl ?a2 rfl ?a3 ?a4 ?a5 ?a6 ?a7)
      case a1=>exact zo OR.out (zj (fun _=>False) _ _) (fun _ _ e=>e)
      case a2=>exact zh _ _
      case a3=>intro u hu;simp at hu;subst hu;rfl
      case a4=>omega
      case a5=>unfold maxLen;omega
      case a6=>exact Nat.zero_le _
      intro v5 w5 o5 g5 sn;obtain ⟨a5,c5,rfl⟩:=zq o5;have ka:=zj S wr (.cells #[.int .u8 ((m:Int) % 128+128)] 5);have kf:=zj (fun _=>False) wr (.cells #[.int .u8 ((m:Int) % 128+128)] 5)
      have o5b:w5.ownsRow 0 5 1 (.slice a5 (s'.length+1) c5) (s'++[UInt8.ofNat (m % 128+128)]).length (zu (s'++[UInt8.ofNat (m % 128+128)])):=by
        have e:Value.int .u8 ((m:Int) % 128+128)=Yu (UInt8.ofNat (m % 128+128)):=Yg _ _ (by omega) (by omega);rw [e] at o5;unfold zu at *;rw [List.map_append,zgV];exact o5
      obtain ⟨h5,r1,r2⟩:=YF hbase (kf.obj (fun e=>e) OB.out) (zo OR.out kf (fun _ _ e=>e)) o5b (Chg.of_grown g5) OS.out (zdt sn OS.out (fun k hk=>HSW.out k (by rw [zg0] at hk;omega)));have R1:=zf r1;have R2:=zf (KC.out.trans (ka.trans r2));have q1:=zg (o:=1) h5 rfl;have f1:=zn (o:=1) h5
      have EQ2:=zf (show (s'++[UInt8.ofNat (m % 128+128)])++zZ (m / 128)=s++zZ n from by
        rw [<- EQ.out,yZ hlt];simp)
      clear h5 r1 r2 o5b o5 g5 ka kf OB OR KC EQ c1;go_wp2;go_roundw
      case rel=>exact ⟨m / 128,_,by simp,by omega,zf ⟨R1.out,EQ2.out,R2.out⟩⟩
      case measure=>simp [intOf];omega
    · have g3:decide (128<=(m:Int))=false:=zgR (by omega)
      have g4:decide ((m:Int) < 128)=true:=zgQ (by omega);go_wp2_with (at_builtin;refine zR rfl (.tmp 39) (.tmp 42) 23 rfl 5 1 1 Tryz.underlying23 Tryz.elemByte 0 _ s'.length (zu s') rfl ?b1 wr.heap.size [.int .u8 (m:Int)] 5 (0,0) rfl ?b2 rfl ?b3 ?b4 ?b5 ?b6 ?b7)
      case b1=>exact zo OR.out (zj (fun _=>False) _ _) (fun _ _ e=>e)
      case b2=>exact zh _ _
      case b3=>intro u hu;simp at hu;subst hu;rfl
      case b4=>omega
      case b5=>unfold maxLen;omega
      case b6=>exact Nat.zero_le _
      intro v5 w5 o5 g5 sn;obtain ⟨a5,c5,rfl⟩:=zq o5;have ka:=zj S wr (.cells #[.int .u8 (m:Int)] 5);have kf:=zj (fun _=>False) wr (.cells #[.int .u8 (m:Int)] 5)
      have o5b:w5.ownsRow 0 5 1 (.slice a5 (s'.length+1) c5) (s'++[UInt8.ofNat m]).length (zu (s'++[UInt8.ofNat m])):=by
        have e:Value.int .u8 (m:Int)=Yu (UInt8.ofNat m):=Yg _ _ (by omega) (by omega);rw [e] at o5;unfold zu at *;rw [List.map_append,zgV];exact o5
      obtain ⟨h5,r1,r2⟩:=YF hbase (kf.obj (fun e=>e) OB.out) (zo OR.out kf (fun _ _ e=>e)) o5b (Chg.of_grown g5) OS.out (zdt sn OS.out (fun k hk=>HSW.out k (by rw [zg0] at hk;omega)));have EQ2:s'++[UInt8.ofNat m]=s++zZ n:=by rw [<- EQ.out,Zr (by omega)]
      rw [EQ2] at r1;have R1:=zf r1;have R2:=zf (KC.out.trans (ka.trans r2));have q1:=zg (o:=1) h5 rfl;have f1:=zn (o:=1) h5;clear h5 r1 r2 o5b o5 g5 ka kf OB OR KC EQ c1 EQ2;go_wp2;go_end0;exact ⟨rfl,R1.out,R2.out⟩
set_option maxHeartbeats 2000000 in
set_option maxRecDepth 100000 in
theorem zds (w:World) (S:Nat->Prop) (b:Nat) (s:List UInt8) (x:ByteArray) (h:Xp w S b s) (hS:∀ k,w.heap.size<=k->S k) (hx:ZO x.data.toList=true) (hs:s.length<=100000):
    Calls Tryz.prog 209 #[.pointer (some ⟨b,0,none⟩),.string x] w fun e w'=>e=.returned (.tuple #[])∧Xp w' S b (s++Yi x)∧Chg S w w':=by
  have H:=zf h;have HS:=zf hS;have hxs:=(zeS hx).1;obtain ⟨_,_,hx8,_⟩:=(Zn _).1 hx;have hbase:=h.base;have MY:=XY w x (by unfold maxLen;omega);rw [hx] at MY;have MY:=zf MY;have WL:=zf (fun w=>XZ w x (by unfold maxLen;omega));clear h;go_enter Tryz.func209,Tryz.ntmps209;go_wp2_with fail;(with_reducible refine MY.out.mono ?_);rintro e w1 ⟨rfl,k1⟩;have H1:=zf (H.out.chg k1 (fun _ _ e=>e));have K1:=zf (show Chg S w w1 from k1.mono (fun _ _ e=>e.elim));obtain ⟨v,h1,h2,h3⟩:=H1.out.row;have OS:=zf h3;have HSW:=zf (fun k (hk:w1.heap.size<=k)=>HS.out k (Nat.le_trans k1.size hk));have WE:=zf (xF w1 b v h1);have OB:=zf h1;have OR:=zf h2;obtain ⟨va,vc,rfl⟩:=zq h2;have c1:=zg (o:=1) h1 rfl;clear h1 h2 h3 k1 MY H H1;go_wp2_with fail;(with_reducible refine WE.out.mono ?_);rintro e w2 ⟨rfl,rfl⟩;clear WE;go_wp2_with fail;refine Zf (N:=36) [.rd [0,1,2,3,4,5],.ef 6,.ef 7,.ef 8,.ef 9,.ef 10,.ef 11,.ef 12] 12 (fun W=>W.cell? ⟨b,1,none⟩=some (.slice va s.length vc)) (by kernel_rfl) (by kernel_rfl) (by kernel_rfl) (by kernel_rfl) (by kernel_rfl) (Nat.le_of_ble_eq_true rfl) c1 ?_;refine YD (A:=?A1) ?h1 ?h2
  case h1=>
    rintro w' z0 K hK;simp only [zJ,zgL,zgM,zgN,zgO,zgP]
    repeat still_step
    refine wpStill_nil ?_;exact hK
  have HSD:=zf (show ∀ k,w1.drew.heap.size<=k->S k from HSW.out);have d0:w1.drew.cell? ⟨b,1,none⟩=some (.slice va s.length vc):=c1;have OBD:=zf ((zA (fun _=>False) w1).obj (fun e=>e) OB.out);have ORD:=zf (zo OR.out (zA (fun _=>False) w1) (fun _ _ e=>e));have KD:=zf (K1.out.drew);clear c1 OB OR K1;generalize w1.drew=wd at *;have WL1:=zf (WL.out wd);refine zz rfl ?_;go_wp2_with fail;(with_reducible refine WL1.out.mono ?_);rintro e w2 ⟨rfl,rfl⟩;go_wp2_with fail;refine ⟨.inr d0,?_⟩;refine zz rfl ?_;go_wp2_with fail;refine ⟨.inr d0,?_⟩;refine zz rfl ?_;go_wp2_with fail;have kf:=zj (fun _=>False) wd (.cells #[.int .u8 ((zG x.data.toList:Nat):Int)] 5);have ka:=zj S wd (.cells #[.int .u8 ((zG x.data.toList:Nat):Int)] 5);refine ⟨.inr (zi kf (fun e=>e) d0),?_⟩;refine zz rfl ?_;refine zR rfl (.tmp 19) (.tmp 23) 23 rfl 5 1 1 Tryz.underlying23 Tryz.elemByte 0 _ s.length (zu s) rfl (zo ORD.out kf (fun _ _ e=>e)) wd.heap.size [.int .u8 ((zG x.data.toList:Nat):Int)] 5 (0,0) rfl (zh _ _) rfl (by intro u hu;simp at hu;subst hu;rfl) (by omega) (by unfold maxLen;omega) (Nat.zero_le _) ?_;intro v5 w5 o5 g5 sn;obtain ⟨a5,c5,rfl⟩:=zq o5
  have o5b:w5.ownsRow 0 5 1 (.slice a5 (s.length+1) c5) (s++[UInt8.ofNat (zG x.data.toList)]).length (zu (s++[UInt8.ofNat (zG x.data.toList)])):=by
    have e:Value.int .u8 ((zG x.data.toList:Nat):Int)=Yu (UInt8.ofNat (zG x.data.toList)):=Yg _ _ (by omega) rfl;rw [e] at o5;rw [yB,zgV];exact o5
  obtain ⟨h5,r1,r2⟩:=YF hbase (kf.obj (fun e=>e) OBD.out) (zo ORD.out kf (fun _ _ e=>e)) o5b (Chg.of_grown g5) OS.out (zdt sn OS.out (fun k hk=>HSD.out k (by rw [zg0] at hk;omega)));have q1:=zg (o:=1) h5 rfl;have f1:=zn (o:=1) h5;have R1:=zf r1;have R2:=zf (KD.out.trans (ka.trans r2));have HS7:=zf (fun k (hk:(w5.setCell ⟨b,1,none⟩ (.slice a5 (s.length+1) c5)).heap.size<=k)=>HSD.out k (Nat.le_trans (ka.trans r2).size hk));clear h5 r1 r2 o5b o5 g5 ka kf OBD ORD KD d0 WL1 WL;go_wp2_with fail;refine ⟨.inr q1,?_⟩;refine zz rfl ?_;go_wp2_with fail;refine ⟨.inr q1,?_⟩;refine zz rfl ?_;go_wp2_with fail;refine ⟨.inr q1,?_⟩;refine zz rfl ?_;refine Za rfl 23 (.tmp 26) (.tmp 24) rfl b 1 rfl (.slice a5 (s.length+1) c5) rfl rfl rfl Tryz.sizeBytes _ q1 f1 ?_;intro w7 hw7;rw [<- hw7] at R1 R2 HS7;refine ⟨.inl rfl,ZI ?_⟩;clear hw7 q1 f1;obtain ⟨v8,h1,h2,h3⟩:=R1.out.row;have OS8:=zf h3;have OB:=zf h1;have OR:=zf h2;obtain ⟨va,vc,rfl⟩:=zq h2;have c1:=zg (o:=1) h1 rfl;have hl9:(s++[UInt8.ofNat (zG x.data.toList)]).length<=100001:=by simp;omega
  clear h1 h2 h3 R1;generalize hsl:s++[UInt8.ofNat (zG x.data.toList)]=s1 at *;have HSL:=zf hsl;clear hsl;go_wp2_with (at_builtin;refine Yn rfl (.tmp 31) (.tmp 32) 23 29 rfl 5 Tryz.underlying23 Tryz.underlying29 Tryz.infoByte 0 _ s1.length (zu s1) rfl OR.out x rfl ?e1 ?e2 ?e3)
  case e1=>omega
  case e2=>omega
  intro v9 w9 o9 g9 sn9;obtain ⟨a9,c9,rfl⟩:=zq o9
  have o9b:w9.ownsRow 0 5 1 (.slice a9 (s1.length+x.size) c9) (s1++x.data.toList).length (zu (s1++x.data.toList)):=by
    rw [yB,zgV,zt];exact o9
  obtain ⟨h9,r1,r2⟩:=YF hbase OB.out OR.out o9b (Chg.of_grown g9) OS8.out (zdt sn9 OS8.out HS7.out);have EQ:s1++x.data.toList=s++Yi x:=by rw [<- HSL.out];unfold Yi;simp
  rw [EQ] at r1;have R3:=zf r1;have R4:=zf (R2.out.trans r2);have q1:=zg (o:=1) h9 rfl;have f1:=zn (o:=1) h9;clear h9 r1 r2 o9b o9 g9 OB OR R2 c1 EQ HSL;go_wp2;go_end0;exact ⟨rfl,R3.out,R4.out⟩
set_option maxHeartbeats 2000000 in
set_option maxRecDepth 100000 in
theorem zey (w:World) (S:Nat->Prop) (b:Nat) (s:List UInt8) (l:List ByteArray) (a:Option Addr) (n c:Nat) (G:Nat->Prop) (h:Xp w S b s) (hS:∀ k,w.heap.size<=k->S k) (hv:zB w (.slice a n c) G l) (hG:∀ k,G k->¬ S k) (hl:zbJ l=true) (hs:s.length<=90000):
    Calls Tryz.prog 132 #[.pointer (some ⟨b,0,none⟩),.slice a n c] w fun e w'=>e=.returned (.tuple #[])∧Xp w' S b (s++zco l)∧Chg S w w':=by
  have H:=zf h;have HS:=zf hS;have HV:=zf hv
  have l16:l.length<=16:=by
    obtain ⟨_,q,_⟩:=of_decide_eq_true hl;rwa [zL] at q
  have MAY:=zf (show ∀ x∈l,ZO x.data.toList=true from fun x hx=>yJ hl hx);have hbase:=h.base;have SM:=YW w _ G l hv;rw [hl] at SM;have SM:=zf SM;obtain ⟨_,_,e,hl0,_⟩:=hv;cases e;clear h hl;unfold maxLen at hl0;go_enter Tryz.func132,Tryz.ntmps132;go_wp2_with fail;(with_reducible refine SM.out.mono ?_);rintro e w1 ⟨rfl,d1⟩;have k1:Chg (fun _=>False) w w1:=d1.chg;have H1:=zf (H.out.chg k1 (fun _ _ e=>e));have K1:=zf (show Chg S w w1 from k1.mono (fun _ _ e=>e.elim));obtain ⟨v,h1,h2,h3⟩:=H1.out.row;have OS:=zf h3;have HSW:=zf (fun k (hk:w1.heap.size<=k)=>HS.out k (Nat.le_trans k1.size hk));have WE:=zf (xF w1 b v h1);have OB:=zf h1;have OR:=zf h2;obtain ⟨va,vc,rfl⟩:=zq h2;have c1:=zg (o:=1) h1 rfl;clear h1 h2 h3 k1 d1 SM H H1;go_wp2_with fail;(with_reducible refine WE.out.mono ?_);rintro e w2 ⟨rfl,rfl⟩;clear WE;go_wp2_with (at_builtin;refine zR rfl (.tmp 22) (.tmp 26) 23 rfl 5 1 1 Tryz.underlying23 Tryz.elemByte 0 _ s.length (zu s) rfl ?a1 w1.heap.size [.int .u8 (l.length:Int)] 5 (0,0) rfl ?a2 rfl ?a3 ?a4 ?a5 ?a6 ?a7)
  case a1=>exact zo OR.out (zj (fun _=>False) _ _) (fun _ _ e=>e)
  case a2=>exact zh _ _
  case a3=>intro u hu;simp at hu;subst hu;rfl
  case a4=>omega
  case a5=>unfold maxLen;omega
  case a6=>exact Nat.zero_le _
  intro v5 w5 o5 g5 sn;obtain ⟨a5,c5,rfl⟩:=zq o5;have ka:=zj S w1 (.cells #[.int .u8 (l.length:Int)] 5);have kf:=zj (fun _=>False) w1 (.cells #[.int .u8 (l.length:Int)] 5)
  have o5b:w5.ownsRow 0 5 1 (.slice a5 (s.length+1) c5) (s++[UInt8.ofNat l.length]).length (zu (s++[UInt8.ofNat l.length])):=by
    have e:Value.int .u8 (l.length:Int)=Yu (UInt8.ofNat l.length):=Yg _ _ (by omega) rfl;rw [e] at o5;rw [yB,zgV];exact o5
  obtain ⟨h5,r1,r2⟩:=YF hbase (kf.obj (fun e=>e) OB.out) (zo OR.out kf (fun _ _ e=>e)) o5b (Chg.of_grown g5) OS.out (zdt sn OS.out (fun k hk=>HSW.out k (by rw [zg0] at hk;omega)));have q1:=zg (o:=1) h5 rfl;have f1:=zn (o:=1) h5;have R1:=zf r1;have R2:=zf (K1.out.trans (ka.trans r2));clear h5 r1 r2 o5b o5 g5 ka kf OB OR K1 c1;go_wp2;generalize w5.setCell ⟨b,1,none⟩ (.slice a5 (s.length+1) c5)=w6 at *;go_loopw [32] (fun iv wr=>∃ k:Nat,k<=l.length∧iv=.int .i64 k∧Hid (Xp wr S b ((s++[UInt8.ofNat l.length])++zX (l.take k))∧Chg S w wr)) (fun iv _=>l.length - (intOf iv).toNat)
  case atStart=>exact ⟨0,by omega,rfl,zf ⟨by simpa [zX] using R1.out,R2.out⟩⟩
  case round=>
    obtain ⟨k,hk,rfl,HI⟩:=hrel;clear q1 f1;by_cases hlt:k < l.length
    · obtain ⟨x,hx⟩:∃ x,l[k]? = some x:=⟨_,zgS hlt⟩
      obtain ⟨_,_,e1,_,hcl⟩:=HV.out.chg HI.out.2 (fun k hk e=>hG k hk e);cases e1;obtain ⟨lb,lo,rfl,_,c0,_⟩:=hcl k x hx;have WW:=YT (l.take k) (fun y hy=>MAY.out y (List.mem_of_mem_take hy));rw [zgX] at WW;have OW:=zds wr S b _ x HI.out.1 (fun k hk=>HS.out k (Nat.le_trans HI.out.2.size hk)) (MAY.out x (zgU hx)) (by rw [zgV,zgV];simp;omega);rw [List.append_assoc,<- xS hx] at OW;have OW:=zf OW;have KI:=zf HI.out.2;clear hcl hx HI WW;go_wp2_with fail;(with_reducible refine OW.out.mono ?_);rintro e w7 ⟨rfl,h7,k7⟩;have H7:=zf h7;have K7:=zf (KI.out.trans k7);clear h7 k7 OW KI c0;go_wp2;go_roundw
      case rel=>exact ⟨k+1,by omega,by go_num,zf ⟨H7.out,K7.out⟩⟩
      case measure=>simp [intOf];omega
    · obtain rfl:k=l.length:=by omega
      have FIN:=zf (show Xp wr S b (s++zco l) from by
        have:=HI.out.1;rw [zhc] at this;unfold zco;rw [List.append_assoc] at this;exact this)
      have KI:=zf HI.out.2;clear HI;go_wp2;go_end0;exact ⟨rfl,FIN.out,KI.out⟩
theorem zez (w:World) (S:Nat->Prop) (b:Nat) (s:List UInt8) (z:Int) (h:Xp w S b s) (hS:∀ k,w.heap.size<=k->S k) (h0:0<=z) (hn:z<=4611686018427387904) (hs:s.length<=100000):
    Calls Tryz.prog 131 #[.pointer (some ⟨b,0,none⟩),.int .i64 z] w fun e w'=>e=.returned (.tuple #[])∧Xp w' S b (s++zZ z.toNat)∧Chg S w w':=by
  have:=zad w S b s z.toNat h hS (by omega) hs;rwa [show ((z.toNat:Nat):Int)=z from by omega] at this
end Go.Proofs.YtcilaocknhphnaaGreat
