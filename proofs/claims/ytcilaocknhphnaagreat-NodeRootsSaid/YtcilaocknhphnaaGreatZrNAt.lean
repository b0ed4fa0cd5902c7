/-
  TreeZ: what else. RRefA: what else. RFind: what else. RTellR1: what else. RArgs: what else. RHelp: what else. The reference's Leads. The reference's All. SSetH: what else. RArgsZ: what else. RHelpZ: what else. CMap: what else. Package pack: Out: numbers, words, sets, what was written; in plain Lean, and walked. Package pack: Set, Done; package cert: Encode. Package cert: Encode. Numbers, sets and records as bytes, in plain Lean. Records in memory.
-/
import Derived.Test.YtcilaocknhphnaaGreatZrCCert1
import Derived.Test.YtcilaocknhphnaaGreatZrAEnt
namespace Go.Proofs.YtcilaocknhphnaaGreat
open Go.RowKit
section
variable {P:Program} {ops:Array Oper} {Q:Exit->Act->World->Prop} {S:World->Prop} {L:Nat}
theorem yo {w:World} {A:Act}:∀ (l:List Oper) (a:Act),wpStill P ops w (·=A) l a->A.tmps.size=a.tmps.size
  | [],a,h=>by have:a=A:=h;rw [this]
  | o :: l,a,h=>by
    unfold wpStill at h;split at h
    · unfold Oper.still at h
      generalize (execOp a.eval o).run P w=res at h;cases res with
      | halt x w'=>cases x <;> simp [Oper.stillUpon] at h
      | ok n w'=>
        cases n with
        | value v=>have:=yo l _ h.2;rwa [zE] at this
        | skip=>have:=yo l _ h.2;rwa [zE] at this
        | enter f args=>obtain ⟨_,v,_,hv⟩:=h;have:=yo l _ hv;rwa [zE] at this
        | _=>simp [Oper.stillUpon] at h
    · have:=yo l _ h;rwa [zE] at this
theorem YA {N:Nat} (hsel:Region.noSelect ops=true):∀ (pl:PT) (listed:Array Bool) (a:Act) (w:World),N<=a.tmps.size->(S w∨pl=.nil)->pl.okB ops N L listed=true ->
      yh P ops S L Q pl a w->yG P .any ops (NoPanic Q) S L pl.len listed a w
  | .nil,listed,a,w,_,_,hb,h=>by
    simp only [PT.okB,List.isEmpty_iff] at hb;exact xP (Q:=NoPanic Q) hb h _
  | .rd is n,listed,a,w,hN,hS,hb,h=>by
    have hS:S w:=hS.resolve_right (by simp);simp only [PT.okB,zhd] at hb;obtain ⟨A,h1,h2⟩:=h;have hA:A.tmps.size=a.tmps.size:=yo _ _ (h1 w hS (·=A) rfl);have:=YA hsel n _ A w (by omega) (.inl hS) hb.2 h2;have:=Yq (N:=N) hsel hS is listed a hN hb.1.1.1 hb.1.1.2 hb.1.2 (fun w' hS'=>h1 w' hS' (·=A) rfl) this;rw [show (PT.rd is n).len=n.len+is.length from Nat.add_comm _ _];exact this
  | .ef i n,listed,a,w,hN,_,hb,h=>by
    simp only [PT.okB,zhd,decide_eq_true_eq,beq_iff_eq,Bool.or_eq_true,Bool.not_eq_true',zg1] at hb;rw [show (PT.ef i n).len=n.len+1 from Nat.add_comm _ _];refine YS hb.1.1.1 (by simp) (fun j hj=>?_);simp at hj;subst hj;refine wpOp_mono (fun a' w' ⟨hs,hS',hp⟩=>⟨hS',YA hsel n _ a' w' (by omega) ?_ hb.2 hp⟩) (yF h);rcases hS' with e | e
    · refine .inr ?_
      rcases hb.1.2 with q | q
      · exact absurd e q
      · revert q;cases n <;> simp
    · exact .inl e
  | .two i j x y,listed,a,w,hN,_,hb,h=>by
    simp only [PT.okB,zhd,decide_eq_true_eq,beq_iff_eq] at hb;obtain ⟨⟨⟨⟨⟨⟨⟨b1,b2⟩,b3⟩,b4⟩,b5⟩,b6⟩,b7⟩,b8⟩:=hb;rw [show (PT.two i j x y).len=x.len+1 from Nat.add_comm _ _];refine YS b1 (by simp) (fun k hk=>?_);simp at hk;rcases hk with rfl | rfl
    · exact wpOp_mono (fun a' w' ⟨hs,hS',hp⟩=>⟨.inr hS',YA hsel x _ a' w' (by omega) (.inl hS') b7 hp⟩) (yF h.1)
    · rw [b6]
      exact wpOp_mono (fun a' w' ⟨hs,hS',hp⟩=>⟨.inr hS',YA hsel y _ a' w' (by omega) (.inl hS') b8 hp⟩) (yF h.2)
theorem Xq {id N:Nat} {l:List Oper} {a:Act} {w:World} (pl:PT) (L:Nat) (S:World->Prop) (hm:P.follows .mixedOrders=true) (hsel:Region.noSelect l.toArray=true)
    (hlen:pl.len=l.toArray.size) (hb:pl.okB l.toArray N L (Array.replicate l.toArray.size false)=true) (hN:N<=a.tmps.size) (hS:S w.drew)
    (h:yh P l.toArray S L Q pl a w.drew):(Code.region id l.toArray true).wp P Q a w:=by
  refine wp_region_noPanic (wp_region_any hm (YR (S:=S) (L:=L) _ _ _ _ ?_));have:=YA hsel pl _ a w.drew hN (.inl hS) hb h;rw [hlen] at this;exact this
theorem zbS {i:Nat} {o:Oper} {K:Act->World->Prop} {a:Act} {w:World} (ho:ops[i]? = some o)
    (h:wpList P ops (xE Q K) [o] a w):wpOp P ops (NoPanic Q) i K a w:=by
  unfold wpOp;rw [ho];dsimp only;unfold wpList at h
  have hq:∀ e a w,e≠.normal->xE Q K e a w->NoPanic Q e a w:=by
    intro e a w he h;cases e <;> first | exact absurd rfl he | exact h | exact (h:False).elim
  split at h
  · rename_i hw
    rw [if_pos hw];refine h.imp (fun h=>?_) (fun ⟨h1,a,w,h2⟩=>⟨h1,a,w,h2⟩);exact Oper.wp_mono (fun a w h=>h) (xM hq h)
  · rename_i hw
    rw [if_neg hw];exact h
theorem yH {i:Nat} {o:Oper} {n:PT} {a:Act} {w:World} (ho:ops[i]? = some o)
    (h:wpList P ops (xE Q (fun a' w'=>(i=L∨S w')∧yh P ops S L Q n a' w')) [o] a w):yh P ops S L Q (.ef i n) a w:=zbS ho h
theorem zcl {i j:Nat} {o p:Oper} {x y:PT} {a:Act} {w:World} (ho:ops[i]? = some o) (hp:ops[j]? = some p)
    (h:wpList P ops (xE Q (fun a' w'=>S w'∧yh P ops S L Q x a' w')) [o] a w) (h2:wpList P ops (xE Q (fun a' w'=>S w'∧yh P ops S L Q y a' w')) [p] a w):yh P ops S L Q (.two i j x y) a w:=⟨zbS ho h,zbS hp h2⟩
theorem zfx {is:List Nat} {n:PT} {a A:Act} {w:World} (h:∀ w',S w'->∀ K:Act->Prop,K A->wpStill P ops w' K (zJ ops is) a) (h2:yh P ops S L Q n A w):yh P ops S L Q (.rd is n) a w:=⟨A,h,h2⟩
theorem zes {a:Act} {w:World} (h:Q .normal a w):yh P ops S L Q .nil a w:=h
end

theorem zfC (R:List Rul) (u:Wd):YB R u (zG u) 0=ZZ R u:=by
 unfold YB ZZ zf4;simp [zcz]
theorem zcQ (R:List Rul) (b i:Nat) (r:List Ent) (u:Wd):zcp R b i r u (zG u) 0=ZS b i (ZZ R u) r:=by unfold zcp;rw [zfC]
theorem zcW (R:List Rul) (u:Wd) {a k:Nat} (ha:a < zG u) (hk:k<=R.length):YB R u a k <+: ZZ R u:=by
 unfold YB ZZ zf4;refine List.IsPrefix.map _ ?_
 have h1:yP (Xz R) u a++(zcz (Xz R) u a k).map (fun t=>(a,t)) <+: yP (Xz R) u (a+1):=by
  unfold yP;rw [List.range_succ,List.flatMap_append];refine (List.prefix_append_right_inj _).2 ?_;rw [List.flatMap_singleton];refine List.IsPrefix.map _ ?_;unfold zcz zdV;rw [yQ];refine List.IsPrefix.filter _ ?_;rw [List.prefix_iff_eq_take,List.take_range,List.length_range]
  congr 1
  omega
 refine h1.trans ?_;obtain ⟨d,hd⟩:∃ d,zG u=a+1+d:=⟨zG u - (a+1),by omega⟩;rw [hd];unfold yP;rw [show List.range (a+1+d)=List.range (a+1)++(List.range d).map (a+1 + ·) from List.range_add ..,List.flatMap_append];exact List.prefix_append _ _
open Go.Maps
theorem Xu (r:List Ent) (e:Ent):xY (r++[e])=xY r++[.int .i64 e.2.1]:=by unfold xY;rw [List.map_append];rfl
theorem Xt (r:List Ent) (e:Ent):xW (r++[e])=xW r++[.int .i64 (e.2.2.1:Int),.int .i64 (e.2.2.2:Int)]:=by unfold xW;rw [List.map_append,zap];rfl
theorem YY {w:World} {base base':Nat} {e t:TypeId} {size size' n n' k:Nat} {xs xs':List Value} {v v':Value} (h:w.ownsRow base e size v n xs) (h':w.ownsRow base' t size' v' n' xs') (hk:v.ownBlock=some k) (hk':v'.ownBlock=some k):t=e:=by
 obtain ⟨cs',h2⟩:=ZJ h' hk';exact yp h hk h2
section
variable {w w':World} {base b:Nat} {lv fv bv v:Value} {r1 r2 r3:List Ent}
theorem zdm.chg {S:Nat->Prop} (h:zdm w base b lv fv bv r1 r2 r3) (hc:Chg S w w') (hs:∀ k,base<=k->¬ S k):zdm w' base b lv fv bv r1 r2 r3:=
 ⟨hc.obj (hs b h.bb) h.hb,zo h.hl hc (fun k hk=>hs k (h.hl.lt k hk).1),zo h.hf hc (fun k hk=>hs k (h.hf.lt k hk).1),zo h.hs hc (fun k hk=>hs k (h.hs.lt k hk).1),h.bb⟩
theorem zdm.stepL {e:Ent} (h:zdm w base b lv fv bv r1 r2 r3) (hg:w.grownBy w' lv.ownBlock) (ho:w'.ownsRow base 29 1 v (r1.length+1) (YX r1++[.string (bar e.1)])):zdm (w'.setCell ⟨b,0,none⟩ v) base b v fv bv (r1++[e]) r2 r3:=by
 have hb':=(Chg.of_grown hg).obj (fun q=>by have:=yp h.hl q h.hb;cases this) h.hb;have hc:Chg (·=b) w' (w'.setCell ⟨b,0,none⟩ v):=(Chg.refl (·=b) w').setCell (p:=⟨b,0,none⟩) (fun _=>rfl) v;refine ⟨zk hb' v,?_,?_,?_,h.bb⟩
 ·rw [zgV,List.length_singleton,Xs]
  exact zo ho hc (fun k hk q=>by subst q;have:=yp ho hk hb';cases this)
 ·have:=zo h.hf (Chg.of_grown hg) (fun k hk q=>by have:=YY h.hl h.hf q hk;cases this)
  exact zo this hc (fun k hk q=>by subst q;have:=yp this hk hb';cases this)
 ·have:=zo h.hs (Chg.of_grown hg) (fun k hk q=>by have:=YY h.hl h.hs q hk;cases this)
  exact zo this hc (fun k hk q=>by subst q;have:=yp this hk hb';cases this)
theorem zdm.stepF {e:Ent} (h:zdm w base b lv fv bv r1 r2 r3) (hg:w.grownBy w' fv.ownBlock) (ho:w'.ownsRow base 3 1 v (r2.length+1) (xY r2++[.int .i64 e.2.1])):zdm (w'.setCell ⟨b,1,none⟩ v) base b lv v bv r1 (r2++[e]) r3:=by
 have hb':=(Chg.of_grown hg).obj (fun q=>by have:=yp h.hf q h.hb;cases this) h.hb;have hc:Chg (·=b) w' (w'.setCell ⟨b,1,none⟩ v):=(Chg.refl (·=b) w').setCell (p:=⟨b,1,none⟩) (fun _=>rfl) v;refine ⟨zk hb' v,?_,?_,?_,h.bb⟩
 ·have:=zo h.hl (Chg.of_grown hg) (fun k hk q=>by have:=YY h.hf h.hl q hk;cases this)
  exact zo this hc (fun k hk q=>by subst q;have:=yp this hk hb';cases this)
 ·rw [zgV,List.length_singleton,Xu]
  exact zo ho hc (fun k hk q=>by subst q;have:=yp ho hk hb';cases this)
 ·have:=zo h.hs (Chg.of_grown hg) (fun k hk q=>by have:=YY h.hf h.hs q hk;cases this)
  exact zo this hc (fun k hk q=>by subst q;have:=yp this hk hb';cases this)
theorem zdm.stepS {e:Ent} (h:zdm w base b lv fv bv r1 r2 r3) (hg:w.grownBy w' bv.ownBlock) (ho:w'.ownsRow base 502 2 v (r3.length+1) (xW r3++[.int .i64 (e.2.2.1:Int),.int .i64 (e.2.2.2:Int)])):zdm (w'.setCell ⟨b,2,none⟩ v) base b lv fv v r1 r2 (r3++[e]):=by
 have hb':=(Chg.of_grown hg).obj (fun q=>by have:=yp h.hs q h.hb;cases this) h.hb;have hc:Chg (·=b) w' (w'.setCell ⟨b,2,none⟩ v):=(Chg.refl (·=b) w').setCell (p:=⟨b,2,none⟩) (fun _=>rfl) v;refine ⟨zk hb' v,?_,?_,?_,h.bb⟩
 ·have:=zo h.hl (Chg.of_grown hg) (fun k hk q=>by have:=YY h.hs h.hl q hk;cases this)
  exact zo this hc (fun k hk q=>by subst q;have:=yp this hk hb';cases this)
 ·have:=zo h.hf (Chg.of_grown hg) (fun k hk q=>by have:=YY h.hs h.hf q hk;cases this)
  exact zo this hc (fun k hk q=>by subst q;have:=yp this hk hb';cases this)
 ·rw [zgV,List.length_singleton,Xt]
  exact zo ho hc (fun k hk q=>by subst q;have:=yp ho hk hb';cases this)
end
theorem FIn.facts {w W:World} {R:List Rul} {s:Wd} {bnd b i a k:Nat} {r0 r:List Ent} {W0:World} (h:FIn w R bnd b i r0 a k r W) (h0:zfs w R s bnd b i r0 W0) (hi:i < r0.length):r.length<=bnd∧i < r.length∧Zt r i=Zt r0 i:=by
 obtain ⟨q1,q2,⟨t,rfl⟩,_,_⟩:=yc h.pre h0.nd h0.len;exact ⟨q2,by rw [zgV];omega,zY t hi⟩
theorem zfs.next {w W W0:World} {R:List Rul} {s:Wd} {bnd b i:Nat} {r0 r:List Ent} (h0:zfs w R s bnd b i r0 W0) (hi:i < r0.length) (h:FIn w R bnd b i r0 (zG (Zt r0 i)) 0 r W):zfs w R s bnd b (i+1) r W:=by
 have hp:=h.pre;rw [zcQ] at hp;obtain ⟨q1,q2,⟨t,rfl⟩,q4,_⟩:=yc hp h0.nd h0.len;have h1:=h0.len;refine ⟨h.row,?_,by omega,q2,q1,fun u hu=>?_,h.chg⟩
 ·rw [h0.goes,show bnd - i=(bnd - (i+1))+1 by omega,Xa,if_pos hi,hp];rfl
 ·rcases q4 u hu with q | q
  ·exact h0.may u q
  ·exact (zex (h0.may _ (XC hi)) q).1
theorem zfs.over {w W0:World} {R:List Rul} {s:Wd} {bnd b i a k:Nat} {r0:List Ent} (h0:zfs w R s bnd b i r0 W0) (hi:i < r0.length) (ha:a < zG (Zt r0 i)) (hk:k<=R.length) (h:zcp R bnd i r0 (Zt r0 i) a k=none):zeE R s bnd=none:=by
 have hn:=YZ (zcW R (Zt r0 i) ha hk) h;have h1:=h0.len;rw [h0.goes,show bnd - i=(bnd - (i+1))+1 by omega,Xa,if_pos hi,hn];rfl
theorem zfs.done {w W0:World} {R:List Rul} {s:Wd} {bnd b i:Nat} {r0:List Ent} (h0:zfs w R s bnd b i r0 W0) (hi:¬ i < r0.length):zeE R s bnd=some r0:=by
 rw [h0.goes];cases hf:bnd - i with
 | zero=>rfl
 | succ f=>rw [Xa,if_neg hi]
end Go.Proofs.YtcilaocknhphnaaGreat

namespace Go.Proofs.YtcilaocknhphnaaGreat
open Go.RowKit Go.Maps
theorem Yw.imp {w:World} {v:Value} {G G':Nat->Prop} {L:List (Int × Int)} (h:Yw w v G L) (hg:∀ k,G k->G' k):Yw w v G' L:=by
  obtain ⟨la,cap,h1,h2,h3⟩:=h;exact ⟨la,cap,h1,h2,fun j r hj=>by obtain ⟨lb,lo,q1,q2,q3⟩:=h3 j r hj;exact ⟨lb,lo,q1,hg _ q2,q3⟩⟩
theorem ZB.below {w w1:World} {v:Value} {R:List zen} {B:Nat} (h:ZB w v (· < w.heap.size) R) (k:Chg (fun _=>False) w w1) (hB:w.heap.size<=B):ZB w1 v (· < B) R:=
  (h.chg k (fun _ _ e=>e)).imp (fun _ hx=>zgZ hx hB)
open Classical in
theorem zdw {D:DataW Value} {f:Lit->Option Value} (q:zdl D f) (kl:Lit):zdl (D.del kl) (zfR f kl none):=by
 intro x;by_cases hx:x=kl
 ·subst hx
  rw [zbb];exact ⟨has_del_same,fun d e z=>by cases e⟩
 ·rw [XK f hx,has_del_other hx]
  exact ⟨(q x).1,fun d e z=>by rw [atKey_del_other hx];exact (q x).2 d e z⟩
section
variable {P:Program} {k e:TypeId} {w:World} {b m:Nat} {f:Lit->Option Value}
theorem zbN.del {t:TypeId} (h:zbN P k w b m f) (K:Keyed P k) (ht:P.underlying t=some (.map k e)) {key:Value} {kl:Lit} (hkey:keyOf P k key=some kl) (ty:TypeId):
  ∃ w' m',(Builtin.delete_ #[t,k] ty #[.map (some b),key]).run P w=.ok (.tuple #[]) w'∧m'+(if (f kl).isSome=true then 1 else 0)=m∧zbN P k w' b m' (zfR f kl none)∧Chg (·=b) w w':=by
 obtain ⟨D,h,hm,q⟩:=h;obtain ⟨w',hr,h1,h2⟩:=h.drop K ht hkey ty;have hz:=size_del (k:=kl) (h.tidy K);rw [hm,(q kl).1] at hz;exact ⟨w',_,hr,hz,⟨_,YE h1,rfl,zdw q kl⟩,(Chg.of_grown h2.grown).mono (fun x _ e=>by cases e;rfl)⟩
end
section
variable {P:Program} {k e:TypeId} {w:World} {b r m cnt:Nat} {f:Lit->Option Value} {left:Lit->Bool}
theorem yW.map (h:yW P k w b r m f left cnt):zbN P k w b m f:=by
 obtain ⟨D,h,q⟩:=h;exact ⟨D,h.owns,q⟩
theorem yW.left_eq (h:yW P k w b r m f left cnt):w.rangeLeft b r=cnt:=by
 obtain ⟨D,h,q⟩:=h;exact h.left_eq
theorem yW.lt (h:yW P k w b r m f left cnt):r < w.heap.size:=by
 obtain ⟨D,h,q⟩:=h;exact h.lt
theorem yW.chg {S:Nat->Prop} {w':World} (h:yW P k w b r m f left cnt) (hc:Chg S w w') (hb:¬ S b) (hr:¬ S r):yW P k w' b r m f left cnt:=by
 obtain ⟨D,h,q⟩:=h;obtain ⟨es,clock,since,seen,c0,h1,F,hs,hD,h2,rest⟩:=h;exact ⟨D,⟨es,clock,since,seen,c0,hc.obj hb h1,F,hs,hD,hc.obj hr h2,rest⟩,q⟩
theorem yW.ne_cells (h:yW P k w b r m f left cnt) {g:Nat} {cs:Array Value} {t:TypeId} {fz:Nat × Nat} (hg:w.heap[g]? = some (.cells cs t fz)):g≠r:=by
 obtain ⟨D,h,q⟩:=h;obtain ⟨es,clock,since,seen,c0,h1,F,hs,hD,h2,rest⟩:=h;intro e;rw [e,h2] at hg;cases hg
end
def zZ (n:Nat):List UInt8:=if n < 128 then [UInt8.ofNat n] else UInt8.ofNat (n % 128+128) :: zZ (n / 128)
termination_by n
decreasing_by omega
theorem Zr {n:Nat} (h:n < 128):zZ n=[UInt8.ofNat n]:=by rw [zZ,if_pos h]
theorem yZ {n:Nat} (h:128<=n):zZ n=UInt8.ofNat (n % 128+128) :: zZ (n / 128):=by rw [zZ,if_neg (by omega)]
theorem xJ:∀ (k n:Nat),n < 128 ^ (k+1)->(zZ n).length<=k+1
  | 0,n,h=>by rw [Zr (by simpa using h)];simp
  | k+1,n,h=>by
    rcases Nat.lt_or_ge n 128 with q | q
    · rw [Zr q];simp
    · rw [yZ q,List.length_cons]
      have:=xJ k (n / 128) (by rw [Nat.div_lt_iff_lt_mul (by omega)];rwa [Nat.pow_succ] at h);omega
def Yi (s:ByteArray):List UInt8:=UInt8.ofNat (zG s.data.toList) :: s.data.toList
def zX (l:List ByteArray):List UInt8:=l.flatMap Yi
def zco (l:List ByteArray):List UInt8:=UInt8.ofNat l.length :: zX l
theorem Xe {s:ByteArray} (h:ZO s.data.toList=true):s.data.toList.length=2*zG s.data.toList∧zG s.data.toList<=8:=by
  obtain ⟨h1,_,h3,_⟩:=(Zn _).1 h;unfold zG at *;exact ⟨by omega,h3⟩
theorem zgq:∀ x:Fin 256,bits BinOp.or IntKind.u8 ((x.val:Nat):Int) 128=((x.val % 128+128:Nat):Int):=by decide +kernel
structure zei (w:World) (base b:Nat) (s:List UInt8):Prop where
  row:∃ v,w.heap[b]? = some (.cells #[.int .i64 0,v] 255 (0,0))∧w.ownsRow base 5 1 v s.length (zu s)
  base:base<=b
theorem zei.chg {S:Nat->Prop} {w w':World} {base b:Nat} {s:List UInt8} (h:zei w base b s) (hc:Chg S w w') (hs:∀ k,base<=k->¬ S k):zei w' base b s:=by
  obtain ⟨v,h1,h2⟩:=h.row;exact ⟨⟨v,hc.obj (hs b h.base) h1,zo h2 hc (fun k hk=>hs k (h2.lt k hk).1)⟩,h.base⟩
theorem xF (w:World) (b:Nat) (v:Value) (h:w.heap[b]? = some (.cells #[.int .i64 0,v] 255 (0,0))):Calls Tryz.prog 208 #[.pointer (some ⟨b,0,none⟩)] w fun e w'=>e=.returned (.bool true)∧w=w':=by
  have c0:=zg (o:=0) h rfl;clear h;go_enter Tryz.func208,Tryz.ntmps208;go_wp2;go_ret;exact ⟨rfl,rfl⟩
theorem zfE {m:Nat}:bits BinOp.or IntKind.u8 ((m:Int) % 256) 128=((m % 128+128:Nat):Int):=by
  have:=zgq ⟨m % 256,Nat.mod_lt _ (by omega)⟩;simp only at this;rw [show ((m % 256:Nat):Int)=(m:Int) % 256 from by omega] at this;rw [this]
  congr 1
  omega
theorem Tryz.sizeBytes:(Tryz.prog.info? 23).map (·.size)=some 1:=by kernel_rfl
theorem Tryz.infoByte:(Tryz.prog.info? 5).map (fun i=>(i.zero,i.size,i.bytes))=some (some (.int .u8 0),1,1):=by kernel_rfl
theorem yB (s t:List UInt8):zu (s++t)=zu s++zu t:=by unfold zu;rw [List.map_append]
theorem xS {l:List ByteArray} {k:Nat} {x:ByteArray} (hx:l[k]? = some x):zX (l.take (k+1))=zX (l.take k)++Yi x:=by
  unfold zX;rw [zha,hx,List.flatMap_append];simp
theorem zdp {x:ByteArray} (h:ZO x.data.toList=true):(Yi x).length<=17:=by
  obtain ⟨h1,h2⟩:=Xe h;unfold Yi;rw [List.length_cons];omega
theorem YT:∀ (l:List ByteArray),(∀ x∈l,ZO x.data.toList=true)->(zX l).length<=17*l.length
  | [],_=>by simp [zX]
  | a :: l,h=>by
    unfold zX;rw [List.flatMap_cons,zgV,List.length_cons];have h1:=zdp (h a List.mem_cons_self);have h2:=YT l (fun x hx=>h x (List.mem_cons_of_mem _ hx));unfold zX at h2;omega
set_option maxRecDepth 100000 in
theorem zdK (w:World) (base b:Nat) (s:List UInt8) (h:zei w base b s) (h1:1<=s.length) (hs:s.length<=100000):
    Calls Tryz.prog 133 #[.pointer (some ⟨b,0,none⟩)] w fun e w'=>e=.returned (.tuple #[.string ⟨s.toArray⟩,.int .i64 0])∧w=w':=by
  obtain ⟨v,hb,ho⟩:=h.row;have WE:=zf (xF w b v hb);have c1:=zg (o:=1) hb rfl;obtain ⟨ra,rc,rfl,hrl,hcl⟩:=zah ho;unfold maxLen at hrl;obtain ⟨g,rfl,_,_⟩:=hcl 0 _ (Yh s 0 (by omega))
  have hcv:=run_convert_bytes_arg (P:=Tryz.prog) w 23 5 Tryz.underlying23 Tryz.underlying5 g 0 s.length rc (s.map fun c=>(c.toNat:Int)) (by rw [zgW])
    (fun i hi=>by
      obtain ⟨g',e',_,cx⟩:=hcl i _ (Yh s i hi);cases e';rw [Nat.zero_add];exact cx) 9 Tryz.underlying9
  rw [Zu] at hcv;clear hcl hb ho h;go_enter Tryz.func133,Tryz.ntmps133;go_wp2_with fail;(with_reducible refine WE.out.mono ?_);rintro e w2 ⟨rfl,rfl⟩;go_wp2;go_ret2;exact ⟨rfl,rfl⟩
theorem YI (n:Nat):1<=(zZ n).length:=by
  rcases Nat.lt_or_ge n 128 with h | h
  · rw [Zr h];simp
  · rw [yZ h];simp
theorem zdn {z:Int} (h:z<=4611686018427387904):(zZ z.toNat).length<=9:=xJ 8 _ (by omega)

theorem yN {n:Nat} (h:n<=4611686018427387904):1<=(zZ n).length∧(zZ n).length<=9:=⟨YI n,xJ 8 n (by omega)⟩
def zbr (x:zO):List UInt8:=zZ x.1.toNat++zco x.2
structure yE where
  val:Int
  ver:Int
  ents:List zO
structure xK where
  boot:Int
  objs:List yE
def zaZ (o:yE):List UInt8:=zZ o.val.toNat++(zZ o.ver.toNat++(zZ o.ents.length++o.ents.flatMap zbr))
def xH (r:xK):List UInt8:=zZ r.boot.toNat++(zZ r.objs.length++r.objs.flatMap zaZ)
def ZK (n:Int):Bool:=decide (0<=n) && decide (n<=4611686018427387904)
def yM (o:yE):Bool:=ZK o.val && (ZK o.ver && decide (YJ [] o.ents=0))
def Yl (r:xK):Bool:=decide (0<=r.boot) && (decide (r.boot<=40) && (decide (r.objs.length<=4) && r.objs.all yM))
theorem zdR {n:Int}:ZK n=true↔0<=n∧n<=4611686018427387904:=by unfold ZK;simp
theorem xI {o:yE}:yM o=true↔(0<=o.val∧o.val<=4611686018427387904)∧(0<=o.ver∧o.ver<=4611686018427387904)∧YJ [] o.ents=0:=by unfold yM;simp [zdR]
theorem Zv {r:xK}:Yl r=true↔0<=r.boot∧r.boot<=40∧r.objs.length<=4∧∀ o∈r.objs,yM o=true:=by unfold Yl;simp
theorem zbf:∀ (r L:List zO),YJ L r=0->L.length<=12->(∀ x∈r,zaq x=true)∧L.length+r.length<=12
  | [],L,_,h=>⟨fun x hx=>(by cases hx),by simpa using h⟩
  | x :: r,L,h,hl=>by
    have h:(if yD x L=0 then YJ (L++[x]) r else yD x L)=0:=h;by_cases h0:yD x L=0
    · rw [if_pos h0] at h
      obtain ⟨h1,h2,h3⟩:=zbD h0;obtain ⟨h4,h5⟩:=zbf r (L++[x]) h (by simp;omega);refine ⟨fun y hy=>?_,by simp at h5 ⊢;omega⟩;rcases List.mem_cons.1 hy with rfl | hy
      · exact h1
      · exact h4 y hy
    · rw [if_neg h0] at h;exact absurd h h0
theorem yq {o:yE} (h:yM o=true):(∀ x∈o.ents,zaq x=true)∧o.ents.length<=12:=by
  obtain ⟨h1,h2⟩:=zbf o.ents [] (xI.1 h).2.2 (by simp);exact ⟨h1,by simpa using h2⟩
theorem zdE (r:xK) (h0:r.boot=0):(xH { r with boot:=1 }).length=(xH r).length:=by
  unfold xH;rw [h0];show (zZ 1++_).length=(zZ 0++_).length;rw [Zr (n:=1) (by decide),Zr (n:=0) (by decide)];rfl
theorem zdF {r:xK} (h:Yl r=true):Yl { r with boot:=1 }=true:=by
  obtain ⟨h1,h2,h3,h4⟩:=Zv.1 h;exact Zv.2 ⟨by show (0:Int)<=1;decide,by show (1:Int)<=40;decide,h3,h4⟩
theorem zeL {a b i:Nat} (h:a < 2 ^ i):a ||| (b <<< i)=a+b*2 ^ i:=by
  rw [Nat.or_comm,<- Nat.shiftLeft_add_eq_or_of_lt h,Nat.shiftLeft_eq,Nat.add_comm]
theorem zb1 (k:Nat):128 ^ k=2 ^ (7*k):=by rw [Nat.pow_mul]
theorem zeO (n k:Nat):n % 128 ^ k+n / 128 ^ k % 128*128 ^ k=n % 128 ^ (k+1):=by
  rw [Nat.pow_succ,Nat.mod_mul];rw [Nat.mul_comm]
def zN (w:World) (v:Value) (G:Nat->Prop) (L:List yE):Prop:=
  ∃ la cap,v=.slice la L.length cap∧L.length<=cap∧cap<=maxLen∧(la=none->cap=0) ∧
    ∀ (j:Nat) x,L[j]? = some x->∃ g o ev,la=some ⟨g,o,none⟩∧G g∧w.cell? ⟨g,o+j*3,none⟩=some (.int .i64 x.val)∧w.cell? ⟨g,o+j*3+1,none⟩=some ev∧w.cell? ⟨g,o+j*3+2,none⟩=some (.int .i64 x.ver)∧zW w ev G x.ents
theorem zN.chg {S:Nat->Prop} {w w':World} {v:Value} {G:Nat->Prop} {L:List yE} (h:zN w v G L) (hc:Chg S w w') (hs:∀ k,G k->¬ S k):zN w' v G L:=by
  obtain ⟨la,cap,h1,h2,h3,h4,h5⟩:=h
  exact ⟨la,cap,h1,h2,h3,h4,fun j x hj=>by
    obtain ⟨g,o,ev,q1,q2,q3,q4,q5,q6⟩:=h5 j x hj;exact ⟨g,o,ev,q1,q2,zi hc (hs g q2) q3,zi hc (hs g q2) q4,zi hc (hs g q2) q5,q6.chg hc hs⟩⟩
theorem zN.up {w:World} {v:Value} {G G':Nat->Prop} {L:List yE} (h:zN w v G L) (hg:∀ k,G k->G' k):zN w v G' L:=by
  obtain ⟨la,cap,h1,h2,h3,h4,h5⟩:=h
  exact ⟨la,cap,h1,h2,h3,h4,fun j x hj=>by
    obtain ⟨g,o,ev,q1,q2,q3,q4,q5,q6⟩:=h5 j x hj;exact ⟨g,o,ev,q1,hg _ q2,q3,q4,q5,q6.up hg⟩⟩
theorem zN.shape {w:World} {v:Value} {G:Nat->Prop} {L:List yE} (h:zN w v G L):∃ la cap,v=.slice la L.length cap∧L.length<=cap∧cap<=maxLen∧(la=none->cap=0):=by
  obtain ⟨la,cap,h1,h2,h3,h4,_⟩:=h;exact ⟨la,cap,h1,h2,h3,h4⟩
theorem zN.get {w:World} {la:Option Addr} {n cap:Nat} {G:Nat->Prop} {L:List yE} (h:zN w (.slice la n cap) G L) {j:Nat} {x:yE} (hj:L[j]? = some x):
    ∃ g o ea ec,la=some ⟨g,o,none⟩∧G g∧w.cell? ⟨g,o+j*3,none⟩=some (.int .i64 x.val)∧w.cell? ⟨g,o+j*3+1,none⟩=some (.slice ea x.ents.length ec)∧w.cell? ⟨g,o+j*3+2,none⟩=some (.int .i64 x.ver)∧zW w (.slice ea x.ents.length ec) G x.ents:=by
  obtain ⟨la',cap',e,_,_,_,h5⟩:=h;cases e;obtain ⟨g,o,ev,q1,q2,q3,q4,q5,q6⟩:=h5 j x hj;obtain ⟨ea,ec,rfl,_⟩:=q6.shape;exact ⟨g,o,ea,ec,q1,q2,q3,q4,q5,q6⟩
theorem zc1 (w:World) (G:Nat->Prop):zN w (.slice none 0 0) G []:=
  ⟨none,0,rfl,zhb _,by unfold maxLen;omega,fun _=>rfl,fun j x h=>by simp at h⟩
def zfh (w:World) (v:Value) (G:Nat->Prop) (r:xK):Prop:=∃ ov,v=.agg #[.int .i64 r.boot,ov]∧zN w ov G r.objs
theorem zfh.chg {S:Nat->Prop} {w w':World} {v:Value} {G:Nat->Prop} {r:xK} (h:zfh w v G r) (hc:Chg S w w') (hs:∀ k,G k->¬ S k):zfh w' v G r:=by
  obtain ⟨ov,e,h⟩:=h;exact ⟨ov,e,h.chg hc hs⟩
structure zgG (r:xK):Prop where
  objs:r.objs.length<=6
  ents:∀ o∈r.objs,o.ents.length<=14
  who:∀ o∈r.objs,∀ x∈o.ents,x.2.length<=18
  word:∀ o∈r.objs,∀ x∈o.ents,∀ s∈x.2,s.size<=100
end Go.Proofs.YtcilaocknhphnaaGreat
