/-
  Words in plain Lean: the atoms of a word, which words may be, where words stand in a word. No program in sight. Words, by atoms and by bytes. Layer 10: a word that is in the list twice (plain). Layer 10: hits stand where they say, and rise (plain). Layer 10: what stands in a word stands in it with more ahead and behind (plain). Layer 11: what words lead to by rules (plain). Layer 11: what the row of a word is (plain): just what is reached, each once; or more than the bound is reached. Layer 11: what follows for rows (plain): on, more rules, what stands around. Layer 11: the steps from a word to another one (plain).
-/
namespace Go.Proofs.YtcilaocknhphnaaGreat

def zC (l:List UInt8) (i:Nat):Nat:=(l.getD (2*i) 0).toNat*256+(l.getD (2*i+1) 0).toNat
def zG (l:List UInt8):Nat:=l.length / 2
def yt (l:List UInt8):List Nat:=(List.range (zG l)).map (zC l)
def ZO (l:List UInt8):Bool:=decide (l.length % 2=0) && decide (1<=zG l) && decide (zG l<=8) && (yt l).all (fun a=>a != 0)
theorem zbB (l:List UInt8) (i:Nat):zC l i < 65536:=by
 unfold zC;have:=(l.getD (2*i) 0).toNat_lt;have:=(l.getD (2*i+1) 0).toNat_lt;omega
theorem ZM (l:List UInt8):(yt l).length=zG l:=by simp [yt]
theorem ye (l:List UInt8) {i:Nat} (h:i < zG l):(yt l)[i]? = some (zC l i):=by
 unfold yt;rw [List.getElem?_map,List.getElem?_range h];rfl
theorem Xm (l:List UInt8) {i:Nat} (h:i < zG l):(yt l).take (i+1)=(yt l).take i++[zC l i]:=by
 have hl:i < (yt l).length:=by rw [ZM];exact h
 rw [List.take_succ_eq_append_getElem hl];have:=ye l h;rw [List.getElem?_eq_getElem hl] at this;rw [Option.some.inj this]
theorem Zn (l:List UInt8):ZO l=true↔l.length % 2=0∧1<=zG l∧zG l<=8∧∀ i,i < zG l->zC l i≠0:=by
 unfold ZO;simp only [Bool.and_eq_true,decide_eq_true_eq,List.all_eq_true,bne_iff_ne];constructor
 ·rintro ⟨⟨⟨h1,h2⟩,h3⟩,h4⟩
  exact ⟨h1,h2,h3,fun i hi=>h4 _ (List.mem_of_getElem? (ye l hi))⟩
 ·rintro ⟨h1,h2,h3,h4⟩
  refine ⟨⟨⟨h1,h2⟩,h3⟩,fun a ha=>?_⟩;obtain ⟨i,hi,rfl⟩:=List.mem_map.1 ha;exact h4 i (List.mem_range.1 hi)
def yI (v w:List UInt8) (at_:Nat):Bool:=ZO v && (yt v).isPrefixOf ((yt w).drop at_)
def zdV (l:List (List UInt8)) (w:List UInt8) (at_:Nat):List Nat:=(List.range l.length).filter fun i=>yI (l.getD i []) w at_
def yP (l:List (List UInt8)) (w:List UInt8) (n:Nat):List (Nat × Nat):=(List.range n).flatMap fun a=>(zdV l w a).map fun i=>(a,i)
def zf4 (l:List (List UInt8)) (w:List UInt8):List (Nat × Nat):=yP l w (zG w)
theorem zb8 (l:List (List UInt8)) (w:List UInt8) (n:Nat):yP l w (n+1)=yP l w n++(zdV l w n).map fun i=>(n,i):=by
 unfold yP;rw [List.range_succ,List.flatMap_append];simp
def putTo (ps:List (List Nat)) (p:List Nat):Nat->List (List Nat)
 | 0=>ps
 | i+1=>if p.take (i+1)∈putTo ps p i then putTo ps p i else putTo ps p i++[p.take (i+1)]
structure zdo (ps:List (List Nat)):Prop where
 root:ps[0]? = some []
 nodup:ps.Nodup
 down:∀ p a,p++[a]∈ps->p∈ps
theorem zdo.mem_nil {ps:List (List Nat)} (h:zdo ps):[]∈ps:=List.mem_of_getElem? h.root
theorem zbc (ps:List (List Nat)) (p:List Nat):∀ i,∀ q,q∈putTo ps p i↔q∈ps∨∃ j,1<=j∧j<=i∧q=p.take j
 | 0,q=>by simp [putTo];omega
 | i+1,q=>by
  have ih:=zbc ps p i;rw [putTo];split
  ·rename_i hm
   rw [ih];constructor
   ·rintro (h | ⟨j,h1,h2,h3⟩)
    ·exact .inl h
    ·exact .inr ⟨j,h1,by omega,h3⟩
   ·rintro (h | ⟨j,h1,h2,h3⟩)
    ·exact .inl h
    ·rcases Nat.lt_or_ge i j with q' | q'
     ·obtain rfl:j=i+1:=by omega
      rw [ih] at hm;rw [h3];exact hm
     ·exact .inr ⟨j,h1,q',h3⟩
  ·rw [List.mem_append,ih,List.mem_singleton]
   constructor
   ·rintro ((h | ⟨j,h1,h2,h3⟩) | h)
    ·exact .inl h
    ·exact .inr ⟨j,h1,by omega,h3⟩
    ·exact .inr ⟨i+1,by omega,by omega,h⟩
   ·rintro (h | ⟨j,h1,h2,h3⟩)
    ·exact .inl (.inl h)
    ·rcases Nat.lt_or_ge i j with q' | q'
     ·obtain rfl:j=i+1:=by omega
      exact .inr h3
     ·exact .inl (.inr ⟨j,h1,q',h3⟩)
theorem zdo.putTo {ps:List (List Nat)} (h:zdo ps) (p:List Nat):∀ i,i<=p.length->zdo (putTo ps p i)
 | 0,_=>h
 | i+1,hi=>by
  have ih:=zdo.putTo h p i (by omega);rw [Go.Proofs.YtcilaocknhphnaaGreat.putTo];split
  ·exact ih
  ·rename_i hm
   refine ⟨?_,?_,?_⟩
   ·rw [List.getElem?_append_left]
    ·exact ih.root
    ·exact (List.getElem?_eq_some_iff.1 ih.root).1
   ·rw [List.nodup_append]
    refine ⟨ih.nodup,by simp,fun a ha b hb=>?_⟩;rw [List.mem_singleton] at hb;subst hb;rintro rfl;exact hm ha
   ·intro q a hq
    rw [List.mem_append,List.mem_singleton] at hq;rcases hq with hq | hq
    ·exact List.mem_append_left _ (ih.down q a hq)
    ·have hl:q=p.take i:=by
      have e:=congrArg List.dropLast hq;rw [List.dropLast_concat] at e;rw [e,List.dropLast_eq_take,List.length_take,List.take_take]
      congr 1;omega
     rw [hl];refine List.mem_append_left _ ?_;rcases Nat.eq_zero_or_pos i with rfl | hpos
     ·simpa [Go.Proofs.YtcilaocknhphnaaGreat.putTo] using h.mem_nil
     ·exact (zbc ps p i _).2 (.inr ⟨i,hpos,Nat.le_refl _,rfl⟩)
theorem Xv {l m:List Nat}:l <+: m↔l.length<=m.length∧∀ i,i < l.length->l[i]? = m[i]?:=by
 constructor
 ·intro h
  refine ⟨h.length_le,fun i hi=>?_⟩;obtain ⟨t,rfl⟩:=h;rw [List.getElem?_append_left hi]
 ·rintro ⟨h1,h2⟩
  rw [List.prefix_iff_eq_take];apply List.ext_getElem?;intro i;rw [List.getElem?_take];split
  ·rename_i hi;exact h2 i hi
  ·rename_i hi;rw [List.getElem?_eq_none (by omega)]
def zdy (v w:List UInt8) (a:Nat):Bool:=decide (2*a+v.length<=2*zG w) && ((w.drop (2*a)).take v.length == v)
theorem xT {v w:List UInt8} {a:Nat} (h:2*a+v.length<=w.length):(w.drop (2*a)).take v.length=v↔∀ i,i < v.length->v.getD i 0=w.getD (2*a+i) 0:=by
 constructor
 ·intro e i hi
  rw [<- e,List.getD_eq_getElem?_getD,List.getElem?_take,if_pos hi,List.getElem?_drop,<- List.getD_eq_getElem?_getD]
 ·intro h2
  apply List.ext_getElem?;intro i;rw [List.getElem?_take];split
  ·rename_i hi
   have:=h2 i hi;rw [List.getD_eq_getElem?_getD,List.getD_eq_getElem?_getD,List.getElem?_eq_getElem hi,List.getElem?_eq_getElem (by omega)] at this;rw [List.getElem?_drop,List.getElem?_eq_getElem hi,List.getElem?_eq_getElem (by omega)];simp at this;rw [this]
  ·rename_i hi;rw [List.getElem?_eq_none (by omega)]
theorem zac (v w:List UInt8) (a:Nat):yI v w a=(ZO v && zdy v w a):=by
 unfold yI;cases hm:ZO v with
 | false=>rfl
 | true=>
  rw [Bool.true_and,Bool.true_and];have hv:=(Zn v).1 hm;have he:v.length=2*zG v:=by unfold zG;omega
  have hw:2*zG w<=w.length:=by unfold zG;omega
  rw [Bool.eq_iff_iff,List.isPrefixOf_iff_prefix,Xv];unfold zdy;rw [Bool.and_eq_true,decide_eq_true_eq,beq_iff_eq,List.length_drop,ZM,ZM];constructor
  ·rintro ⟨h1,h2⟩
   have hlen:2*a+v.length<=2*zG w:=by have:=hv.2.1;omega
   refine ⟨hlen,(xT (by omega)).2 fun i hi=>?_⟩;have hk:i / 2 < zG v:=by omega
   have h3:=h2 (i / 2) hk;rw [ye v hk,List.getElem?_drop,ye w (by omega)] at h3;have h4:=Option.some.inj h3;unfold zC at h4;rw [show 2*(a+i / 2)=2*a+2*(i / 2) from by omega] at h4;have b1:=(v.getD (2*(i / 2)) 0).toNat_lt;have b2:=(v.getD (2*(i / 2)+1) 0).toNat_lt;have b3:=(w.getD (2*a+2*(i / 2)) 0).toNat_lt;have b4:=(w.getD (2*a+2*(i / 2)+1) 0).toNat_lt;rcases (by omega:i=2*(i / 2)∨i=2*(i / 2)+1) with e | e
   ·rw [e];exact UInt8.toNat_inj.1 (by omega)
   ·rw [e];exact UInt8.toNat_inj.1 (by rw [<- Nat.add_assoc];omega)
  ·rintro ⟨h1,h2⟩
   have h3:=(xT (by omega)).1 h2;refine ⟨by omega,fun k hk=>?_⟩;rw [ye v hk,List.getElem?_drop,ye w (by omega)];unfold zC;rw [h3 (2*k) (by omega),h3 (2*k+1) (by omega),show 2*(a+k)=2*a+2*k from by omega];rfl
def cnt (N:Nat) (l:List (Nat × Nat)):Nat:=l.countP fun h=>h.2 == N
theorem zbk {L:List (List UInt8)} {w:List UInt8} {a i:Nat}:i∈zdV L w a↔i < L.length∧yI (L.getD i []) w a=true:=by
 unfold zdV;rw [List.mem_filter,List.mem_range]
theorem xd {L:List (List UInt8)} {w:List UInt8} {a i:Nat}:∀ {n:Nat},(a,i)∈yP L w n↔a < n∧i < L.length∧yI (L.getD i []) w a=true
 | 0=>by simp [yP]
 | n+1=>by
  rw [zb8,List.mem_append,xd,List.mem_map];constructor
  ·rintro (h | ⟨j,hj,e⟩)
   ·exact ⟨by omega,h.2⟩
   ·cases e
    exact ⟨by omega,zbk.1 hj⟩
  ·rintro ⟨h1,h2⟩
   by_cases e:a < n
   ·exact .inl ⟨e,h2⟩
   ·obtain rfl:n=a:=by omega
    exact .inr ⟨i,zbk.2 h2,rfl⟩
theorem XD (v w:List UInt8) (a:Nat):yI v w a=true↔ZO v=true∧2*a+v.length<=2*zG w∧(w.drop (2*a)).take v.length=v:=by
 rw [zac,Bool.and_eq_true];unfold zdy;rw [Bool.and_eq_true,decide_eq_true_eq,beq_iff_eq]
theorem zb4 {v:List UInt8} (h:ZO v=true):2<=v.length∧v.length % 2=0:=by
 obtain ⟨h1,h2,_⟩:=(Zn v).1 h;unfold zG at h2;exact ⟨by omega,h1⟩
abbrev Wd:=List UInt8
abbrev Rul:=Wd × Wd
def Ys (r:Rul):Bool:=ZO r.1 && ZO r.2 && decide (zG r.2<=zG r.1)
def Xz (R:List Rul):List Wd:=R.map fun r=>if Ys r then r.1 else []
def xk (w:Wd) (a n:Nat) (v:Wd):Wd:=w.take (2*a)++v++w.drop (2*(a+n))
def yi (R:List Rul) (k:Nat):Rul:=R.getD k ([],[])
def zfv (R:List Rul) (w:Wd) (h:Nat × Nat):Wd:=xk w h.1 (zG (yi R h.2).1) (yi R h.2).2
def ZZ (R:List Rul) (w:Wd):List ((Nat × Nat) × Wd):=(zf4 (Xz R) w).map fun h=>(h,zfv R w h)
abbrev Ent:=Wd × (Int × (Nat × Nat))
def Zb (r:List Ent):List Wd:=r.map (·.1)
def ZS (bound i:Nat):List ((Nat × Nat) × Wd)->List Ent->Option (List Ent)
 | [],r=>some r
 | (s,v) :: t,r=>if v∈Zb r then ZS bound i t r else if r.length=bound then none else ZS bound i t (r++[(v,((i:Int),s))])
def Zt (r:List Ent) (i:Nat):Wd:=(r.getD i ([],(0,(0,0)))).1
def Xa (R:List Rul) (bound:Nat):Nat->Nat->List Ent->Option (List Ent)
 | 0,_,r=>some r
 | f+1,i,r=>if i < r.length then (ZS bound i (ZZ R (Zt r i)) r).bind (Xa R bound f (i+1)) else some r
def zfU (w:Wd):List Ent:=[(w,(-1,(0,0)))]
def zeE (R:List Rul) (w:Wd) (bound:Nat):Option (List Ent):=Xa R bound bound 0 (zfU w)
def zfr (l:Wd):Prop:=l.length % 2=0∧∀ i,i < zG l->zC l i≠0
theorem zak {l:Wd}:ZO l=true↔zfr l∧1<=zG l∧zG l<=8:=by
 rw [Zn];exact ⟨fun h=>⟨⟨h.1,h.2.2.2⟩,h.2.1,h.2.2.1⟩,fun h=>⟨h.1.1,h.2.1,h.2.2,h.1.2⟩⟩
theorem yk (a b:Wd) {i:Nat} (h:2*i+1 < a.length):zC (a++b) i=zC a i:=by
 unfold zC;simp only [List.getD_eq_getElem?_getD];rw [List.getElem?_append_left (by omega),List.getElem?_append_left h]
theorem Yv (a b:Wd) {i:Nat} (he:a.length % 2=0) (h:zG a<=i):zC (a++b) i=zC b (i - zG a):=by
 unfold zG at h ⊢;unfold zC;simp only [List.getD_eq_getElem?_getD];rw [List.getElem?_append_right (by omega),List.getElem?_append_right (by omega),show 2*i - a.length=2*(i - a.length / 2) by omega,show 2*i+1 - a.length=2*(i - a.length / 2)+1 by omega]
theorem Xi {a b:Wd} (ha:zfr a) (hb:zfr b):zfr (a++b):=by
 refine ⟨by rw [List.length_append];have:=ha.1;have:=hb.1;omega,fun i hi=>?_⟩;have h1:=ha.1;unfold zG at hi;rw [List.length_append] at hi;by_cases h:i < zG a
 ·rw [yk a b (by unfold zG at h;omega)];exact ha.2 i h
 ·rw [Yv a b h1 (by omega)]
  exact hb.2 _ (by unfold zG at h ⊢;omega)
theorem zdW {a:Wd} (ha:zfr a) (k:Nat):zfr (a.take (2*k)):=by
 have h1:=ha.1;refine ⟨by rw [List.length_take];omega,fun i hi=>?_⟩;unfold zG at hi;rw [List.length_take] at hi
 have e:zC (a.take (2*k)) i=zC a i:=by
  have:=yk (a.take (2*k)) (a.drop (2*k)) (i:=i) (by rw [List.length_take];omega);rw [List.take_append_drop] at this;exact this.symm
 rw [e];exact ha.2 i (by unfold zG;omega)
theorem zdX {a:Wd} (ha:zfr a) (k:Nat):zfr (a.drop (2*k)):=by
 have h1:=ha.1;refine ⟨by rw [List.length_drop];omega,fun i hi=>?_⟩;unfold zG at hi;rw [List.length_drop] at hi
 have e:zC (a.drop (2*k)) i=zC a (i+k):=by
  unfold zC;simp only [List.getD_eq_getElem?_getD,List.getElem?_drop];rw [show 2*k+2*i=2*(i+k) by omega,show 2*k+(2*i+1)=2*(i+k)+1 by omega]
 rw [e];exact ha.2 _ (by unfold zG;omega)
theorem zbm (R:List Rul) (k:Nat):(Xz R).getD k []=if Ys (yi R k) then (yi R k).1 else []:=by
 unfold Xz yi;rw [List.getD_eq_getElem?_getD,List.getElem?_map,List.getD_eq_getElem?_getD];cases R[k]? with
 | none=>simp
 | some r=>rfl
theorem yQ (R:List Rul):(Xz R).length=R.length:=by simp [Xz]
theorem zde (r:Rul):Ys r=true↔ZO r.1=true∧ZO r.2=true∧zG r.2<=zG r.1:=by
 unfold Ys;rw [Bool.and_eq_true,Bool.and_eq_true,decide_eq_true_eq,and_assoc]
theorem zew {w:Wd} {a n:Nat} {v:Wd} (hw:ZO w=true) (hv:ZO v=true) (h:a+n<=zG w) (hn:zG v<=n):ZO (xk w a n v)=true∧(xk w a n v).length=w.length - 2*n+v.length:=by
 obtain ⟨g1,g2,g3⟩:=zak.1 hw;obtain ⟨f1,f2,f3⟩:=zak.1 hv;have e1:=g1.1;have e2:=f1.1
 have el:(xk w a n v).length=w.length - 2*n+v.length:=by
  unfold xk;unfold zG at h;simp only [List.length_append,List.length_take,List.length_drop];omega
 refine ⟨zak.2 ⟨Xi (Xi (zdW g1 _) f1) (zdX g1 _),?_,?_⟩,el⟩
 ·show 1<=zG (xk w a n v)
  unfold zG at *;rw [el];omega
 ·show zG (xk w a n v)<=8
  unfold zG at *;rw [el];omega
def zbE (R:List Rul) (u v:Wd):Prop:=∃ h,(h,v)∈ZZ R u
inductive Reach (R:List Rul) (w:Wd):Wd->Prop
 | refl:Reach R w w
 | tail {u v:Wd}:Reach R w u->zbE R u v->Reach R w v
theorem Reach.trans {R:List Rul} {u v w:Wd} (h:Reach R u v) (k:Reach R v w):Reach R u w:=by
 induction k with
 | refl=>exact h
 | tail _ s ih=>exact ih.tail s
theorem xR (r:List Ent) (e:Ent):Zb (r++[e])=Zb r++[e.1]:=by simp [Zb]
theorem XC {r:List Ent} {i:Nat} (h:i < r.length):Zt r i∈Zb r:=by
 unfold Zt Zb;rw [List.getD_eq_getElem?_getD,List.getElem?_eq_getElem h,List.mem_map];exact ⟨_,List.getElem_mem h,rfl⟩
theorem zY {r:List Ent} (t:List Ent) {i:Nat} (h:i < r.length):Zt (r++t) i=Zt r i:=by
 unfold Zt;rw [List.getD_eq_getElem?_getD,List.getElem?_append_left h,<- List.getD_eq_getElem?_getD]
theorem yx (b i:Nat):∀ (l m:List ((Nat × Nat) × Wd)) (r:List Ent),ZS b i (l++m) r=(ZS b i l r).bind (ZS b i m)
 | [],_,_=>rfl
 | (s,v) :: t,m,r=>by
  simp only [List.cons_append,ZS];split
  ·exact yx b i t m r
  ·split
   ·rfl
   ·exact yx b i t m _
theorem yc {b i:Nat}:∀ {l:List ((Nat × Nat) × Wd)} {r r':List Ent},ZS b i l r=some r'->(Zb r).Nodup->r.length<=b->(Zb r').Nodup∧r'.length<=b∧(∃ t,r'=r++t)∧(∀ v∈Zb r',v∈Zb r∨∃ h,(h,v)∈l)∧∀ x∈l,x.2∈Zb r'
 | [],r,r',h,hn,hb=>by
  cases h;exact ⟨hn,hb,⟨[],by simp⟩,fun v hv=>.inl hv,by simp⟩
 | (s,v) :: t,r,r',h,hn,hb=>by
  unfold ZS at h;split at h
  ·rename_i hv
   obtain ⟨q1,q2,⟨tt,q3⟩,q4,q5⟩:=yc h hn hb;refine ⟨q1,q2,⟨tt,q3⟩,fun u hu=>?_,fun x hx=>?_⟩
   ·rcases q4 u hu with q | ⟨g,q⟩
    ·exact .inl q
    ·exact .inr ⟨g,List.mem_cons_of_mem _ q⟩
   ·rcases List.mem_cons.1 hx with rfl | hx
    ·rw [q3];unfold Zb at hv ⊢;rw [List.map_append];exact List.mem_append_left _ hv
    ·exact q5 x hx
  ·rename_i hv
   split at h
   ·cases h
   ·rename_i hbl
    have hn2:(Zb (r++[(v,((i:Int),s))])).Nodup:=by
     rw [xR,List.nodup_append];refine ⟨hn,by simp,fun a ha c hc e=>?_⟩;rw [List.mem_singleton] at hc;subst hc;subst e;exact hv ha
    obtain ⟨q1,q2,⟨tt,q3⟩,q4,q5⟩:=yc h hn2 (by rw [List.length_append,List.length_singleton];omega);refine ⟨q1,q2,⟨(v,((i:Int),s)) :: tt,by rw [q3];simp⟩,fun u hu=>?_,fun x hx=>?_⟩
    ·rcases q4 u hu with q | ⟨g,q⟩
     ·rw [xR,List.mem_append,List.mem_singleton] at q
      rcases q with q | q
      ·exact .inl q
      ·exact .inr ⟨s,by rw [q];exact List.mem_cons_self⟩
     ·exact .inr ⟨g,List.mem_cons_of_mem _ q⟩
    ·rcases List.mem_cons.1 hx with rfl | hx
     ·rw [q3];unfold Zb;simp
     ·exact q5 x hx
structure zfO (R:List Rul) (w:Wd) (b i:Nat) (r:List Ent):Prop where
 nodup:(Zb r).Nodup
 len:r.length<=b
 start:w∈Zb r
 reach:∀ v∈Zb r,Reach R w v
 closed:∀ j,j < i->j < r.length->∀ v,zbE R (Zt r j) v->v∈Zb r
theorem zfO.inner {R:List Rul} {w:Wd} {b i:Nat} {r r':List Ent} (h:zfO R w b i r) (hi:i < r.length) (hr:ZS b i (ZZ R (Zt r i)) r=some r'):zfO R w b (i+1) r':=by
 obtain ⟨q1,q2,⟨t,rfl⟩,q4,q5⟩:=yc hr h.nodup h.len;refine ⟨q1,q2,by unfold Zb;rw [List.map_append];exact List.mem_append_left _ h.start,fun v hv=>?_,fun j hj hjl v hs=>?_⟩
 ·rcases q4 v hv with q | q
  ·exact h.reach v q
  ·exact (h.reach _ (XC hi)).tail q
 ·by_cases e:j=i
  ·subst e
   rw [zY t hi] at hs;obtain ⟨g,hg⟩:=hs;exact q5 _ hg
  ·have hji:j < i:=by omega
   rw [zY t (by omega)] at hs;have:=h.closed j hji (by omega) v hs;unfold Zb at this ⊢;rw [List.map_append];exact List.mem_append_left _ this
theorem zcv {α:Type} [DecidableEq α]:∀ {l m:List α},l.Nodup->(∀ x∈l,x∈m)->l.length<=m.length
 | [],m,_,_=>by simp
 | a :: l,m,hn,h=>by
  rw [List.nodup_cons] at hn;have ha:a∈m:=h a List.mem_cons_self;have:=zcv (l:=l) (m:=m.erase a) hn.2 (fun x hx=>(List.mem_erase_of_ne (fun e=>hn.1 (by rw [<- e];exact hx))).2 (h x (List.mem_cons_of_mem _ hx)));rw [List.length_erase_of_mem ha] at this;have:=List.length_pos_of_mem ha;simp only [List.length_cons];omega
theorem YV {R:List Rul} {u v:Wd}:zbE R u v↔∃ r∈R,Ys r=true∧∃ a,a < zG u∧yI r.1 u a=true∧v=xk u a (zG r.1) r.2:=by
 unfold zbE ZZ;constructor
 ·rintro ⟨h,hh⟩
  rw [List.mem_map] at hh;obtain ⟨⟨a,k⟩,h1,h2⟩:=hh;cases h2;obtain ⟨g1,g2,g3⟩:=xd.1 h1;rw [yQ] at g2;rw [zbm] at g3;cases hc:Ys (yi R k) with
  | false=>
   rw [hc] at g3;have:=(zb4 ((XD _ _ _).1 g3).1).1;simp at this
  | true=>
   rw [hc,if_pos rfl] at g3;refine ⟨yi R k,?_,hc,a,g1,g3,rfl⟩;unfold yi;rw [List.getD_eq_getElem?_getD,List.getElem?_eq_getElem g2];exact List.getElem_mem g2
 ·rintro ⟨r,hr,hc,a,ha,hs,rfl⟩
  obtain ⟨k,hk,rfl⟩:=List.getElem_of_mem hr;have hru:yi R k=R[k]:=by unfold yi;rw [List.getD_eq_getElem?_getD,List.getElem?_eq_getElem hk];rfl
  refine ⟨(a,k),List.mem_map.2 ⟨(a,k),xd.2 ⟨ha,by rw [yQ];exact hk,?_⟩,?_⟩⟩
  ·rw [zbm,hru,hc,if_pos rfl];exact hs
  ·unfold zfv;rw [hru]
theorem Reach.mono {R R':List Rul} (h:∀ r∈R,r∈R') {u v:Wd} (hr:Reach R u v):Reach R' u v:=by
 induction hr with
 | refl=>exact .refl
 | tail _ s ih=>
  obtain ⟨r,q1,q2⟩:=YV.1 s;exact ih.tail (YV.2 ⟨r,h r q1,q2⟩)
theorem zex {R:List Rul} {u v:Wd} (hu:ZO u=true) (h:zbE R u v):ZO v=true∧v.length<=u.length:=by
 obtain ⟨r,_,h2,a,_,h4,rfl⟩:=YV.1 h;obtain ⟨g1,g2,g3⟩:=(XD _ _ _).1 h4;obtain ⟨k1,k2,k3⟩:=(zde _).1 h2;have g4:=zb4 g1;have g5:=zb4 k2;have hle:a+zG r.1<=zG u:=by unfold zG at g2 ⊢;omega
 obtain ⟨q1,q2⟩:=zew hu k2 hle k3;refine ⟨q1,?_⟩;rw [q2];unfold zG at k3 hle ⊢;omega
def zar (r:List Ent) (i:Nat):Ent:=r.getD i ([],(0,(0,0)))
theorem yS {r:List Ent} (t:List Ent) {i:Nat} (h:i < r.length):zar (r++t) i=zar r i:=by
 unfold zar;rw [List.getD_eq_getElem?_getD,List.getElem?_append_left h,<- List.getD_eq_getElem?_getD]
theorem zcJ (r:List Ent) (i:Nat):Zt r i=(zar r i).1:=rfl
structure zge (R:List Rul) (w:Wd) (r:List Ent):Prop where
 first:zar r 0=(w,(-1,(0,0)))
 pos:0 < r.length
 back:∀ j,0 < j->j < r.length->∃ i:Nat,i < j∧(zar r j).2.1=(i:Int)∧((zar r j).2.2,Zt r j)∈ZZ R (Zt r i)
theorem zge.inner {R:List Rul} {w:Wd} {b i:Nat} {u:Wd}:∀ {l:List ((Nat × Nat) × Wd)} {r r':List Ent},(∀ x∈l,x∈ZZ R u)->zge R w r->i < r.length->Zt r i=u->ZS b i l r=some r'->zge R w r'
 | [],r,r',_,h,_,_,he=>by cases he;exact h
 | (s,v) :: t,r,r',hl,h,hi,hu,he=>by
  unfold ZS at he;split at he
  ·exact zge.inner (fun x hx=>hl x (List.mem_cons_of_mem _ hx)) h hi hu he
  ·split at he
   ·cases he
   ·refine zge.inner (fun x hx=>hl x (List.mem_cons_of_mem _ hx)) ?_ (by rw [List.length_append];omega) (by rw [zY _ hi];exact hu) he
    have hlen:(r++[(v,((i:Int),s))]).length=r.length+1:=by simp
    refine ⟨by rw [yS _ h.pos];exact h.first,by omega,fun j hj hjl=>?_⟩;rw [hlen] at hjl;by_cases e:j=r.length
    ·subst e
     have ee:zar (r++[(v,((i:Int),s))]) r.length=(v,((i:Int),s)):=by
      unfold zar;rw [List.getD_eq_getElem?_getD,List.getElem?_append_right (Nat.le_refl _),Nat.sub_self];rfl
     refine ⟨i,hi,by rw [ee],?_⟩;rw [zY _ hi,hu,zcJ,ee];exact hl _ List.mem_cons_self
    ·obtain ⟨k,q1,q2,q3⟩:=h.back j hj (by omega)
     refine ⟨k,q1,?_,?_⟩
     ·rw [yS _ (by omega)];exact q2
     ·rw [yS _ (by omega),zY _ (by omega),zY _ (by omega)];exact q3
end Go.Proofs.YtcilaocknhphnaaGreat
