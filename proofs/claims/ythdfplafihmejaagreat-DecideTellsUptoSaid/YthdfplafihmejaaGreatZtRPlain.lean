/-
  Words in plain Lean: the atoms of a word, which words may be, where words stand in a word. No program in sight. Words, by atoms and by bytes. Layer 10: a word that is in the list twice (plain). Layer 10: hits stand where they say, and rise (plain). Layer 10: what stands in a word stands in it with more ahead and behind (plain). Layer 11: what words lead to by rules (plain). Layer 11: what the row of a word is (plain): just what is reached, each once; or more than the bound is reached. Layer 11: what follows for rows (plain): on, more rules, what stands around. Layer 11: the steps from a word to another one (plain).
-/
namespace Go.Proofs.YthdfplafihmejaaGreat

def zO (l:List UInt8) (i:Nat):Nat:=(l.getD (2*i) 0).toNat*256+(l.getD (2*i+1) 0).toNat
def zz (l:List UInt8):Nat:=l.length / 2
def zT (l:List UInt8):List Nat:=(List.range (zz l)).map (zO l)
def Zp (l:List UInt8):Bool:=decide (l.length % 2=0) && decide (1<=zz l) && decide (zz l<=8) && (zT l).all (fun a=>a != 0)
theorem yT (l:List UInt8) (i:Nat):zO l i < 65536:=by
 unfold zO;have:=(l.getD (2*i) 0).toNat_lt;have:=(l.getD (2*i+1) 0).toNat_lt;omega
theorem zU (l:List UInt8):(zT l).length=zz l:=by simp [zT]
theorem yC (l:List UInt8) {i:Nat} (h:i < zz l):(zT l)[i]? = some (zO l i):=by
 unfold zT;rw [List.getElem?_map,List.getElem?_range h];rfl
theorem zbc (l:List UInt8) {i:Nat} (h:i < zz l):(zT l).take (i+1)=(zT l).take i++[zO l i]:=by
 have hl:i < (zT l).length:=by rw [zU];exact h
 rw [List.take_succ_eq_append_getElem hl];have:=yC l h;rw [List.getElem?_eq_getElem hl] at this;rw [Option.some.inj this]
theorem Zh (l:List UInt8):Zp l=true↔l.length % 2=0∧1<=zz l∧zz l<=8∧∀ i,i < zz l->zO l i≠0:=by
 unfold Zp;simp only [Bool.and_eq_true,decide_eq_true_eq,List.all_eq_true,bne_iff_ne];constructor
 ·rintro ⟨⟨⟨h1,h2⟩,h3⟩,h4⟩
  exact ⟨h1,h2,h3,fun i hi=>h4 _ (List.mem_of_getElem? (yC l hi))⟩
 ·rintro ⟨h1,h2,h3,h4⟩
  refine ⟨⟨⟨h1,h2⟩,h3⟩,fun a ha=>?_⟩;obtain ⟨i,hi,rfl⟩:=List.mem_map.1 ha;exact h4 i (List.mem_range.1 hi)
def YN (v w:List UInt8) (at_:Nat):Bool:=Zp v && (zT v).isPrefixOf ((zT w).drop at_)
def zbU (l:List (List UInt8)) (w:List UInt8) (at_:Nat):List Nat:=(List.range l.length).filter fun i=>YN (l.getD i []) w at_
def xG (l:List (List UInt8)) (w:List UInt8) (n:Nat):List (Nat × Nat):=(List.range n).flatMap fun a=>(zbU l w a).map fun i=>(a,i)
def zhl (l:List (List UInt8)) (w:List UInt8):List (Nat × Nat):=xG l w (zz w)
theorem zbT (l:List (List UInt8)) (w:List UInt8) (n:Nat):xG l w (n+1)=xG l w n++(zbU l w n).map fun i=>(n,i):=by
 unfold xG;rw [List.range_succ,List.flatMap_append];simp
theorem zdj (l:List (List UInt8)) (w:List UInt8) (a:Nat):(zbU l w a).length<=l.length:=by
 have:=List.length_filter_le (fun i=>YN (l.getD i []) w a) (List.range l.length)
 simpa [zbU] using this
def putTo (ps:List (List Nat)) (p:List Nat):Nat->List (List Nat)
 | 0=>ps
 | i+1=>if p.take (i+1)∈putTo ps p i then putTo ps p i else putTo ps p i++[p.take (i+1)]
def zp8 (ps:List (List Nat)) (p:List Nat):List (List Nat):=putTo ps p p.length
def Zl (l:List (List UInt8)):Nat->List (List Nat)
 | 0=>[[]]
 | n+1=>if Zp (l.getD n []) then zp8 (Zl l n) (zT (l.getD n [])) else Zl l n
def Zi (l:List (List UInt8)) (n:Nat) (p:List Nat):List Nat:=(List.range n).filter fun i=>Zp (l.getD i []) && (zT (l.getD i []) == p)
structure zhR (ps:List (List Nat)):Prop where
 root:ps[0]? = some []
 nodup:ps.Nodup
 down:∀ p a,p++[a]∈ps->p∈ps
theorem zlo:zhR [[]]:=⟨rfl,by simp,fun p a h=>by simp at h⟩
theorem zhR.mem_nil {ps:List (List Nat)} (h:zhR ps):[]∈ps:=List.mem_of_getElem? h.root
theorem zaW (ps:List (List Nat)) (p:List Nat):∀ i,∀ q,q∈putTo ps p i↔q∈ps∨∃ j,1<=j∧j<=i∧q=p.take j
 | 0,q=>by simp [putTo];omega
 | i+1,q=>by
  have ih:=zaW ps p i;rw [putTo];split
  ·rename_i hm
   rw [ih];constructor
   ·rintro (h | ⟨j,h1,h2,h3⟩)
    ·exact .inl h
    ·exact .inr ⟨j,h1,by omega,h3⟩
   ·rintro (h | ⟨j,h1,h2,h3⟩)
    ·exact .inl h
    ·rcases Nat.lt_or_ge i j with q' | q'
     ·obtain rfl:j=i+1:=by omega
      rw [ih] at hm;rw [h3];exact hm
     ·exact .inr ⟨j,h1,q',h3⟩
  ·rw [List.mem_append,ih,List.mem_singleton]
   constructor
   ·rintro ((h | ⟨j,h1,h2,h3⟩) | h)
    ·exact .inl h
    ·exact .inr ⟨j,h1,by omega,h3⟩
    ·exact .inr ⟨i+1,by omega,by omega,h⟩
   ·rintro (h | ⟨j,h1,h2,h3⟩)
    ·exact .inl (.inl h)
    ·rcases Nat.lt_or_ge i j with q' | q'
     ·obtain rfl:j=i+1:=by omega
      exact .inr h3
     ·exact .inl (.inr ⟨j,h1,q',h3⟩)
theorem zhR.putTo {ps:List (List Nat)} (h:zhR ps) (p:List Nat):∀ i,i<=p.length->zhR (putTo ps p i)
 | 0,_=>h
 | i+1,hi=>by
  have ih:=zhR.putTo h p i (by omega);rw [Go.Proofs.YthdfplafihmejaaGreat.putTo];split
  ·exact ih
  ·rename_i hm
   refine ⟨?_,?_,?_⟩
   ·rw [List.getElem?_append_left]
    ·exact ih.root
    ·exact (List.getElem?_eq_some_iff.1 ih.root).1
   ·rw [List.nodup_append]
    refine ⟨ih.nodup,by simp,fun a ha b hb=>?_⟩;rw [List.mem_singleton] at hb;subst hb;rintro rfl;exact hm ha
   ·intro q a hq
    rw [List.mem_append,List.mem_singleton] at hq;rcases hq with hq | hq
    ·exact List.mem_append_left _ (ih.down q a hq)
    ·have hl:q=p.take i:=by
      have e:=congrArg List.dropLast hq;rw [List.dropLast_concat] at e;rw [e,List.dropLast_eq_take,List.length_take,List.take_take]
      congr 1;omega
     rw [hl];refine List.mem_append_left _ ?_;rcases Nat.eq_zero_or_pos i with rfl | hpos
     ·simpa [Go.Proofs.YthdfplafihmejaaGreat.putTo] using h.mem_nil
     ·exact (zaW ps p i _).2 (.inr ⟨i,hpos,Nat.le_refl _,rfl⟩)
theorem ze2 {l m:List Nat}:l <+: m↔l.length<=m.length∧∀ i,i < l.length->l[i]? = m[i]?:=by
 constructor
 ·intro h
  refine ⟨h.length_le,fun i hi=>?_⟩;obtain ⟨t,rfl⟩:=h;rw [List.getElem?_append_left hi]
 ·rintro ⟨h1,h2⟩
  rw [List.prefix_iff_eq_take];apply List.ext_getElem?;intro i;rw [List.getElem?_take];split
  ·rename_i hi;exact h2 i hi
  ·rename_i hi;rw [List.getElem?_eq_none (by omega)]
def zlH (v w:List UInt8) (a:Nat):Bool:=decide (2*a+v.length<=2*zz w) && ((w.drop (2*a)).take v.length == v)
theorem zdZ {v w:List UInt8} {a:Nat} (h:2*a+v.length<=w.length):(w.drop (2*a)).take v.length=v↔∀ i,i < v.length->v.getD i 0=w.getD (2*a+i) 0:=by
 constructor
 ·intro e i hi
  rw [<- e,List.getD_eq_getElem?_getD,List.getElem?_take,if_pos hi,List.getElem?_drop,<- List.getD_eq_getElem?_getD]
 ·intro h2
  apply List.ext_getElem?;intro i;rw [List.getElem?_take];split
  ·rename_i hi
   have:=h2 i hi;rw [List.getD_eq_getElem?_getD,List.getD_eq_getElem?_getD,List.getElem?_eq_getElem hi,List.getElem?_eq_getElem (by omega)] at this;rw [List.getElem?_drop,List.getElem?_eq_getElem hi,List.getElem?_eq_getElem (by omega)];simp at this;rw [this]
  ·rename_i hi;rw [List.getElem?_eq_none (by omega)]
theorem zfX (v w:List UInt8) (a:Nat):YN v w a=(Zp v && zlH v w a):=by
 unfold YN;cases hm:Zp v with
 | false=>rfl
 | true=>
  rw [Bool.true_and,Bool.true_and];have hv:=(Zh v).1 hm;have he:v.length=2*zz v:=by unfold zz;omega
  have hw:2*zz w<=w.length:=by unfold zz;omega
  rw [Bool.eq_iff_iff,List.isPrefixOf_iff_prefix,ze2];unfold zlH;rw [Bool.and_eq_true,decide_eq_true_eq,beq_iff_eq,List.length_drop,zU,zU];constructor
  ·rintro ⟨h1,h2⟩
   have hlen:2*a+v.length<=2*zz w:=by have:=hv.2.1;omega
   refine ⟨hlen,(zdZ (by omega)).2 fun i hi=>?_⟩;have hk:i / 2 < zz v:=by omega
   have h3:=h2 (i / 2) hk;rw [yC v hk,List.getElem?_drop,yC w (by omega)] at h3;have h4:=Option.some.inj h3;unfold zO at h4;rw [show 2*(a+i / 2)=2*a+2*(i / 2) from by omega] at h4;have b1:=(v.getD (2*(i / 2)) 0).toNat_lt;have b2:=(v.getD (2*(i / 2)+1) 0).toNat_lt;have b3:=(w.getD (2*a+2*(i / 2)) 0).toNat_lt;have b4:=(w.getD (2*a+2*(i / 2)+1) 0).toNat_lt;rcases (by omega:i=2*(i / 2)∨i=2*(i / 2)+1) with e | e
   ·rw [e];exact UInt8.toNat_inj.1 (by omega)
   ·rw [e];exact UInt8.toNat_inj.1 (by rw [<- Nat.add_assoc];omega)
  ·rintro ⟨h1,h2⟩
   have h3:=(zdZ (by omega)).1 h2;refine ⟨by omega,fun k hk=>?_⟩;rw [yC v hk,List.getElem?_drop,yC w (by omega)];unfold zO;rw [h3 (2*k) (by omega),h3 (2*k+1) (by omega),show 2*(a+k)=2*a+2*k from by omega];rfl
def cnt (N:Nat) (l:List (Nat × Nat)):Nat:=l.countP fun h=>h.2 == N
theorem zhm {L:List (List UInt8)} {w:List UInt8} {a i:Nat}:i∈zbU L w a↔i < L.length∧YN (L.getD i []) w a=true:=by
 unfold zbU;rw [List.mem_filter,List.mem_range]
theorem Xd {L:List (List UInt8)} {w:List UInt8} {a i:Nat}:∀ {n:Nat},(a,i)∈xG L w n↔a < n∧i < L.length∧YN (L.getD i []) w a=true
 | 0=>by simp [xG]
 | n+1=>by
  rw [zbT,List.mem_append,Xd,List.mem_map];constructor
  ·rintro (h | ⟨j,hj,e⟩)
   ·exact ⟨by omega,h.2⟩
   ·cases e
    exact ⟨by omega,zhm.1 hj⟩
  ·rintro ⟨h1,h2⟩
   by_cases e:a < n
   ·exact .inl ⟨e,h2⟩
   ·obtain rfl:n=a:=by omega
    exact .inr ⟨i,zhm.2 h2,rfl⟩
theorem YB (v w:List UInt8) (a:Nat):YN v w a=true↔Zp v=true∧2*a+v.length<=2*zz w∧(w.drop (2*a)).take v.length=v:=by
 rw [zfX,Bool.and_eq_true];unfold zlH;rw [Bool.and_eq_true,decide_eq_true_eq,beq_iff_eq]
theorem xj {v:List UInt8} (h:Zp v=true):2<=v.length∧v.length % 2=0:=by
 obtain ⟨h1,h2,_⟩:=(Zh v).1 h;unfold zz at h2;exact ⟨by omega,h1⟩
abbrev Wd:=List UInt8
abbrev Rul:=Wd × Wd
def Zx (r:Rul):Bool:=Zp r.1 && Zp r.2 && decide (zz r.2<=zz r.1)
def yW (R:List Rul):List Wd:=R.map fun r=>if Zx r then r.1 else []
def yi (w:Wd) (a n:Nat) (v:Wd):Wd:=w.take (2*a)++v++w.drop (2*(a+n))
def yp (R:List Rul) (k:Nat):Rul:=R.getD k ([],[])
def zeY (R:List Rul) (w:Wd) (h:Nat × Nat):Wd:=yi w h.1 (zz (yp R h.2).1) (yp R h.2).2
def ZV (R:List Rul) (w:Wd):List ((Nat × Nat) × Wd):=(zhl (yW R) w).map fun h=>(h,zeY R w h)
abbrev Ent:=Wd × (Int × (Nat × Nat))
def zv (r:List Ent):List Wd:=r.map (·.1)
def ZQ (bound i:Nat):List ((Nat × Nat) × Wd)->List Ent->Option (List Ent)
 | [],r=>some r
 | (s,v) :: t,r=>if v∈zv r then ZQ bound i t r else if r.length=bound then none else ZQ bound i t (r++[(v,((i:Int),s))])
def zS (r:List Ent) (i:Nat):Wd:=(r.getD i ([],(0,(0,0)))).1
def xP (R:List Rul) (bound:Nat):Nat->Nat->List Ent->Option (List Ent)
 | 0,_,r=>some r
 | f+1,i,r=>if i < r.length then (ZQ bound i (ZV R (zS r i)) r).bind (xP R bound f (i+1)) else some r
def Yn (w:Wd):List Ent:=[(w,(-1,(0,0)))]
def zbN (R:List Rul) (w:Wd) (bound:Nat):Option (List Ent):=xP R bound bound 0 (Yn w)
def zoU (l:Wd):Prop:=l.length % 2=0∧∀ i,i < zz l->zO l i≠0
theorem zdE {l:Wd}:Zp l=true↔zoU l∧1<=zz l∧zz l<=8:=by
 rw [Zh];exact ⟨fun h=>⟨⟨h.1,h.2.2.2⟩,h.2.1,h.2.2.1⟩,fun h=>⟨h.1.1,h.2.1,h.2.2,h.1.2⟩⟩
theorem XO (a b:Wd) {i:Nat} (h:2*i+1 < a.length):zO (a++b) i=zO a i:=by
 unfold zO;simp only [List.getD_eq_getElem?_getD];rw [List.getElem?_append_left (by omega),List.getElem?_append_left h]
theorem zbY (a b:Wd) {i:Nat} (he:a.length % 2=0) (h:zz a<=i):zO (a++b) i=zO b (i - zz a):=by
 unfold zz at h ⊢;unfold zO;simp only [List.getD_eq_getElem?_getD];rw [List.getElem?_append_right (by omega),List.getElem?_append_right (by omega),show 2*i - a.length=2*(i - a.length / 2) by omega,show 2*i+1 - a.length=2*(i - a.length / 2)+1 by omega]
theorem zex {a b:Wd} (ha:zoU a) (hb:zoU b):zoU (a++b):=by
 refine ⟨by rw [List.length_append];have:=ha.1;have:=hb.1;omega,fun i hi=>?_⟩;have h1:=ha.1;unfold zz at hi;rw [List.length_append] at hi;by_cases h:i < zz a
 ·rw [XO a b (by unfold zz at h;omega)];exact ha.2 i h
 ·rw [zbY a b h1 (by omega)]
  exact hb.2 _ (by unfold zz at h ⊢;omega)
theorem zmp {a:Wd} (ha:zoU a) (k:Nat):zoU (a.take (2*k)):=by
 have h1:=ha.1;refine ⟨by rw [List.length_take];omega,fun i hi=>?_⟩;unfold zz at hi;rw [List.length_take] at hi
 have e:zO (a.take (2*k)) i=zO a i:=by
  have:=XO (a.take (2*k)) (a.drop (2*k)) (i:=i) (by rw [List.length_take];omega);rw [List.take_append_drop] at this;exact this.symm
 rw [e];exact ha.2 i (by unfold zz;omega)
theorem zmq {a:Wd} (ha:zoU a) (k:Nat):zoU (a.drop (2*k)):=by
 have h1:=ha.1;refine ⟨by rw [List.length_drop];omega,fun i hi=>?_⟩;unfold zz at hi;rw [List.length_drop] at hi
 have e:zO (a.drop (2*k)) i=zO a (i+k):=by
  unfold zO;simp only [List.getD_eq_getElem?_getD,List.getElem?_drop];rw [show 2*k+2*i=2*(i+k) by omega,show 2*k+(2*i+1)=2*(i+k)+1 by omega]
 rw [e];exact ha.2 _ (by unfold zz;omega)
theorem zcn (R:List Rul) (k:Nat):(yW R).getD k []=if Zx (yp R k) then (yp R k).1 else []:=by
 unfold yW yp;rw [List.getD_eq_getElem?_getD,List.getElem?_map,List.getD_eq_getElem?_getD];cases R[k]? with
 | none=>simp
 | some r=>rfl
theorem yd (R:List Rul):(yW R).length=R.length:=by simp [yW]
theorem Xf (r:Rul):Zx r=true↔Zp r.1=true∧Zp r.2=true∧zz r.2<=zz r.1:=by
 unfold Zx;rw [Bool.and_eq_true,Bool.and_eq_true,decide_eq_true_eq,and_assoc]
theorem zi7 {w:Wd} {a n:Nat} {v:Wd} (hw:Zp w=true) (hv:Zp v=true) (h:a+n<=zz w) (hn:zz v<=n):Zp (yi w a n v)=true∧(yi w a n v).length=w.length - 2*n+v.length:=by
 obtain ⟨g1,g2,g3⟩:=zdE.1 hw;obtain ⟨f1,f2,f3⟩:=zdE.1 hv;have e1:=g1.1;have e2:=f1.1
 have el:(yi w a n v).length=w.length - 2*n+v.length:=by
  unfold yi;unfold zz at h;simp only [List.length_append,List.length_take,List.length_drop];omega
 refine ⟨zdE.2 ⟨zex (zex (zmp g1 _) f1) (zmq g1 _),?_,?_⟩,el⟩
 ·show 1<=zz (yi w a n v)
  unfold zz at *;rw [el];omega
 ·show zz (yi w a n v)<=8
  unfold zz at *;rw [el];omega
def zhK (R:List Rul) (u v:Wd):Prop:=∃ h,(h,v)∈ZV R u
inductive Reach (R:List Rul) (w:Wd):Wd->Prop
 | refl:Reach R w w
 | tail {u v:Wd}:Reach R w u->zhK R u v->Reach R w v
theorem Reach.trans {R:List Rul} {u v w:Wd} (h:Reach R u v) (k:Reach R v w):Reach R u w:=by
 induction k with
 | refl=>exact h
 | tail _ s ih=>exact ih.tail s
theorem Zm (r:List Ent):(zv r).length=r.length:=by simp [zv]
theorem Xh (r:List Ent) (e:Ent):zv (r++[e])=zv r++[e.1]:=by simp [zv]
theorem Xa {r:List Ent} {i:Nat} (h:i < r.length):zS r i∈zv r:=by
 unfold zS zv;rw [List.getD_eq_getElem?_getD,List.getElem?_eq_getElem h,List.mem_map];exact ⟨_,List.getElem_mem h,rfl⟩
theorem yJ {r:List Ent} (t:List Ent) {i:Nat} (h:i < r.length):zS (r++t) i=zS r i:=by
 unfold zS;rw [List.getD_eq_getElem?_getD,List.getElem?_append_left h,<- List.getD_eq_getElem?_getD]
theorem zcW {r:List Ent} {v:Wd} (h:v∈zv r):∃ i,i < r.length∧zS r i=v:=by
 unfold zv at h;rw [List.mem_map] at h;obtain ⟨e,he,rfl⟩:=h;obtain ⟨i,hi,rfl⟩:=List.getElem_of_mem he;refine ⟨i,hi,?_⟩;unfold zS;rw [List.getD_eq_getElem?_getD,List.getElem?_eq_getElem hi];rfl
theorem Yg (b i:Nat):∀ (l m:List ((Nat × Nat) × Wd)) (r:List Ent),ZQ b i (l++m) r=(ZQ b i l r).bind (ZQ b i m)
 | [],_,_=>rfl
 | (s,v) :: t,m,r=>by
  simp only [List.cons_append,ZQ];split
  ·exact Yg b i t m r
  ·split
   ·rfl
   ·exact Yg b i t m _
theorem Xt {b i:Nat}:∀ {l:List ((Nat × Nat) × Wd)} {r r':List Ent},ZQ b i l r=some r'->(zv r).Nodup->r.length<=b->(zv r').Nodup∧r'.length<=b∧(∃ t,r'=r++t)∧(∀ v∈zv r',v∈zv r∨∃ h,(h,v)∈l)∧∀ x∈l,x.2∈zv r'
 | [],r,r',h,hn,hb=>by
  cases h;exact ⟨hn,hb,⟨[],by simp⟩,fun v hv=>.inl hv,by simp⟩
 | (s,v) :: t,r,r',h,hn,hb=>by
  unfold ZQ at h;split at h
  ·rename_i hv
   obtain ⟨q1,q2,⟨tt,q3⟩,q4,q5⟩:=Xt h hn hb;refine ⟨q1,q2,⟨tt,q3⟩,fun u hu=>?_,fun x hx=>?_⟩
   ·rcases q4 u hu with q | ⟨g,q⟩
    ·exact .inl q
    ·exact .inr ⟨g,List.mem_cons_of_mem _ q⟩
   ·rcases List.mem_cons.1 hx with rfl | hx
    ·rw [q3];unfold zv at hv ⊢;rw [List.map_append];exact List.mem_append_left _ hv
    ·exact q5 x hx
  ·rename_i hv
   split at h
   ·cases h
   ·rename_i hbl
    have hn2:(zv (r++[(v,((i:Int),s))])).Nodup:=by
     rw [Xh,List.nodup_append];refine ⟨hn,by simp,fun a ha c hc e=>?_⟩;rw [List.mem_singleton] at hc;subst hc;subst e;exact hv ha
    obtain ⟨q1,q2,⟨tt,q3⟩,q4,q5⟩:=Xt h hn2 (by rw [List.length_append,List.length_singleton];omega);refine ⟨q1,q2,⟨(v,((i:Int),s)) :: tt,by rw [q3];simp⟩,fun u hu=>?_,fun x hx=>?_⟩
    ·rcases q4 u hu with q | ⟨g,q⟩
     ·rw [Xh,List.mem_append,List.mem_singleton] at q
      rcases q with q | q
      ·exact .inl q
      ·exact .inr ⟨s,by rw [q];exact List.mem_cons_self⟩
     ·exact .inr ⟨g,List.mem_cons_of_mem _ q⟩
    ·rcases List.mem_cons.1 hx with rfl | hx
     ·rw [q3];unfold zv;simp
     ·exact q5 x hx
theorem zbS {b i:Nat}:∀ {l:List ((Nat × Nat) × Wd)} {r:List Ent},ZQ b i l r=none->(zv r).Nodup->∃ L:List Wd,L.Nodup∧L.length=b+1∧∀ v∈L,v∈zv r∨∃ h,(h,v)∈l
 | [],r,h,hn=>by cases h
 | (s,v) :: t,r,h,hn=>by
  unfold ZQ at h;split at h
  ·obtain ⟨L,q1,q2,q3⟩:=zbS h hn
   refine ⟨L,q1,q2,fun u hu=>?_⟩;rcases q3 u hu with q | ⟨g,q⟩
   ·exact .inl q
   ·exact .inr ⟨g,List.mem_cons_of_mem _ q⟩
  ·rename_i hv
   have hn2:(zv (r++[(v,((i:Int),s))])).Nodup:=by
    rw [Xh,List.nodup_append];refine ⟨hn,by simp,fun a ha c hc e=>?_⟩;rw [List.mem_singleton] at hc;subst hc;subst e;exact hv ha
   split at h
   ·rename_i hb
    refine ⟨zv r++[v],by rw [Xh] at hn2;exact hn2,by rw [List.length_append,Zm,hb];rfl,fun u hu=>?_⟩;rw [List.mem_append,List.mem_singleton] at hu;rcases hu with hu | rfl
    ·exact .inl hu
    ·exact .inr ⟨s,List.mem_cons_self⟩
   ·obtain ⟨L,q1,q2,q3⟩:=zbS h hn2
    refine ⟨L,q1,q2,fun u hu=>?_⟩;rcases q3 u hu with q | ⟨g,q⟩
    ·rw [Xh,List.mem_append,List.mem_singleton] at q
     rcases q with q | q
     ·exact .inl q
     ·exact .inr ⟨s,by rw [q];exact List.mem_cons_self⟩
    ·exact .inr ⟨g,List.mem_cons_of_mem _ q⟩
structure zlc (R:List Rul) (w:Wd) (b i:Nat) (r:List Ent):Prop where
 nodup:(zv r).Nodup
 len:r.length<=b
 start:w∈zv r
 reach:∀ v∈zv r,Reach R w v
 closed:∀ j,j < i->j < r.length->∀ v,zhK R (zS r j) v->v∈zv r
theorem zlc.inner {R:List Rul} {w:Wd} {b i:Nat} {r r':List Ent} (h:zlc R w b i r) (hi:i < r.length) (hr:ZQ b i (ZV R (zS r i)) r=some r'):zlc R w b (i+1) r':=by
 obtain ⟨q1,q2,⟨t,rfl⟩,q4,q5⟩:=Xt hr h.nodup h.len;refine ⟨q1,q2,by unfold zv;rw [List.map_append];exact List.mem_append_left _ h.start,fun v hv=>?_,fun j hj hjl v hs=>?_⟩
 ·rcases q4 v hv with q | q
  ·exact h.reach v q
  ·exact (h.reach _ (Xa hi)).tail q
 ·by_cases e:j=i
  ·subst e
   rw [yJ t hi] at hs;obtain ⟨g,hg⟩:=hs;exact q5 _ hg
  ·have hji:j < i:=by omega
   rw [yJ t (by omega)] at hs;have:=h.closed j hji (by omega) v hs;unfold zv at this ⊢;rw [List.map_append];exact List.mem_append_left _ this
theorem zfs {R:List Rul} {w:Wd} {b:Nat}:∀ (f i:Nat) (r r':List Ent),f+i=b->zlc R w b i r->xP R b f i r=some r'->(zv r').Nodup∧r'.length<=b∧∀ v,v∈zv r'↔Reach R w v
 | 0,i,r,r',hf,hu,h=>by
  cases h;refine ⟨hu.nodup,hu.len,fun v=>⟨hu.reach v,fun hv=>?_⟩⟩;induction hv with
  | refl=>exact hu.start
  | tail _ hs ih=>
   obtain ⟨j,hj,rfl⟩:=zcW ih;exact hu.closed j (by have:=hu.len;omega) hj _ hs
 | f+1,i,r,r',hf,hu,h=>by
  unfold xP at h;split at h
  ·rename_i hi
   rw [Option.bind_eq_some_iff] at h;obtain ⟨r1,h1,h2⟩:=h;exact zfs f (i+1) r1 r' (by omega) (hu.inner hi h1) h2
  ·rename_i hi
   cases h;refine ⟨hu.nodup,hu.len,fun v=>⟨hu.reach v,fun hv=>?_⟩⟩;induction hv with
   | refl=>exact hu.start
   | tail _ hs ih=>
    obtain ⟨j,hj,rfl⟩:=zcW ih;exact hu.closed j (by omega) hj _ hs
theorem zft {R:List Rul} {w:Wd} {b:Nat}:∀ (f i:Nat) (r:List Ent),zlc R w b i r->xP R b f i r=none->∃ L:List Wd,L.Nodup∧L.length=b+1∧∀ v∈L,Reach R w v
 | 0,i,r,hu,h=>by cases h
 | f+1,i,r,hu,h=>by
  unfold xP at h;split at h
  ·rename_i hi
   rw [Option.bind_eq_none_iff] at h;cases h1:ZQ b i (ZV R (zS r i)) r with
   | none=>
    obtain ⟨L,q1,q2,q3⟩:=zbS h1 hu.nodup;refine ⟨L,q1,q2,fun v hv=>?_⟩;rcases q3 v hv with q | q
    ·exact hu.reach v q
    ·exact (hu.reach _ (Xa hi)).tail q
   | some r1=>exact zft f (i+1) r1 (hu.inner hi h1) (h r1 h1)
  ·cases h
theorem zdX (R:List Rul) (w:Wd) (b:Nat) (hb:1<=b):zlc R w b 0 (Yn w):=
 ⟨by simp [Yn,zv],by simpa [Yn] using hb,by simp [Yn,zv],fun v hv=>by simp [Yn,zv] at hv;subst hv;exact .refl,fun j hj=>by omega⟩
theorem XG {R:List Rul} {w:Wd} {b:Nat} {r:List Ent} (hb:1<=b) (h:zbN R w b=some r):(zv r).Nodup∧r.length<=b∧∀ v,v∈zv r↔Reach R w v:=
 zfs b 0 _ r (by omega) (zdX R w b hb) h
theorem znD {R:List Rul} {w:Wd} {b:Nat} (hb:1<=b) (h:zbN R w b=none):∃ L:List Wd,L.Nodup∧L.length=b+1∧∀ v∈L,Reach R w v:=
 zft b 0 _ (zdX R w b hb) h
theorem zbn {α:Type} [DecidableEq α]:∀ {l m:List α},l.Nodup->(∀ x∈l,x∈m)->l.length<=m.length
 | [],m,_,_=>by simp
 | a :: l,m,hn,h=>by
  rw [List.nodup_cons] at hn;have ha:a∈m:=h a List.mem_cons_self;have:=zbn (l:=l) (m:=m.erase a) hn.2 (fun x hx=>(List.mem_erase_of_ne (fun e=>hn.1 (by rw [<- e];exact hx))).2 (h x (List.mem_cons_of_mem _ hx)));rw [List.length_erase_of_mem ha] at this;have:=List.length_pos_of_mem ha;simp only [List.length_cons];omega
theorem zp6 {R:List Rul} {w:Wd} {b:Nat} (hb:1<=b) (M:List Wd) (hM:M.length<=b) (h:∀ v,Reach R w v->v∈M):∃ r,zbN R w b=some r:=by
 cases hr:zbN R w b with
 | some r=>exact ⟨r,rfl⟩
 | none=>
  obtain ⟨L,q1,q2,q3⟩:=znD hb hr;have:=zbn q1 (fun x hx=>h x (q3 x hx));omega
theorem zag {R:List Rul} {u v:Wd}:zhK R u v↔∃ r∈R,Zx r=true∧∃ a,a < zz u∧YN r.1 u a=true∧v=yi u a (zz r.1) r.2:=by
 unfold zhK ZV;constructor
 ·rintro ⟨h,hh⟩
  rw [List.mem_map] at hh;obtain ⟨⟨a,k⟩,h1,h2⟩:=hh;cases h2;obtain ⟨g1,g2,g3⟩:=Xd.1 h1;rw [yd] at g2;rw [zcn] at g3;cases hc:Zx (yp R k) with
  | false=>
   rw [hc] at g3;have:=(xj ((YB _ _ _).1 g3).1).1;simp at this
  | true=>
   rw [hc,if_pos rfl] at g3;refine ⟨yp R k,?_,hc,a,g1,g3,rfl⟩;unfold yp;rw [List.getD_eq_getElem?_getD,List.getElem?_eq_getElem g2];exact List.getElem_mem g2
 ·rintro ⟨r,hr,hc,a,ha,hs,rfl⟩
  obtain ⟨k,hk,rfl⟩:=List.getElem_of_mem hr;have hru:yp R k=R[k]:=by unfold yp;rw [List.getD_eq_getElem?_getD,List.getElem?_eq_getElem hk];rfl
  refine ⟨(a,k),List.mem_map.2 ⟨(a,k),Xd.2 ⟨ha,by rw [yd];exact hk,?_⟩,?_⟩⟩
  ·rw [zcn,hru,hc,if_pos rfl];exact hs
  ·unfold zeY;rw [hru]
theorem Reach.mono {R R':List Rul} (h:∀ r∈R,r∈R') {u v:Wd} (hr:Reach R u v):Reach R' u v:=by
 induction hr with
 | refl=>exact .refl
 | tail _ s ih=>
  obtain ⟨r,q1,q2⟩:=zag.1 s;exact ih.tail (zag.2 ⟨r,h r q1,q2⟩)
theorem zfW {R:List Rul} {u v:Wd} (hu:Zp u=true) (h:zhK R u v):Zp v=true∧v.length<=u.length:=by
 obtain ⟨r,_,h2,a,_,h4,rfl⟩:=zag.1 h;obtain ⟨g1,g2,g3⟩:=(YB _ _ _).1 h4;obtain ⟨k1,k2,k3⟩:=(Xf _).1 h2;have g4:=xj g1;have g5:=xj k2;have hle:a+zz r.1<=zz u:=by unfold zz at g2 ⊢;omega
 obtain ⟨q1,q2⟩:=zi7 hu k2 hle k3;refine ⟨q1,?_⟩;rw [q2];unfold zz at k3 hle ⊢;omega
theorem zg3 {R:List Rul} {w v:Wd} (hw:Zp w=true) (h:Reach R w v):Zp v=true∧v.length<=w.length:=by
 induction h with
 | refl=>exact ⟨hw,Nat.le_refl _⟩
 | tail _ s ih=>
  obtain ⟨q1,q2⟩:=zfW ih.1 s;exact ⟨q1,Nat.le_trans q2 ih.2⟩
def YX (r:List Ent) (i:Nat):Ent:=r.getD i ([],(0,(0,0)))
theorem za9 {r:List Ent} (t:List Ent) {i:Nat} (h:i < r.length):YX (r++t) i=YX r i:=by
 unfold YX;rw [List.getD_eq_getElem?_getD,List.getElem?_append_left h,<- List.getD_eq_getElem?_getD]
theorem zfb (r:List Ent) (i:Nat):zS r i=(YX r i).1:=rfl
structure zne (R:List Rul) (w:Wd) (r:List Ent):Prop where
 first:YX r 0=(w,(-1,(0,0)))
 pos:0 < r.length
 back:∀ j,0 < j->j < r.length->∃ i:Nat,i < j∧(YX r j).2.1=(i:Int)∧((YX r j).2.2,zS r j)∈ZV R (zS r i)
theorem zne.inner {R:List Rul} {w:Wd} {b i:Nat} {u:Wd}:∀ {l:List ((Nat × Nat) × Wd)} {r r':List Ent},(∀ x∈l,x∈ZV R u)->zne R w r->i < r.length->zS r i=u->ZQ b i l r=some r'->zne R w r'
 | [],r,r',_,h,_,_,he=>by cases he;exact h
 | (s,v) :: t,r,r',hl,h,hi,hu,he=>by
  unfold ZQ at he;split at he
  ·exact zne.inner (fun x hx=>hl x (List.mem_cons_of_mem _ hx)) h hi hu he
  ·split at he
   ·cases he
   ·refine zne.inner (fun x hx=>hl x (List.mem_cons_of_mem _ hx)) ?_ (by rw [List.length_append];omega) (by rw [yJ _ hi];exact hu) he
    have hlen:(r++[(v,((i:Int),s))]).length=r.length+1:=by simp
    refine ⟨by rw [za9 _ h.pos];exact h.first,by omega,fun j hj hjl=>?_⟩;rw [hlen] at hjl;by_cases e:j=r.length
    ·subst e
     have ee:YX (r++[(v,((i:Int),s))]) r.length=(v,((i:Int),s)):=by
      unfold YX;rw [List.getD_eq_getElem?_getD,List.getElem?_append_right (Nat.le_refl _),Nat.sub_self];rfl
     refine ⟨i,hi,by rw [ee],?_⟩;rw [yJ _ hi,hu,zfb,ee];exact hl _ List.mem_cons_self
    ·obtain ⟨k,q1,q2,q3⟩:=h.back j hj (by omega)
     refine ⟨k,q1,?_,?_⟩
     ·rw [za9 _ (by omega)];exact q2
     ·rw [za9 _ (by omega),yJ _ (by omega),yJ _ (by omega)];exact q3
theorem zfB {R:List Rul} {w:Wd} {b:Nat}:∀ (f i:Nat) (r r':List Ent),zne R w r->xP R b f i r=some r'->zne R w r'
 | 0,i,r,r',h,he=>by cases he;exact h
 | f+1,i,r,r',h,he=>by
  unfold xP at he;split at he
  ·rename_i hi
   rw [Option.bind_eq_some_iff] at he;obtain ⟨r1,h1,h2⟩:=he;exact zfB f (i+1) r1 r' (h.inner (fun x hx=>hx) hi rfl h1) h2
  ·cases he;exact h
theorem zf1 {R:List Rul} {w:Wd} {b:Nat} {r:List Ent} (h:zbN R w b=some r):zne R w r:=
 zfB b 0 _ r ⟨rfl,by simp [Yn],fun j hj hjl=>by simp [Yn] at hjl;omega⟩ h
def zei (r:List Ent):Nat->Nat->List (Nat × Nat)
 | 0,_=>[]
 | f+1,i=>if i=0 then [] else zei r f (YX r i).2.1.toNat++[(YX r i).2.2]
def Yi (r:List Ent) (i:Nat):List (Nat × Nat):=zei r i i
theorem ziq {R:List Rul} {w:Wd} {r:List Ent} (h:zne R w r):∀ (f i:Nat),i < r.length->i<=f->zei r f i=Yi r i:=by
 intro f;induction f using Nat.strongRecOn with
 | _ f ih=>
  intro i hi hf;rcases Nat.eq_zero_or_pos i with rfl | hp
  ·cases f with
   | zero=>rfl
   | succ f=>simp [zei,Yi]
  ·obtain ⟨g,rfl⟩:∃ g,f=g+1:=⟨f - 1,by omega⟩
   obtain ⟨m,rfl⟩:∃ m,i=m+1:=⟨i - 1,by omega⟩;obtain ⟨k,q1,q2,_⟩:=h.back (m+1) hp hi;unfold Yi;rw [zei,zei,if_neg (by omega),if_neg (by omega),q2,Int.toNat_natCast,ih g (by omega) k (by omega) (by omega)];by_cases e:m < g
   ·rw [ih m (by omega) k (by omega) (by omega)]
   ·obtain rfl:g=m:=by omega
    rw [ih g (by omega) k (by omega) (by omega)]
theorem zeg (r:List Ent):Yi r 0=[]:=rfl
theorem zeh {R:List Rul} {w:Wd} {r:List Ent} (h:zne R w r) {i k:Nat} (hi:i < r.length) (hp:0 < i) (hk:(YX r i).2.1=(k:Int)) (hki:k < i):Yi r i=Yi r k++[(YX r i).2.2]:=by
 obtain ⟨m,rfl⟩:∃ m,i=m+1:=⟨i - 1,by omega⟩;unfold Yi;rw [zei,if_neg (by omega),hk,Int.toNat_natCast,ziq h m k (by omega) (by omega)];rfl
def zcI (R:List Rul) (w:Wd):List (Nat × Nat)->Option Wd
 | []=>some w
 | h :: t=>if h∈zhl (yW R) w then zcI R (zeY R w h) t else none
theorem zda (R:List Rul):∀ (l m:List (Nat × Nat)) (w:Wd),zcI R w (l++m)=(zcI R w l).bind (fun v=>zcI R v m)
 | [],_,_=>rfl
 | h :: t,m,w=>by
  simp only [List.cons_append,zcI];split
  ·exact zda R t m _
  ·rfl
theorem zcR {R:List Rul} {w:Wd} {r:List Ent} (h:zne R w r):∀ i,i < r.length->zcI R w (Yi r i)=some (zS r i)∧(Yi r i).length<=i:=by
 intro i;induction i using Nat.strongRecOn with
 | _ i ih=>
  intro hi;rcases Nat.eq_zero_or_pos i with rfl | hp
  ·rw [zeg]
   refine ⟨?_,Nat.le_refl _⟩;rw [zfb,h.first];rfl
  ·obtain ⟨k,q1,q2,q3⟩:=h.back i hp hi
   obtain ⟨g1,g2⟩:=ih k q1 (by omega);rw [zeh h hi hp q2 q1];refine ⟨?_,by rw [List.length_append,List.length_singleton];omega⟩;rw [zda,g1];unfold ZV at q3;rw [List.mem_map] at q3;obtain ⟨x,hx,e⟩:=q3;have e1:=congrArg Prod.fst e;have e2:=congrArg Prod.snd e;simp only at e1 e2;subst e1;show zcI R (zS r k) [_]=_;unfold zcI;rw [if_pos hx,<- e2];rfl
end Go.Proofs.YthdfplafihmejaaGreat
