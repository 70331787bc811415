/- OWN WORK, put together by tools/asm.py, seat.py, mini.py. -/
import Derived.Test.YtcpckngdfjmbgaaGreatBaseN
import Derived.Lib.Overlaps
namespace Go.Ab
def lU:ay→List Nat
 | .skip=>[]
 | .region ops _=>ops.filterMap (·.d)
 | .seq a b=>lU a++lU b
 | .cond _ a b=>lU a++lU b
 | .block _ a=>lU a
 | .loop a=>lU a
 | .exit _=>[]
 | .ret=>[]
 | .aB l=>l.filterMap (·.o.d)
def KQ (a:ay) (ws:List Nat):Bool:=(lU a).all fun i=>ws.contains i
def EC (ws:List Nat) (g e:Nat→AV):Prop:=∀ i,i∉ws→e i=g i
theorem EC.bL {ws:List Nat} {g e:Nat→AV} (h:EC ws g e) {d:Option Nat} (hd:∀ i,d=some i→i∈ws) (v:AV):EC ws g (bL e d v):=by
 intro i hi
 cases d with
 | none=>exact h i hi
 | some j=>
  simp only [Go.Ab.bL]
  rw [aa _ _ _ _ (fun e=>hi (by rw [e]; exact hd j rfl))]
  exact h i hi
section
variable {P : Program} {ws : List Nat} {g : Nat → AV}
theorem Cp {k k':(Nat→AV)→St→Prop} (hk:∀ e σ,EC ws g e→k e σ→k' e σ):∀ (ops:List aT) (e:Nat→AV) (σ:St),(∀ o∈ops,∀ i,o.d=some i→i∈ws)→EC ws g e→runs (HC P) ops k e σ→runs (HC P) ops k' e σ
 | [],e,σ,_,ha,h=>hk e σ ha h
 | o :: r,e,σ,hw,ha,h=>by
  simp only [runs] at h ⊢
  have hd:=hw o (by simp)
  have ih:=fun e σ ha h=>Cp hk r e σ (fun o ho=>hw o (by simp [ho])) ha h
  split at h
  ·exact gX (fun v τ h=>ih _ _ (ha.bL hd v) h) h
  ·exact Aw (fun h=>gX (fun v τ h=>ih _ _ (ha.bL hd v) h) h) (fun h=>ih _ _ (ha.bL hd (.tuple [])) h) h
theorem Fv {op:aO} {af:List Nat} {rs vs:List (Nat × Nat)} {p n c:Nat} {kk kk':List (Nat × Nat)→List (Nat × Nat)→AV→St→Prop} {e:Nat→AV} {ob:Nat→Option aU} (k:∀ R V v τ,kk R V v τ→kk' R V v τ) (h:tG (HC P) op af rs vs p n c kk e ob):tG (HC P) op af rs vs p n c kk' e ob:=by
 unfold tG at h ⊢
 split at h
 ·rename_i x k' v hm
  generalize x.ev e=X at h ⊢
  generalize k'.ev e=Y at h ⊢
  unfold dmap at h ⊢
  split at h
  ·obtain ⟨a1,a2,a3,o,a4,a5,a6,a7,a8,h⟩:=h
   exact ⟨a1,a2,a3,o,a4,a5,a6,a7,a8,k _ _ _ _ h⟩
  ·exact h.elim
 split at h
 ·obtain ⟨r,rd,wr,a1,a2,a3,h⟩:=h
  exact ⟨r,rd,wr,a1,a2,a3,k _ _ _ _ h⟩
 ·obtain ⟨a1,a2,a3,h⟩:=h
  exact ⟨a1,a2,a3,gX (fun v τ h=>k _ _ _ _ h) h⟩
theorem AH {n0 c0 k0:Nat} {k k':(Nat→AV)→St→Prop} (hk:∀ e σ,EC ws g e→k e σ→k' e σ):∀ (ops:List aT) (p:Nat) (R V:List (Nat × Nat)) (e:Nat→AV) (σ:St),(∀ o∈ops,∀ i,o.d=some i→i∈ws)→EC ws g e→fY (HC P) n0 c0 k0 ops p k R V e σ→fY (HC P) n0 c0 k0 ops p k' R V e σ
 | [],p,R,V,e,σ,_,ha,h=>hk e _ ha h
 | o :: r,p,R,V,e,σ,hw,ha,h=>by
  simp only [fY] at h ⊢
  have hd:=hw o (by simp)
  have ih:=fun p R V e σ ha h=>AH (n0:=n0) (c0:=c0) (k0:=k0) hk r p R V e σ (fun o ho=>hw o (by simp [ho])) ha h
  split at h
  ·exact Fv (fun R V v τ h=>ih _ _ _ _ _ (ha.bL hd v) h) h
  ·exact Aw (fun h=>Fv (fun R V v τ h=>ih _ _ _ _ _ (ha.bL hd v) h) h) (fun h=>ih _ _ _ _ _ (ha.bL hd (.tuple [])) h) h
theorem G6 {ops:List aT} (h:∀ i∈ops.filterMap (·.d),i∈ws):∀ o∈ops,∀ i,o.d=some i→i∈ws:=fun o ho i hi=>h i (List.mem_filterMap.2 ⟨o,ho,hi⟩)
theorem CK {p:Nat} {op:aO} {d:Option Nat} {af:List Nat} {k k':List (Nat × Nat)→(Nat→AV)→St→Prop} {R:List (Nat × Nat)} {e:Nat→AV} {σ:St} (hk:∀ R v τ,k R (bL e d v) τ→k' R (bL e d v) τ) (h:bm (HC P) p op d af k R e σ):bm (HC P) p op d af k' R e σ:=by
 unfold bm at h ⊢
 split at h
 ·rename_i hl; rw [if_pos hl]; exact gX (fun v τ h=>hk _ v σ h) h
 ·rename_i hl; rw [if_neg hl]; exact gX (fun v τ h=>⟨h.1,hk _ v τ h.2⟩) h
theorem Aq {k k':(Nat→AV)→St→Prop} (hk:∀ e σ,EC ws g e→k e σ→k' e σ):∀ (L:List HS) (R:List (Nat × Nat)) (e:Nat→AV) (σ:St),(∀ s∈L,∀ i,s.o.d=some i→i∈ws)→EC ws g e→dR (HC P) L k R e σ→dR (HC P) L k' R e σ
 | [],R,e,σ,_,ha,h=>hk e _ ha h
 | s :: L,R,e,σ,hw,ha,h=>by
  simp only [dR,eH] at h ⊢
  have hd:=hw s (by simp)
  have ih:=fun R e σ ha h=>Aq hk L R e σ (fun o ho=>hw o (by simp [ho])) ha h
  split at h
  ·exact CK (fun R v τ h=>ih _ _ _ (ha.bL hd v) h) h
  ·exact Aw (fun h=>CK (fun R v τ h=>ih _ _ _ (ha.bL hd v) h) h) (fun h=>ih _ _ _ (ha.bL hd (.tuple [])) h) h
theorem eY:∀ (a:ay) (Q Q':lQ) (e:Nat→AV) (σ:St),(∀ i∈lU a,i∈ws)→EC ws g e→(∀ x e σ,EC ws g e→Q x e σ→Q' x e σ)→n6 (HC P) a Q e σ→n6 (HC P) a Q' e σ
 | .skip,Q,Q',e,σ,hw,ha,hQ,h=>hQ _ _ _ ha h
 | .exit _,Q,Q',e,σ,hw,ha,hQ,h=>hQ _ _ _ ha h
 | .ret,Q,Q',e,σ,hw,ha,hQ,h=>hQ _ _ _ ha h
 | .region ops dr,Q,Q',e,σ,hw,ha,hQ,h=>
  ⟨fun hd=>Cp (hQ .lJ) ops e σ (G6 hw) ha (h.1 hd),fun k hd=>AH (hQ .lJ) ops 0 [] [] e σ (G6 hw) ha (h.2 k hd)⟩
 | .aB l,Q,Q',e,σ,hw,ha,hQ,h=>Aq (hQ .lJ) l [] e σ (fun s hs i hi=>hw i (List.mem_filterMap.2 ⟨s,hs,hi⟩)) ha h
 | .seq a b,Q,Q',e,σ,hw,ha,hQ,h=>by
  refine eY a (Ci (n6 (HC P) b Q) Q) (Ci (n6 (HC P) b Q') Q') e σ (fun i hi=>hw i (List.mem_append_left _ hi)) ha (fun x e σ ha h=>?_) h
  cases x with
  | lJ=>exact eY b Q Q' e σ (fun i hi=>hw i (List.mem_append_right _ hi)) ha hQ h
  | ret=>exact hQ _ _ _ ha h
  | exit i=>exact hQ _ _ _ ha h
 | .cond c a b,Q,Q',e,σ,hw,ha,hQ,h=>by
  simp only [n6] at h ⊢
  unfold qu at h ⊢
  split at h
  ·exact ⟨fun t=>eY a Q Q' e σ (fun i hi=>hw i (List.mem_append_left _ hi)) ha hQ (h.1 t),fun t=>eY b Q Q' e σ (fun i hi=>hw i (List.mem_append_right _ hi)) ha hQ (h.2 t)⟩
  ·exact h.elim
 | .block id a,Q,Q',e,σ,hw,ha,hQ,h=>by
  refine eY a (jx id Q) (jx id Q') e σ hw ha (fun x e σ ha h=>?_) h
  cases x with
  | lJ=>exact hQ _ _ _ ha h
  | ret=>exact hQ _ _ _ ha h
  | exit i=>
   simp only [jx] at h ⊢
   split
   ·rename_i hi; rw [if_pos hi] at h; exact hQ _ _ _ ha h
   ·rename_i hi; rw [if_neg hi] at h; exact hQ _ _ _ ha h
 | .loop a,Q,Q',e,σ,hw,ha,hQ,h=>by
  obtain ⟨I,⟨k0,h0⟩,h⟩:=h
  refine ⟨fun k e1 σ1=>EC ws g e1∧I k e1 σ1,⟨k0,ha,h0⟩,?_⟩
  rintro k e1 σ1 ⟨ha1,h1⟩
  refine eY a (sP σ.n k I Q) (sP σ.n k (fun k e1 σ1=>EC ws g e1∧I k e1 σ1) Q') e1 σ1 hw ha1 (fun x e σ ha h=>?_) (h k e1 σ1 h1)
  cases x with
  | lJ=>obtain ⟨k',hk',nt,hnt,h'⟩:=h; exact ⟨k',hk',nt,hnt,ha,h'⟩
  | ret=>exact hQ _ _ _ ha h
  | exit i=>exact hQ _ _ _ ha h
end
def hv (f:Nat→AV) (e:Nat→AV):List Nat→Nat→AV
 | []=>e
 | i :: l=>bd (hv f e l) i (f i)
theorem qY {e e1:Nat→AV}:∀ {ws:List Nat},EC ws e e1→e1=hv e1 e ws:=by
 intro ws h
 have key:∀ (l:List Nat) (i:Nat),hv e1 e l i=if i∈l then e1 i else e i:=by
  intro l
  induction l with
  | nil=>intro i; simp [hv]
  | cons j l ih=>
   intro i
   simp only [hv]
   by_cases hij:i=j
   ·subst hij; simp [az]
   ·rw [aa _ _ _ _ hij,ih]; simp [hij]
 funext i
 rw [key]
 split
 ·rfl
 ·rename_i hi; exact h i hi
@[go_sem] theorem Qx (f e:Nat→AV):hv f e []=e:=(rfl)
@[go_sem] theorem PF (f e:Nat→AV) (i:Nat) (l:List Nat):hv f e (i :: l)=bd (hv f e l) i (f i):=(rfl)
theorem HC.sub {P:Program} {σ:St} {f:Nat} {args:List AV} {R R':AV→St→Prop} (h:HC P f args σ R) (k:∀ r σ',R r σ'→∃ ob,(∀ i o,ob i=some o→σ'.ob i=some o)∧R' r ⟨ob,σ'.n,σ'.c⟩):HC P f args σ R':=
 ⟨h.1,fun m S w vs hS hv=>(h.2 m S w vs hS hv).mono fun _ _ ⟨r,σ',m',S',v,h1,h2,hI,h3⟩=>by
  obtain ⟨ob,hs,h4⟩:=k _ _ h2
  exact ⟨r,⟨ob,σ'.n,σ'.c⟩,m',S',v,h1,h4,⟨⟨hI.bu.fresh,fun k o ho=>hI.bu.obj k o (hs k o ho),fun k k' o o' v v' b ho ho'=>hI.bu.iB k k' o o' v v' b (hs k o ho) (hs k' o' ho'),hI.bu.lt⟩,
   ⟨hI.fr.os,hI.fr.tape,hI.fr.output,hI.fr.size,hI.fr.block,fun k o v b ho=>hI.fr.own k o v b (hs k o ho),hI.fr.sub⟩⟩,h3⟩⟩
theorem jw.take {w:World} {ty:TypeId} {es:Nat} {ap:Bool} {v:Value} {n:Nat} {xs:List Value} (h:jw w ty es ap v n xs) {k:Nat} (hk:k≤n):jw w ty es ap v k (xs.take (k * es)):=by
 have hle:k * es≤n * es:=Nat.mul_le_mul_right _ hk
 refine ⟨by rw [List.length_take,h.1]; omega,?_⟩
 rcases h.2 with ⟨e,hn⟩ | ⟨g,len,cap,cur,fr,e,hg,h1,h2,h3,h4,h5⟩
 ·exact .inl ⟨e,by omega⟩
 ·refine .inr ⟨g,len,cap,cur,fr,e,hg,by omega,h2,h3,?_,h5⟩
  rw [←h4,List.take_take,Nat.min_eq_left hle]
theorem qP.take {m:Mp} {S:Nat→Prop} {w:World} {o o2:aU} {v:Value} (h:qP m S w o2 v) (he:o.es=o2.es) (ht:o.ty=o2.ty) (ha:o.ap=o2.ap) {k:Nat} (hl:o.l=o2.l.take k) (hmp:o.l=o2.l∨o2.ap=true):qP m S w o v:=by
 rcases hmp with hmp | hmp
 ·obtain ⟨h1,h2,xs,h3,h4⟩:=h
  exact ⟨by rw [he,hmp]; exact h1,by rw [he]; exact h2,xs,by rw [ht,he,ha,hmp]; exact h3,by rw [hmp]; exact h4⟩
 obtain ⟨h1,h2,xs,h3,h4⟩:=h
 replace h3:jw w o2.ty o2.es o2.ap v o2.l.length xs:=by
  rcases h3 with h3 | ⟨_,_,h3,_⟩
  ·exact h3
  ·rw [hmp] at h3; cases h3
 have hlen:o.l.length=min k o2.l.length:=by rw [hl,List.length_take]
 refine ⟨fun x hx=>by rw [he]; exact h1 x (List.mem_of_mem_take (hl ▸ hx)),by rw [he]; exact h2,xs.take (o.l.length * o2.es),.inl (by rw [he,ht,ha]; exact h3.take (by omega)),?_⟩
 have:=h4.take (o.l.length * o2.es)
 rw [cR _ h1] at this
 have e0:o2.l.take o.l.length=o.l:=by
  rw [hlen,hl]
  rcases Nat.le_total k o2.l.length with h | h
  ·rw [Nat.min_eq_left h]
  ·rw [Nat.min_eq_right h,List.take_of_length_le h,List.take_of_length_le (Nat.le_refl _)]
 rw [e0] at this
 exact this
theorem HC.clip {P:Program} {σ:St} {f:Nat} {args:List AV} {R R':AV→St→Prop} (h:HC P f args σ R) (k:∀ r σ',R r σ'→∃ r' ob,(r'=r∨∃ id g es off n c,r=.fH id g es off n c∧r'=.sl id g es off n)∧
  (∀ i o,ob i=some o→∃ o2,σ'.ob i=some o2∧o.g=o2.g∧o.es=o2.es∧o.ty=o2.ty∧o.ro=o2.ro∧o.ap=o2.ap∧∃ k,o.l=o2.l.take k∧(o.l=o2.l∨o2.ap=true))∧R' r' ⟨ob,σ'.n,σ'.c⟩):HC P f args σ R':=
 ⟨h.1,fun m S w vs hS hv=>(h.2 m S w vs hS hv).mono fun _ _ ⟨r,σ',m',S',v,h1,h2,hI,hX,hV⟩=>by
  obtain ⟨r',ob,hr,hs,h4⟩:=k _ _ h2
  refine ⟨r',⟨ob,σ'.n,σ'.c⟩,m',S',v,h1,h4,⟨⟨hI.bu.fresh,fun k o ho=>?_,fun k k' o o' v v' b ho ho' hne hm hm'=>?_,hI.bu.lt⟩,
   ⟨hI.fr.os,hI.fr.tape,hI.fr.output,hI.fr.size,hI.fr.block,fun k o v b ho hro hm=>?_,hI.fr.sub⟩⟩,hX,?_⟩
  ·obtain ⟨o2,ho2,e1,e2,e3,e4,e5,kk,e6,e7⟩:=hs k o ho
   obtain ⟨v,a1,a2,a3⟩:=hI.bu.obj k o2 ho2
   exact ⟨v,by rw [e1]; exact a1,a2.take e2 e3 e5 e6 e7,by rw [e4]; exact a3⟩
  ·obtain ⟨o2,ho2,e1,_⟩:=hs k o ho
   obtain ⟨o2',ho2',e1',_⟩:=hs k' o' ho'
   exact hI.bu.iB k k' o2 o2' v v' b ho2 ho2' hne (by rw [←e1]; exact hm) (by rw [←e1']; exact hm')
  ·obtain ⟨o2,ho2,e1,_,_,e4,_⟩:=hs k o ho
   exact hI.fr.own k o2 v b ho2 (by rw [←e4]; exact hro) (by rw [←e1]; exact hm)
  ·rcases hr with rfl | ⟨id,g,es,off,n,c,rfl,rfl⟩
   ·exact hV
   ·obtain ⟨b,len,hm,rfl,hc⟩:=hV.fq
    have:=VR.sl (S:=S') (w:=by assumption) (id:=id) (es:=es) (off:=off) (n:=n) hm (by simpa [bN] using hc) rfl
    simpa [bZ] using this⟩
theorem HC.fH {P:Program} {σ:St} {f:Nat} {args:List AV} {R:AV→St→Prop} {id g es n:Nat} {o:aU} (ho:σ.ob id=some o) (hg:o.g=g) (hn:0<n) (hl:o.l.length=n)
  (h:∀ c,n≤c→c≤9223372036854775807→HC P f (.fH id g es 0 n c :: args) σ R) (hmx:n≤9223372036854775807):HC P f (.sl id g es 0 n :: args) σ R:=by
 refine ⟨(h n (Nat.le_refl _) hmx).1,fun m S w vs hS hv=>?_⟩
 obtain ⟨v,hm,⟨_,_,xs,hown,_⟩,_⟩:=hS.obj id o ho
 rw [hg] at hm
 have hsp:fI v=true:=by
  obtain ⟨u0,hu0,hr⟩:=hv.get (j:=0) rfl
  obtain ⟨u1,h1,_,_,h4⟩:=hr.Jg
  rw [hm] at h1; obtain rfl:=Option.some.inj h1; exact h4
 replace hown:=hown.own hsp
 rcases hown.2 with ⟨_,h0⟩ | ⟨b,len,cap,cur,fr,rfl,hgb,hnc,hcm,_⟩
 ·omega
 ·have hcm':cap≤9223372036854775807:=by simpa [maxLen] using hcm
  refine (h cap (by omega) hcm').2 m S w vs hS ⟨hv.1,fun j y u hy hu=>?_⟩
  cases j with
  | zero=>
   simp only [List.getElem?_cons_zero,Option.some.injEq] at hy
   subst hy
   obtain ⟨u',hm',e,hc⟩:=(hv.2 0 _ u rfl hu).dv
   rw [hm] at hm'
   obtain rfl:=Option.some.inj hm'
   rw [e]
   exact .fH hm (by omega)
  | succ j=>exact hv.2 (j+1) y u (by simpa using hy) hu
theorem qP.JA {m:Mp} {S S':Nat→Prop} {w:World} {o:aU} {v:Value} (h:qP m S w o v) (hS:∀ b,S b→S' b):qP m S' w o v:=by
 obtain ⟨h1,h2,xs,h3,h4⟩:=h
 exact ⟨h1,h2,xs,h3,h4.bG (Mp.le_refl m) hS (fun _ _=>rfl)⟩
theorem HC.Tm {P:Program} {σ:St} {f:Nat} {args:List AV} {R R':AV→St→Prop} (bG:Nat→Bool) (h:HC P f args σ R)
  (k:∀ r σ',R r σ'→∃ r2,aw ⟨fun i=>if bG i then none else σ'.ob i,σ'.n,σ'.c⟩ r r2∧R' r2 ⟨fun i=>if bG i then σ'.ob i else none,σ'.n,σ'.c⟩):HC P f args σ R':=by
 refine ⟨h.1,fun m S w vs hS hv=>(h.2 m S w vs hS hv).mono ?_⟩
 rintro x w' ⟨r,σ',m',S',v,rfl,hR,hI,hX,hV⟩
 obtain ⟨r2,hp,hR'⟩:=k r σ' hR
 have hs:∀ i o,(if bG i then none else σ'.ob i)=some o→bG i=false∧σ'.ob i=some o:=fun i o h=>by
  cases hk:bG i <;> simp [hk] at h; exact ⟨rfl,h⟩
 have hs2:∀ i o,(if bG i then σ'.ob i else none)=some o→bG i=true∧σ'.ob i=some o:=fun i o h=>by
  cases hk:bG i <;> simp [hk] at h; exact ⟨rfl,h⟩
 have hsim:Be m' S' ⟨fun i=>if bG i then none else σ'.ob i,σ'.n,σ'.c⟩ w':=
  ⟨hI.bu.fresh,fun k o ho=>hI.bu.obj k o (hs k o ho).2,fun k k' o o' v v' b ho ho'=>hI.bu.iB k k' o o' v v' b (hs k o ho).2 (hs k' o' ho').2,hI.bu.lt⟩
 refine ⟨r2,_,m',fun b=>S' b∨GZ m' ⟨fun i=>if bG i then none else σ'.ob i,σ'.n,σ'.c⟩ b,v,rfl,hR',⟨⟨hI.bu.fresh,fun k o ho=>?_,fun k k' o o' v v' b ho ho'=>hI.bu.iB k k' o o' v v' b (hs2 k o ho).2 (hs2 k' o' ho').2,fun b hb=>?_⟩,
  ⟨hI.fr.os,hI.fr.tape,hI.fr.output,hI.fr.size,hI.fr.block,fun k o v b ho=>hI.fr.own k o v b (hs2 k o ho).2,fun b hb=>?_⟩⟩,?_,.pure (hV.mU hsim (fun b h=>.inl h) (fun b h=>.inr h) hp)⟩
 ·obtain ⟨hk,ho⟩:=hs2 k o ho
  obtain ⟨v,h1,h2,h3⟩:=hI.bu.obj k o ho
  refine ⟨v,h1,h2.JA (fun b h=>.inl h),fun b hb=>⟨fun hr=>.inl ((h3 b hb).1 hr),fun hr=>?_⟩⟩
  rintro (hh | ⟨k',o',v',ho',hm',hb'⟩)
  ·exact (h3 b hb).2 hr hh
  ·obtain ⟨hk',ho'⟩:=hs k' o' ho'
   exact hI.bu.iB k k' o o' v v' b ho ho' (fun e=>by subst e; rw [hk] at hk'; cases hk') h1 hm' hb hb'
 ·rcases hb with hb | ⟨k',o',v',ho',hm',hb'⟩
  ·exact hI.bu.lt b hb
  ·obtain ⟨hk',ho'⟩:=hs k' o' ho'
   obtain ⟨v2,h1,h2,_⟩:=hI.bu.obj k' o' ho'
   rw [hm'] at h1; obtain rfl:=Option.some.inj h1
   exact bt h2 hb'
 ·rcases hb with hb | ⟨k',o',v',ho',hm',hb'⟩
  ·exact hI.fr.sub b hb
  ·obtain ⟨hk',ho'⟩:=hs k' o' ho'
   cases hro:o'.ro with
   | true=>
    obtain ⟨v2,h1,_,h3⟩:=hI.bu.obj k' o' ho'
    rw [hm'] at h1; obtain rfl:=Option.some.inj h1
    exact hI.fr.sub b ((h3 b hb').1 hro)
   | false=>exact .inr (hI.fr.own k' o' v' b ho' hro hm' hb')
 ·exact ⟨hX.le,fun b h=>.inl (hX.sub b h),hX.bG⟩
theorem HC.ro {P:Program} {σ:St} {f:Nat} {args args':List AV} {R:AV→St→Prop} (bG:Nat→Bool)
  (hp:args.length=args'.length∧∀ (i:Nat) (x y:AV),args[i]?=some x→args'[i]?=some y→aw ⟨fun i=>if bG i then none else σ.ob i,σ.n,σ.c⟩ x y)
  (h:HC P f args' ⟨fun i=>if bG i then σ.ob i else (σ.ob i).map fun o=>{ o with ro:=true },σ.n,σ.c⟩ R):HC P f args σ R:=by
 refine ⟨h.1,fun m S w vs hS hv=>?_⟩
 have hs:∀ i o,(if bG i then none else σ.ob i)=some o→bG i=false∧σ.ob i=some o:=fun i o h=>by
  cases hk:bG i <;> simp [hk] at h; exact ⟨rfl,h⟩
 have hr:∀ i o,(if bG i then σ.ob i else (σ.ob i).map fun o=>{ o with ro:=true })=some o→∃ o0,σ.ob i=some o0∧((bG i=true∧o=o0)∨(bG i=false∧o={ o0 with ro:=true })):=fun i o h=>by
  cases hk:bG i
  ·simp only [hk,Bool.false_eq_true,if_false] at h
   obtain ⟨o0,h1,h2⟩:=Option.map_eq_some_iff.1 h
   exact ⟨o0,h1,.inr ⟨rfl,h2.symm⟩⟩
  ·simp only [hk,if_true] at h
   exact ⟨o,h,.inl ⟨rfl,rfl⟩⟩
 have hg:∀ i o,(if bG i then σ.ob i else (σ.ob i).map fun o=>{ o with ro:=true })=some o→∃ o0,σ.ob i=some o0∧o.g=o0.g:=fun i o h=>by
  obtain ⟨o0,h1,h2⟩:=hr i o h
  refine ⟨o0,h1,?_⟩
  rcases h2 with ⟨_,rfl⟩ | ⟨_,rfl⟩ <;> rfl
 have hsim1:Be m S ⟨fun i=>if bG i then none else σ.ob i,σ.n,σ.c⟩ w:=
  ⟨hS.fresh,fun k o ho=>hS.obj k o (hs k o ho).2,fun k k' o o' v v' b ho ho'=>hS.iB k k' o o' v v' b (hs k o ho).2 (hs k' o' ho').2,hS.lt⟩
 have hsim2:Be m (fun b=>S b∨GZ m ⟨fun i=>if bG i then none else σ.ob i,σ.n,σ.c⟩ b) ⟨fun i=>if bG i then σ.ob i else (σ.ob i).map fun o=>{ o with ro:=true },σ.n,σ.c⟩ w:=by
  refine ⟨hS.fresh,fun k o ho=>?_,fun k k' o o' v v' b ho ho' hne hm hm'=>?_,fun b hb=>?_⟩
  ·obtain ⟨o0,h1,h2⟩:=hr k o ho
   obtain ⟨v,a1,a2,a3⟩:=hS.obj k o0 h1
   rcases h2 with ⟨hk,rfl⟩ | ⟨hk,rfl⟩
   ·refine ⟨v,a1,a2.JA (fun b h=>.inl h),fun b hb=>⟨fun hr=>.inl ((a3 b hb).1 hr),fun hr=>?_⟩⟩
    rintro (hh | ⟨k',o',v',ho',hm',hb'⟩)
    ·exact (a3 b hb).2 hr hh
    ·obtain ⟨hk',ho'⟩:=hs k' o' ho'
     exact hS.iB k k' o o' v v' b h1 ho' (fun e=>by subst e; rw [hk] at hk'; cases hk') a1 hm' hb hb'
   ·refine ⟨v,a1,a2.JA (fun b h=>.inl h),fun b hb=>⟨fun _=>.inr ⟨k,o0,v,?_,a1,hb⟩,fun hr=>?_⟩⟩
    ·simp only [hk,Bool.false_eq_true,if_false]; exact h1
    ·cases hr
  ·obtain ⟨o0,h1,h2⟩:=hg k o ho
   obtain ⟨o0',h1',h2'⟩:=hg k' o' ho'
   exact hS.iB k k' o0 o0' v v' b h1 h1' hne (by rw [←h2]; exact hm) (by rw [←h2']; exact hm')
  ·rcases hb with hb | ⟨k',o',v',ho',hm',hb'⟩
   ·exact hS.lt b hb
   ·obtain ⟨hk',ho'⟩:=hs k' o' ho'
    obtain ⟨v2,h1,h2,_⟩:=hS.obj k' o' ho'
    rw [hm'] at h1; obtain rfl:=Option.some.inj h1
    exact bt h2 hb'
 refine (h.2 m _ w vs hsim2 ⟨by rw [hv.1]; exact hp.1,fun j y u a b=>?_⟩).mono ?_
 ·have hj:j<args.length:=by rw [hp.1]; exact (List.getElem?_eq_some_iff.1 a).1
  exact .pure ((hv.2 j _ u (List.getElem?_eq_getElem hj) b).mU hsim1 (fun b h=>.inl h) (fun b h=>.inr h) (hp.2 j _ y (List.getElem?_eq_getElem hj) a))
 ·rintro x w' ⟨r,σ',m',S',v,rfl,hR,hI,hX,hV⟩
  have hO:∀ b,xW m ⟨fun i=>if bG i then σ.ob i else (σ.ob i).map fun o=>{ o with ro:=true },σ.n,σ.c⟩ b→xW m σ b:=fun b ⟨k,o,v,ho,hro,hm,hb⟩=>by
   obtain ⟨o0,h1,h2⟩:=hr k o ho
   rcases h2 with ⟨hk,rfl⟩ | ⟨hk,rfl⟩
   ·exact ⟨k,o,v,h1,hro,hm,hb⟩
   ·cases hro
  refine ⟨r,σ',m',S',v,rfl,hR,⟨hI.bu,⟨hI.fr.os,hI.fr.tape,hI.fr.output,hI.fr.size,fun b hb hn=>hI.fr.block b hb fun h=>hn (hO b h),fun k o v b ho hro hm hb=>?_,fun b hb=>?_⟩⟩,⟨hX.le,fun b h=>hX.sub b (.inl h),fun b h=>hX.bG b (.inl h)⟩,hV⟩
  ·rcases hI.fr.own k o v b ho hro hm hb with h | h
   ·exact .inl (hO b h)
   ·exact .inr h
  ·rcases hI.fr.sub b hb with (h | ⟨k',o',v',ho',hm',hb'⟩) | h | h
   ·exact .inl h
   ·obtain ⟨hk',ho'⟩:=hs k' o' ho'
    cases hro:o'.ro with
    | true=>
     obtain ⟨v2,h1,_,h3⟩:=hS.obj k' o' ho'
     rw [hm'] at h1; obtain rfl:=Option.some.inj h1
     exact .inl ((h3 b hb').1 hro)
    | false=>exact .inr (.inl ⟨k',o',v',ho',hro,hm',hb'⟩)
   ·exact .inr (.inl (hO b h))
   ·exact .inr (.inr h)
theorem HJ {P:Program} {σ:St} {f:Nat} {args args':List AV} {r:AV} {K:AV→St→Prop} (bG:Nat→Bool) (h:PC P f args' r) (hp:Cl ⟨fun i=>if bG i then none else σ.ob i,σ.n,σ.c⟩ args args') (ha:∀ a∈args',a.cL=true)
  (hK:K r ⟨fun i=>if bG i then σ.ob i else (σ.ob i).map fun o=>{ o with ro:=true },σ.n,σ.c⟩):HC P f args σ K:=
 HC.ro bG hp.get (ab h ha hK)
section
variable {P : Program} {e : Nat → AV} {σ : St} {Q : lQ}
theorem tE {nn k:Nat} {I I':Nat→(Nat→AV)→St→Prop} {ws:List Nat} {g:Nat→AV} (h:∀ k e σ,EC ws g e→I k e σ→I' k e σ):∀ x e σ,EC ws g e→sP nn k I Q x e σ→sP nn k I' Q x e σ:=by
 intro x e σ ha hh
 cases x with
 | lJ=>obtain ⟨k',hk',nt,hnt,h'⟩:=hh; exact ⟨k',hk',nt,hnt,h _ _ _ ha h'⟩
 | ret=>exact hh
 | exit i=>exact hh
theorem bw {a:ay} (ws:List Nat) (hws:KQ a ws=true) (n:Nat) (J:Nat→(Nat→AV)→St→Prop) (h0:J 0 e σ)
  (h:∀ r f ob c,r≤n→J r (hv f e ws) ⟨ob,σ.n,c⟩→n6 (HC P) a (SP σ.n n r J Q) (hv f e ws) ⟨ob,σ.n,c⟩):n6 (HC P) (.loop a) Q e σ:=by
 have hws':∀ i∈lU a,i∈ws:=fun i hi=>by have:=List.all_eq_true.1 hws i hi; simpa using this
 refine ⟨fun i e1 σ1=>EC ws e e1∧UI σ.n n J i e1 σ1,⟨n,fun _ _=>rfl,rfl,0,Nat.zero_le _,rfl,h0⟩,?_⟩
 rintro i e1 ⟨ob,n',c⟩ ⟨ha,hn,r,hr,rfl,hJ⟩
 simp only at hn
 subst hn
 refine eY a _ _ e1 _ hws' ha (tE fun k e σ ha h=>⟨ha,h⟩) ?_
 have he:=qY ha
 rw [he] at hJ ⊢
 exact h r e1 ob c hr hJ
def Hy (P:Program) (f:Nat):Option (Array Value→Sem Value):=match P.funcs[f]? with
 | some fn => if fn.body.isNone && !(fn.name == "runtime.NumGoroutine") then (match Extern.findNext fn with
  | none=>Extern.find fn
  | some _=>none) else none
 | none=>none
theorem Cq {P:Program} {f:Nat} {e:Array Value→Sem Value} (h:Hy P f=some e) :
  PX P f=true∧∀ (args:Array Value) (w:World),(callFunc f args).run P w=((e args).run P w).andThen fun v w'=>.ok (.value v) w':=by
 unfold Hy at h
 split at h
 ·rename_i fn hf
  split at h
  ·rename_i hb
   simp only [Bool.and_eq_true,Bool.not_eq_true'] at hb
   split at h
   ·rename_i hn
    exact ⟨by simp [PX,hf,hb.2],fun args w=>run_callFunc_extern hf hb.2 hb.1 hn h args w⟩
   ·cases h
  ·cases h
 ·cases h
def JQ (P:Program) (tS:TypeId):Bool:=match P.underlying tS with
 | some (.slice e)=>(P.info? e).isSome
 | _=>false
def UJ (nn n:Nat) (J:Nat→(Nat→AV)→St→Prop) (i:Nat) (e:Nat→AV) (σ:St):Prop:=nn≤σ.n∧∃ r,r≤n∧i=n-r∧J r e σ
def SQ (nn n r:Nat) (J:Nat→(Nat→AV)→St→Prop) (Q:lQ):lQ:=sP nn (n-r) (UJ nn n J) Q
theorem aG {nn n r:Nat} {J:Nat→(Nat→AV)→St→Prop} (nt:Nat) (h:r<n) (hnt:nn≤nt) (hJ:J (r+1) e (σ.aD nt)):SQ nn n r J Q .lJ e σ:=⟨n-(r+1),by omega,nt,hnt,hnt,r+1,h,rfl,hJ⟩
@[go_sem] theorem Pp (nn n r:Nat) (J:Nat→(Nat→AV)→St→Prop):SQ nn n r J Q .ret e σ=Q .ret e σ:=(rfl)
@[go_sem] theorem Np (nn n r i:Nat) (J:Nat→(Nat→AV)→St→Prop):SQ nn n r J Q (.exit i) e σ=Q (.exit i) e σ:=(rfl)
theorem aW {a:ay} (ws:List Nat) (hws:KQ a ws=true) (n:Nat) (J:Nat→(Nat→AV)→St→Prop) (h0:J 0 e σ)
  (h:∀ r f ob m c,r≤n→σ.n≤m→J r (hv f e ws) ⟨ob,m,c⟩→n6 (HC P) a (SQ σ.n n r J Q) (hv f e ws) ⟨ob,m,c⟩):n6 (HC P) (.loop a) Q e σ:=by
 have hws':∀ i∈lU a,i∈ws:=fun i hi=>by have:=List.all_eq_true.1 hws i hi; simpa using this
 refine ⟨fun i e1 σ1=>EC ws e e1∧UJ σ.n n J i e1 σ1,⟨n,fun _ _=>rfl,Nat.le_refl _,0,Nat.zero_le _,rfl,h0⟩,?_⟩
 rintro i e1 ⟨ob,n',c⟩ ⟨ha,hn,r,hr,rfl,hJ⟩
 simp only at hn
 refine eY a _ _ e1 _ hws' ha (tE fun k e σ ha h=>⟨ha,h⟩) ?_
 have he:=qY ha
 rw [he] at hJ ⊢
 exact h r e1 ob n' c hr hn hJ
theorem xp {a:ay} (ws:List Nat) (hws:KQ a ws=true) (I:Nat→(Nat→AV)→St→Prop) (k0:Nat) (h0:I k0 e σ)
  (h:∀ r f ob c,I r (hv f e ws) ⟨ob,σ.n,c⟩→n6 (HC P) a (sP σ.n r (fun r e1 σ1=>σ1.n=σ.n∧I r e1 σ1) Q) (hv f e ws) ⟨ob,σ.n,c⟩):n6 (HC P) (.loop a) Q e σ:=by
 have hws':∀ i∈lU a,i∈ws:=fun i hi=>by have:=List.all_eq_true.1 hws i hi; simpa using this
 refine ⟨fun r e1 σ1=>EC ws e e1∧σ1.n=σ.n∧I r e1 σ1,⟨k0,fun _ _=>rfl,rfl,h0⟩,?_⟩
 rintro r e1 ⟨ob,n',c⟩ ⟨ha,hn,hI⟩
 simp only at hn
 subst hn
 refine eY a _ _ e1 _ hws' ha (tE fun k e σ ha h=>⟨ha,h⟩) ?_
 have he:=qY ha
 rw [he] at hI ⊢
 exact h r e1 ob c hI
theorem Fe {a:ay} {K:(Nat→AV)→St→Prop} {i:Nat} (ws:List Nat) (hws:KQ a ws=true) (R:(Nat→AV)→St→Prop)
  (h:n6 (HC P) (.loop a) (jx i (Ci R Q)) e σ) (hk:∀ f σ1,R (hv f e ws) σ1→K (hv f e ws) σ1):n6 (HC P) (.loop a) (jx i (Ci K Q)) e σ:=by
 have hwa:∀ i∈lU (.loop a),i∈ws:=fun i hi=>by have:=List.all_eq_true.1 hws i hi; simpa using this
 refine eY (.loop a) _ _ e σ hwa (fun _ _=>rfl) (fun x e1 σ1 ha h=>?_) h
 have hr:R e1 σ1→K e1 σ1:=fun h=>by
  have he:=qY ha
  rw [he] at h ⊢
  exact hk _ _ h
 cases x with
 | lJ=>exact hr h
 | ret=>exact h
 | exit j=>
  simp only [jx] at h ⊢
  by_cases e:j=i
  ·rw [if_pos e] at h ⊢; exact hr h
  ·rw [if_neg e] at h ⊢; exact h
end
end Go.Ab
