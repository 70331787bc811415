/- OWN WORK, put together by tools/asm.py, seat.py, mini.py. -/
import Derived.Test.YtcpckngdfjmbgaaGreatBaseV
namespace Go.Ab
open Go.RowKit
section
variable {P : Program} {W : World} {O S0 : Nat → Prop} {m : Mp} {S : Nat → Prop} {σ : St} {w : World} {e : Nat → AV} {a : Act} {K : AV → St → Prop} {Q : Exit → Act → World → Prop}
theorem any_some {α:Type} {o:Option α} {p:α→Bool} (h:o.any p=true):∃ z,o=some z∧p z=true:=by cases o <;> simp_all
theorem fC {mu:Bool} {ty:TypeId} {x:Operand} {op:aO} (h:GQ P mu ty x=some op) :
  (∃ y,ax x=some y∧op=.mv y)∨(x=.const (.slice none 0 0)∧∃ es t,0<es∧op=.fA es t):=by
 unfold GQ at h
 split at h
 ·rename_i op' hn
  simp only [Option.some.injEq] at h
  subst h
  refine .inr ?_
  unfold HG at hn
  split at hn
  ·split at hn
   ·split at hn
    ·split at hn
     ·rename_i hp
      exact ⟨rfl,_,_,hp,(Option.some.inj hn).symm⟩
     ·cases hn
    ·cases hn
   ·cases hn
  ·cases hn
 ·obtain ⟨y,hy,rfl⟩:=Option.map_eq_some_iff.1 h
  exact .inl ⟨y,hy,rfl⟩
theorem qX {t:TypeId} {z:AV} (h:Jt P t=some z):∃ k el kq i z0,P.underlying t=some (.map k el)∧P.underlying k=some (.int kq)∧P.info? el=some i∧i.zero=some z0∧av z0=some z:=by
 unfold Jt at h
 split at h
 ·rename_i k el hu
  split at h
  ·rename_i kq i hk hi
   split at h
   ·rename_i z' hz
    obtain ⟨z0,h0,h1⟩:=Option.bind_eq_some_iff.1 hz
    split at h
    ·cases h
     exact ⟨_,_,_,_,z0,hu,hk,hi,h0,h1⟩
    ·cases h
   ·cases h
  ·cases h
 ·cases h
theorem Gg {ob:Nat→Option aU} {N C:Nat→Nat} {id g0:Nat} {o:Oper} {mu:Bool} {op:aO} (hI:Inv W O S0 m S ⟨ob,N id,C g0⟩ w) (hg0:m g0=none) (hc':∀ g v,m g=some v→g<C (g0+1)) (hgc:g0<C (g0+1))
  (hE:bq m S w e a.tmps) (hc:cU P mu o.type o.op=some op) (h:op.new=false→ar (HC P) op e ⟨ob,N id,C g0⟩ K) (hnew:op.new=true→ar (HC P) op e ⟨ob,id,g0⟩ (fun v τ=>K v ⟨τ.ob,N τ.n,C τ.c⟩)) :
  o.wp P a w (Good W O S0 m S w g0 o a K) Q:=by
 unfold cU at hc
 split at hc
 ·rename_i x ho
  rcases fC hc with ⟨y,hy,rfl⟩ | ⟨rfl,es,t,hp,rfl⟩
  ·exact Q6 hI hE (.inl ho) hy (h rfl)
  ·exact Hc hI hg0 hc' hgc (.inl ho) hp (hnew rfl)
 ·rename_i x ho
  rcases fC hc with ⟨y,hy,rfl⟩ | ⟨rfl,es,t,hp,rfl⟩
  ·exact Q6 hI hE (.inr ho) hy (h rfl)
  ·exact Hc hI hg0 hc' hgc (.inr ho) hp (hnew rfl)
 ·rename_i c x y ho
  split at hc
  ·rename_i h1 h2 h3
   cases hc
   exact Om hI hE ho h1 h2 h3 (h rfl)
  ·cases hc
 ·rename_i t ho
  split at hc
  ·rename_i i hi
   split at hc
   ·rename_i z hz
    obtain ⟨z0,hz0,hz1⟩:=Option.bind_eq_some_iff.1 hz
    split at hc
    ·rename_i hh
     simp only [Bool.and_eq_true,decide_eq_true_eq,beq_iff_eq] at hh
     cases hc
     exact Lv hI hg0 hc' hgc ho hi hz0 hz1 hh.1.1 hh.1.2 hh.2 (hnew rfl)
    ·cases hc
   ·cases hc
  ·cases hc
 ·rename_i t x ho
  split at hc
  ·rename_i i y hi hy
   split at hc
   ·rename_i hh
    cases hc
    exact Rk hI hg0 hc' hgc hE ho hy hh (hnew rfl)
   ·cases hc
  ·cases hc
 ·rename_i t parts ho
  split at hc
  ·rename_i fields zs hu hz
   obtain ⟨i,hi,hz⟩:=Option.bind_eq_some_iff.1 hz
   obtain ⟨z0,hz0,hz1⟩:=Option.bind_eq_some_iff.1 hz
   split at hc
   ·rename_i hall
    obtain ⟨ps,hps,rfl⟩:=Option.map_eq_some_iff.1 hc
    exact Lu hI hE ho hu hi hz0 hz1 (fun f hf=>by have:=Array.all_eq_true_iff_forall_mem.1 hall f (by simpa using hf); simpa using this) hps (h rfl)
   ·cases hc
  ·rename_i n el zs hu hz
   obtain ⟨i,hi,hz⟩:=Option.bind_eq_some_iff.1 hz
   obtain ⟨z0,hz0,hz1⟩:=Option.bind_eq_some_iff.1 hz
   split at hc
   ·rename_i ei hei
    obtain ⟨ps,hps,rfl⟩:=Option.map_eq_some_iff.1 hc
    exact I5 hI hE ho hu hi hz0 hz1 hei hps (h rfl)
   ·cases hc
  ·cases hc
 ·rename_i t len parts ho
  split at hc
  ·rename_i el hu
   split at hc
   ·rename_i i xs hi hxs
    split at hc
    ·rename_i hh
     simp only [Bool.and_eq_true,decide_eq_true_eq,beq_iff_eq] at hh
     obtain ⟨⟨⟨h1,h2⟩,h3⟩,h4⟩:=hh
     obtain ⟨z,hz,_⟩:=any_some h4
     cases hc
     exact Rb hI hg0 hc' hgc hE ho hu hi hz h3 hxs h1 h2 (hnew rfl)
    ·cases hc
   ·cases hc
  ·cases hc
 ·rename_i t x ho
  split at hc
  ·rename_i d i y hd hi hy
   split at hc
   ·rename_i hag
    cases hc
    exact I4 hI hE ho hd hi hy (by rw [hag]; exact h rfl)
   ·rename_i hag
    cases hc
    exact I4 hI hE ho hd hi hy (by simp only [Bool.not_eq_true] at hag; rw [hag]; exact h rfl)
  ·cases hc
 ·rename_i t x v ho
  split at hc
  ·rename_i i y z hi hy hz
   split at hc
   ·rename_i hp
    cases hc
    exact Lp hI hE ho hi hp hy hz (h rfl)
   ·cases hc
  ·cases hc
 ·rename_i x ho
  obtain ⟨y,hy,rfl⟩:=Option.map_eq_some_iff.1 hc
  exact I2 hI hE ho hy (h rfl)
 ·rename_i op t x y t' ho
  split at hc
  ·rename_i h1 h2 h3
   split at hc <;> cases hc <;> first | exact Rl hI hE ho h2 h3 (h rfl) | exact M1 hI hE ho h2 h3 (h rfl)
  ·rename_i h1 h2 h3
   cases hc
   exact M1 hI hE ho h2 h3 (h rfl)
  ·rename_i h1 h2 h3
   split at hc
   ·cases hc
    exact M0 (neg:=false) hI hE ho h1 h2 h3 (h rfl)
   ·cases hc
    exact M0 (neg:=true) hI hE ho h1 h2 h3 (h rfl)
   ·cases hc
  ·rename_i fs a1 b1 h1 h2 h3
   split at hc
   ·rename_i hh
    simp only [Bool.not_eq_true'] at hh
    split at hc
    ·rename_i hks
     cases hc
     exact MZ (neg:=false) hI hE ho h1 hh hks h2 h3 (h rfl)
    ·rename_i hks
     cases hc
     exact MZ (neg:=true) hI hE ho h1 hh hks h2 h3 (h rfl)
    ·cases hc
   ·cases hc
  ·rename_i h1 h2 h3
   split at hc
   ·cases hc
    exact He (neg:=false) hI hE ho h1 h2 (h rfl)
   ·cases hc
    exact He (neg:=true) hI hE ho h1 h2 (h rfl)
   ·cases hc
  ·cases hc
 ·rename_i op t x ho
  obtain ⟨y,hy,rfl⟩:=Option.map_eq_some_iff.1 hc
  exact To hI hE ho hy (h rfl)
 ·rename_i s t x ho
  split at hc
  ·rename_i h1 h2 h3
   cases hc
   exact Oo hI hE ho h1 h2 h3 (h rfl)
  ·rename_i h1 h2 h3
   cases hc
   exact Rh hI hE ho h1 h2 h3 (h rfl)
  ·rename_i h1 h2 h3
   split at hc
   ·rename_i hu8
    cases hc
    exact Q5 hI hg0 hc' hgc hE ho h1 h2 hu8 h3 (hnew rfl)
   ·cases hc
  ·rename_i h1 h2 h3
   split at hc
   ·rename_i hu8
    cases hc
    exact Rm hI hE ho h1 h2 hu8 h3 (h rfl)
   ·cases hc
  ·cases hc
 ·rename_i t x ho
  split at hc
  ·rename_i hu hy
   split at hc
   ·cases hc
   ·rename_i hd
    cases hc
    exact Q9 hI ho hu (by simpa using hd) (h rfl)
  ·cases hc
 ·rename_i t x n ho
  split at hc
  ·rename_i fields y hu hy
   split at hc
   ·rename_i f hf
    split at hc
    ·rename_i d fi hd hi
     cases hc
     exact Rf hI hE ho hu hf hd hi hy (h rfl)
    ·cases hc
   ·cases hc
  ·cases hc
 ·rename_i t x ix ho
  split at hc
  ·rename_i n el y z hu hy hz
   split at hc
   ·rename_i d ei hd hi
    split at hc
    ·rename_i hp
     cases hc
     exact Ox hI hE ho hu hd hi hp hy hz (h rfl)
    ·cases hc
   ·cases hc
  ·rename_i y z hu hy hz
   cases hc
   exact Ol hI hE ho hu hy hz (h rfl)
  ·cases hc
 ·rename_i t l c ho
  split at hc
  ·rename_i el y z hu hy hz
   split at hc
   ·rename_i i hi
    split at hc
    ·rename_i zv hzz
     obtain ⟨z0,hz0,hz1⟩:=Option.bind_eq_some_iff.1 hzz
     split at hc
     ·rename_i hh
      simp only [Bool.and_eq_true,decide_eq_true_eq,beq_iff_eq] at hh
      cases hc
      exact Q7 hI hg0 hc' hgc hE ho hu hi hz0 hz1 hh.1.1.1 hh.1.1.2 hh.1.2 hy hz hh.2 (hnew rfl)
     ·cases hc
    ·cases hc
   ·cases hc
  ·cases hc
 ·cases hc
  exact Hd (h rfl)
 ·rename_i t r ho
  split at hc
  ·rename_i hh
   simp only [Bool.and_eq_true] at hh
   obtain ⟨z,hz⟩:=Option.isSome_iff_exists.1 hh.1
   obtain ⟨k,el,kq,i,z0,hu,_⟩:=qX hz
   cases hc
   exact Lr hI hg0 hc' hgc ho hu hh.2 (hnew rfl)
  ·cases hc
 ·rename_i t mo k x ho
  split at hc
  ·rename_i z y q v hz h1 h2 h3
   obtain ⟨k,el,kq,i,z0,hu,huk,_⟩:=qX hz
   cases hc
   exact EP hI hE (.inl ho) hu huk h1 h2 h3 (h rfl)
  ·cases hc
 ·rename_i t mo k x ho
  split at hc
  ·rename_i z y q v hz h1 h2 h3
   obtain ⟨k,el,kq,i,z0,hu,huk,_⟩:=qX hz
   cases hc
   exact EP hI hE (.inr ho) hu huk h1 h2 h3 (h rfl)
  ·cases hc
 ·rename_i t x k ok ho
  split at hc
  ·rename_i z y q hz h1 h2
   obtain ⟨k,el,kq,i,z0,hu,huk,hi,hz0,hz1⟩:=qX hz
   cases hc
   exact I3 hI hE ho hu huk hi hz0 hz1 h1 h2 (h rfl)
  ·cases hc
 ·rename_i f first caps ho
  split at hc
  ·rename_i hf
   obtain ⟨ys,hys,rfl⟩:=Option.map_eq_some_iff.1 hc
   have:first=#[]:=by simpa using hf
   subst this
   exact Ra hI hE ho hys (h rfl)
  ·split at hc
   ·rename_i hf
    obtain ⟨ys,hys,rfl⟩:=Option.map_eq_some_iff.1 hc
    have:caps=#[]:=by simpa using hf
    subst this
    exact Q8 hI hE ho hys (h rfl)
   ·cases hc
 ·rename_i t x n ho
  split at hc
  ·rename_i fields y hu hy
   split at hc
   ·rename_i f hf
    split at hc
    ·rename_i i hi
     split at hc
     ·rename_i hp
      cases hc
      exact Tp hI hE ho hu hf hi hp hy (h rfl)
     ·cases hc
    ·cases hc
   ·cases hc
  ·cases hc
 ·rename_i t x ix ho
  split at hc
  ·rename_i el y z hu hy hz
   split at hc
   ·rename_i ei hi
    cases hc
    exact Re hI hE ho hu hi hy hz (h rfl)
   ·cases hc
  ·rename_i n el y z hu hy hz
   split at hc
   ·rename_i ei hi
    cases hc
    exact Ow hI hE ho hu hi hy hz (h rfl)
   ·cases hc
  ·cases hc
 ·rename_i x i ho
  obtain ⟨y,hy,rfl⟩:=Option.map_eq_some_iff.1 hc
  exact Rg hI hE ho hy (h rfl)
 ·rename_i t x lo hi0 ho
  split at hc
  ·rename_i el y l h' hu hy hl hh
   split at hc
   ·rename_i ei hi
    split at hc
    ·split at hc
     ·rename_i hp
      cases hc
      cases lo with
      | some lo=>simp [CU] at hl
      | none=>
       cases hi':hi0 with
       | none=>subst hi'; simp [CU] at hh
       | some hv=>
        subst hi'
        simp only [CU,Option.map_eq_some_iff,Option.some.injEq] at hh
        obtain ⟨hx',hax,rfl⟩:=hh
        exact Q3 hI hg0 hc' hgc hE ho hu hi hp hy hax (hnew rfl)
     ·cases hc
    ·cases hc
     exact Q4 hI hE ho hu hi hy hl hh (h rfl)
   ·cases hc
  ·rename_i y l h' hu hy hl hh
   cases hc
   exact Oi hI hE ho hu hy hl hh (h rfl)
  ·rename_i arr y l h' hu hy hl hh
   split at hc
   ·rename_i n el hu2
    split at hc
    ·rename_i ei hi
     split at hc
     ·cases hc
      exact Oj hI hE ho hu hu2 hi hy hl hh (h rfl)
     ·cases hc
    ·cases hc
   ·cases hc
  ·rename_i n el y l h' hu hy hl hh
   split at hc
   ·rename_i ei hi
    split at hc
    ·cases hc
     exact Lq hI hE ho hu hi hy hl hh (h rfl)
    ·cases hc
   ·cases hc
  ·cases hc
 ·rename_i t x lo hi mx ho
  split at hc
  ·rename_i el a1 l1 h1 m1 hu hy hl hh hmm
   split at hc
   ·rename_i ei hi'
    cases hc
    exact Ok hI hE ho hu hi' hy hl hh hmm (h rfl)
   ·cases hc
  ·cases hc
 ·rename_i c ho
  have hax:∀ {xs:List Operand} {y:AX},Cf xs=some [y]→∃ x,xs=[x]∧ax x=some y:=by
   intro xs y hxs
   cases xs with
   | nil=>simp [Cf] at hxs
   | cons x r=>
    simp only [Cf] at hxs
    split at hxs
    ·rename_i p q h1 h2
     simp only [Option.some.injEq,List.cons.injEq] at hxs
     obtain ⟨rfl,rfl⟩:=hxs
     cases r with
     | nil=>exact ⟨x,rfl,h1⟩
     | cons x2 r2=>
      simp only [Cf] at h2
      split at h2 <;> simp at h2
    ·cases hxs
  have hax2:∀ {xs:List Operand} {y z:AX},Cf xs=some [y,z]→∃ x x2,xs=[x,x2]∧ax x=some y∧ax x2=some z:=by
   intro xs y z hxs
   cases xs with
   | nil=>simp [Cf] at hxs
   | cons x r=>
    simp only [Cf] at hxs
    split at hxs
    ·rename_i p q h1 h2
     simp only [Option.some.injEq,List.cons.injEq] at hxs
     obtain ⟨rfl,rfl⟩:=hxs
     obtain ⟨x2,rfl,h3⟩:=hax h2
     exact ⟨x,x2,rfl,h1,h3⟩
    ·cases hxs
  split at hc
  ·rename_i y hcal has
   obtain ⟨x,hxs,hx⟩:=hax has
   split at hc
   ·rename_i t ht
    split at hc
    ·rename_i el hu
     cases hc
     exact Rd hI hE ho hcal hxs ht hu hx (h rfl)
    ·rename_i hu
     cases hc
     exact On hI hE ho hcal hxs ht hu hx (h rfl)
    ·cases hc
   ·cases hc
  ·rename_i y z hcal has
   obtain ⟨x,x2,hxs,hx,hx2⟩:=hax2 has
   split at hc
   ·rename_i s t ht
    split at hc
    ·rename_i hst
     have hst:s=t:=by simpa using hst
     subst hst
     split at hc
     ·rename_i el hu
      split at hc
      ·rename_i i hi
       split at hc
       ·rename_i hh
        simp only [Bool.and_eq_true,decide_eq_true_eq] at hh
        obtain ⟨zz,hz,hzs⟩:=any_some hh.2
        split at hc
        ·rename_i hmn
         simp only [Bool.and_eq_true] at hmn
         cases hc
         exact Ov hI hg0 hc' hgc hE ho hcal hxs ht hu hi hz (by simpa using hzs) hh.1 hx hx2 hmn.2 (hnew rfl)
        ·cases hc
         exact M3 hI hg0 hc' hgc hE ho hcal hxs ht hu hi hz (by simpa using hzs) hh.1 hx hx2 (hnew rfl)
       ·cases hc
      ·cases hc
     ·cases hc
    ·split at hc
     ·rename_i el kn hu hu2
      split at hc
      ·rename_i i hi
       split at hc
       ·rename_i zv hzz
        obtain ⟨z0,hz0,hz1⟩:=Option.bind_eq_some_iff.1 hzz
        split at hc
        ·rename_i hh
         simp only [Bool.and_eq_true,decide_eq_true_eq,beq_iff_eq] at hh
         cases hc
         exact Ou hI hg0 hc' hgc hE ho hcal hxs ht hu hu2 hi hz0 hz1 hh.1.1 hh.1.2 hh.2 hx hx2 (hnew rfl)
        ·cases hc
       ·cases hc
      ·cases hc
     ·cases hc
   ·cases hc
  ·rename_i y hcal has
   obtain ⟨x,hxs,hx⟩:=hax has
   split at hc
   ·rename_i t ht
    split at hc
    ·rename_i el hu
     cases hc
     exact Oq hI hE ho hcal hxs ht hu hx (h rfl)
    ·cases hc
   ·cases hc
  ·rename_i y z hcal has
   obtain ⟨x,x2,hxs,hx,hx2⟩:=hax2 has
   split at hc
   ·rename_i s t ht
    split at hc
    ·rename_i el el2 hu hu2
     split at hc
     ·rename_i i hi
      split at hc
      ·rename_i hp
       cases hc
       exact Ri hI hE ho hcal hxs ht hu hi hx hx2 (h rfl)
      ·cases hc
     ·cases hc
    ·cases hc
   ·cases hc
  ·rename_i y hcal has
   obtain ⟨x,hxs,hx⟩:=hax has
   split at hc
   ·rename_i t ht
    split at hc
    ·rename_i el hu
     split at hc
     ·rename_i i hi
      split at hc
      ·rename_i zv hzz
       obtain ⟨z0,hz0,hz1⟩:=Option.bind_eq_some_iff.1 hzz
       split at hc
       ·rename_i hh
        simp only [Bool.and_eq_true,decide_eq_true_eq,beq_iff_eq] at hh
        cases hc
        exact Rj hI hE ho hcal hxs ht hu hi hz0 hz1 hh.1.1 hh.1.2 hh.2 hx (h rfl)
       ·cases hc
      ·cases hc
     ·cases hc
    ·cases hc
   ·cases hc
  ·cases hc
   exact Hd (h rfl)
  ·rename_i x xs hcal has
   cases hc
   exact MY (mx:=false) hI hE ho hcal has (h rfl)
  ·rename_i x xs hcal has
   cases hc
   exact MY (mx:=true) hI hE ho hcal has (h rfl)
  ·rename_i f as hcal has
   split at hc
   ·cases hc
    exact Ot hI hE ho hcal has (h rfl)
   ·cases hc
  ·rename_i s as hcal has
   cases hc
   exact Lt hI hE ho hcal has (h rfl)
  ·cases hc
 ·cases hc
theorem Ma {mu:Bool} {ty:TypeId} {o:Op} {x:AX} (hc:cU P mu ty o=some (.mv x)):∃ y,(o=.move y∨o=.assign y)∧ax y=some x:=by
 cases o with
 | move y=>
  simp only [cU] at hc
  rcases fC hc with ⟨z,h1,h2⟩ | ⟨_,_,_,_,h2⟩ <;> cases h2
  exact ⟨y,.inl rfl,h1⟩
 | assign y=>
  simp only [cU] at hc
  rcases fC hc with ⟨z,h1,h2⟩ | ⟨_,_,_,_,h2⟩ <;> cases h2
  exact ⟨y,.inr rfl,h1⟩
 | slice t x lo hi mx=>
  cases lo <;> cases hi <;> cases mx <;> simp only [cU] at hc <;> (repeat' split at hc) <;> simp_all
 | _=>simp only [cU] at hc <;> (repeat' split at hc) <;> simp_all
theorem Cr {ob:Nat→Option aU} {N C:Nat→Nat} {id g0:Nat} {o:Oper} {mu:Bool × Bool} {op:aO} (hI:Inv W O S0 m S ⟨ob,N id,C g0⟩ w) (hg0:m g0=none) (hc':∀ g v,m g=some v→g<C (g0+1)) (hgc:g0<C (g0+1))
  (hE:bq m S w e a.tmps) (hc:tl P mu o.type o.op=some op) (h:op.new=false→ar (HC P) op e ⟨ob,N id,C g0⟩ K) (hnew:op.new=true→ar (HC P) op e ⟨ob,id,g0⟩ (fun v τ=>K v ⟨τ.ob,N τ.n,C τ.c⟩)) :
  o.wp P a w (Good W O S0 m S w g0 o a K) Q:=by
 exact Gg hI hg0 hc' hgc hE hc h hnew
theorem ko {o:Oper} {mu:Bool × Bool} {op:aO} (hI:Inv W O S0 m S σ w) (hE:bq m S w e a.tmps) (hc:tl P mu o.type o.op=some op) (h:ar (HC P) op e σ K):o.wp P a w (Good W O S0 m S w σ.c o a K) Q:=
 Cr (ob:=σ.ob) (N:=fun n=>n) (C:=fun c=>c) (id:=σ.n) (g0:=σ.c) hI (cZ hI.bu.fresh) (fun g v hg=>Nat.lt_succ_of_lt (hI.bu.fresh g v hg)) (Nat.lt_succ_self _) hE hc (fun _=>h) (fun _=>h)
def Marks (n0:Nat) (S:Nat→Prop) (w:World) (ds:List Deferred):Prop:=ds.Pairwise (fun a b=>a.target≠b.target)∧∀ d∈ds,∃ D,d={ target:=.collected D,args:=#[] }∧n0≤D∧S D∧w.heap[D]?=some (.deferred (some []))
theorem Marks.nil (n0:Nat) (S:Nat→Prop) (w:World):Marks n0 S w []:=⟨.nil,fun _ h=>by cases h⟩
theorem Marks.ext {n0:Nat} {m m':Mp} {S S':Nat→Prop} {w w':World} {ds:List Deferred} (h:Marks n0 S w ds) (x:Ext m S w m' S' w'):Marks n0 S' w' ds:=⟨h.1,fun d hd=>by
 obtain ⟨D,h1,h0,h2,h3⟩:=h.2 d hd
 exact ⟨D,h1,h0,x.sub D h2,(x.bG D h2).trans h3⟩⟩
def lR (W:World) (O S0:Nat→Prop) (m:Mp) (S:Nat→Prop) (σ:St) (w:World) (n:Nat) (e:Nat→AV) (a:Act):Prop:=
 Inv W O S0 m S σ w∧bq m S w e a.tmps∧a.tmps.size=n∧Marks W.heap.size S w a.defers
theorem bq.put {e:Nat→AV} {a:Act} {n:Nat} (hE:bq m S w e a.tmps) (hn:a.tmps.size=n) {d:Option Nat} (hd:∀ i,d=some i→i<n) {x:AV} {v:Value} (hv:VR m S w x v) :
  bq m S w (bL e d x) (a.put d v).tmps∧(a.put d v).tmps.size=n∧(a.put d v).defers=a.defers:=by
 cases d with
 | none=>exact ⟨hE,hn,rfl⟩
 | some i=>
  have hi:=hd i rfl
  refine ⟨fun j=>?_,by simpa [Act.put] using hn,rfl⟩
  simp only [bL,Act.put]
  by_cases hj:j=i
  ·subst hj
   rw [az]
   simpa [Array.getD_eq_getD_getElem?,hn,hi] using hv
  ·rw [aa _ _ _ _ hj]
   have:=hE j
   simpa [Array.getD_eq_getD_getElem?,Array.getElem?_setIfInBounds,Ne.symm hj] using this
theorem bV {mt:List Nat} {n:Nat} {af:List Nat} {ops:Array Oper} {o:Oper} {r:aT} (h:cS P mt n ops af o=some r) :
  (∃ mu,tl P mu o.type o.op=some r.op)∧r.d=o.dst∧(∀ i,o.dst=some i→i<n)∧
  ((o.guard=none∧r.gd=none)∨∃ j wnt s,o.guard=some (j,wnt)∧(ops[j]?).bind (·.dst)=some s∧s<n∧r.gd=some (s,wnt)):=by
 unfold cS at h
 split at h
 ·cases h
 ·rename_i op hop
  split at h
  ·rename_i hd
   have hd':∀ i,o.dst=some i→i<n:=fun i hi=>by rw [hi] at hd; simpa [Nb] using hd
   split at h
   ·rename_i hg
    cases h
    exact ⟨⟨_,hop⟩,rfl,hd',.inl ⟨hg,rfl⟩⟩
   ·rename_i j wnt hg
    split at h
    ·rename_i s hs
     split at h
     ·rename_i hsn
      cases h
      exact ⟨⟨_,hop⟩,rfl,hd',.inr ⟨j,wnt,s,hg,hs,hsn,rfl⟩⟩
     ·cases h
    ·cases h
  ·cases h
theorem VR.C6:VR m S w (.tuple []) undef:=VR.nr (by simpa using bR.nil)
theorem xr {mt:List Nat} {n:Nat} (ops:Array Oper):∀ (l:List Nat) (cs:List (List Nat)) (os:List Oper) (rs:List aT),(∀ (k:Nat) (i:Nat),l[k]?=some i→ops[i]?=os[k]?)→l.length=os.length→br P mt n ops cs os=some rs→
  ∀ (m:Mp) (S:Nat→Prop) (σ:St) (w:World) (e:Nat→AV) (a:Act) (Kr:(Nat→AV)→St→Prop),lR W O S0 m S σ w n e a→runs (HC P) rs Kr e σ→
  (∀ m' S' σ' w' e' a',lR W O S0 m' S' σ' w' n e' a'→Ext m S w m' S' w'→Kr e' σ'→a'.defers=a.defers→Q .normal a' w')→wpOps P ops Q l a w
 | [],cs,os,rs,hl,hlen,hc=>by
  intro m S σ w e a Kr hI h hQ
  cases os with
  | nil=>
   simp only [br,Option.some.injEq] at hc
   subst hc
   exact hQ m S σ w e a hI (Ext.refl m S w) h rfl
  | cons o os=>simp at hlen
 | i :: l,cs,os,rs,hl,hlen,hc=>by
  intro m S σ w e a Kr hI h hQ
  cases os with
  | nil=>simp at hlen
  | cons o os=>
   simp only [br] at hc
   split at hc
   ·rename_i r rs' h1 h2
    simp only [Option.some.injEq] at hc
    subst hc
    obtain ⟨⟨mu,hop⟩,hd,hdn,hg⟩:=bV h1
    have ho:ops[i]?=some o:=hl 0 i rfl
    have ih:=xr ops l cs.tail os rs' (fun k j hk=>hl (k+1) j hk) (by simpa using hlen) h2
    obtain ⟨hInv,hE,hn,hdf⟩:=hI
    have step:∀ (e':Nat→AV),bq m S w e' a.tmps→ar (HC P) r.op e' σ (G5 (runs (HC P) rs' Kr) e' r.d)→Oper.wp P o a w (wpOps P ops Q l) Q:=by
     intro e' hE' h'
     refine Oper.wp_mono ?_ (ko hInv hE' hop h')
     rintro a' w' ⟨x,σ',m',S',v,rfl,hK,hI',hX,hV,_⟩
     obtain ⟨g1,g2,g3⟩:=bq.put (hE'.ext hX) hn hdn hV
     simp only [G5,hd] at hK
     exact ih _ _ _ _ _ _ _ ⟨hI',g1,g2,by rw [g3]; exact hdf.ext hX⟩ hK (fun m2 S2 σ2 w2 e2 a2 q1 q2 q3 q4=>hQ m2 S2 σ2 w2 e2 a2 q1 (hX.trans q2) q3 (q4.trans g3))
    simp only [wpOps,ho]
    rcases hg with ⟨hg,hgr⟩ | ⟨j,wnt,s,hg,hs,hsn,hgr⟩
    ·have hw:Region.wanted o (yielded ops a.tmps)=true:=by simp [Region.wanted,hg]
     simp only [runs,hgr] at h
     simp only [hw,if_true]
     exact .inl (step e hE h)
    ·simp only [runs,hgr] at h
     generalize hes:e s=g at h
     unfold tg at h
     split at h
     ·have hv:=hE s
      rw [hes] at hv
      obtain ⟨vs,hv,hvs⟩:=hv.p8
      have hy:yielded ops a.tmps j=none:=by
       have hlt:s<a.tmps.size:=by rw [hn]; exact hsn
       have h3:a.tmps[s]?=some (.tuple vs):=by
        simp only [Array.getD_eq_getD_getElem?] at hv
        rw [Array.getElem?_eq_getElem hlt] at hv ⊢
        simpa using hv
       simp [yielded,hs,h3]
      have hw:Region.wanted o (yielded ops a.tmps)=false:=by simp [Region.wanted,hg,hy]
      simp only [hw,Bool.false_eq_true,if_false]
      obtain ⟨g1,g2,g3⟩:=bq.put hE hn hdn (VR.C6 (m:=m) (S:=S) (w:=w))
      simp only [tF] at h
      rw [hd] at h
      exact ih _ _ _ _ _ _ _ ⟨hInv,g1,g2,by rw [g3]; exact hdf⟩ h fun m2 S2 σ2 w2 e2 a2 q1 q2 q3 q4=>hQ m2 S2 σ2 w2 e2 a2 q1 q2 q3 (q4.trans g3)
     ·rename_i b
      have hb:e s=.bool b:=hes
      have hv:=hE s
      rw [hb] at hv
      have hv:=hv.of_bool
      have hy:yielded ops a.tmps j=some b:=by
       have hlt:s<a.tmps.size:=by rw [hn]; exact hsn
       have h3:a.tmps[s]?=some (.bool b):=by
        simp only [Array.getD_eq_getD_getElem?] at hv
        rw [Array.getElem?_eq_getElem hlt] at hv ⊢
        simpa using hv
       simp [yielded,hs,h3]
      by_cases hbw:b=wnt
      ·have hw:Region.wanted o (yielded ops a.tmps)=true:=by simp [Region.wanted,hg,hy,hbw]
       simp only [hw,if_true]
       exact .inl (step _ hE (h.1 hbw))
      ·have hw:Region.wanted o (yielded ops a.tmps)=false:=by simp [Region.wanted,hg,hy,hbw]
       have hbw':b=!wnt:=by cases b <;> cases wnt <;> simp_all
       simp only [hw,Bool.false_eq_true,if_false]
       obtain ⟨g1,g2,g3⟩:=bq.put hE hn hdn (VR.C6 (m:=m) (S:=S) (w:=w))
       have h4:=h.2 hbw'
       simp only [tF,hd] at h4
       exact ih _ _ _ _ _ _ _ ⟨hInv,g1,g2,by rw [g3]; exact hdf⟩ h4 fun m2 S2 σ2 w2 e2 a2 q1 q2 q3 q4=>hQ m2 S2 σ2 w2 e2 a2 q1 q2 q3 (q4.trans g3)
     ·exact h.elim
   ·cases hc
theorem Gf {mt:List Nat} {n:Nat} (ops:Array Oper) (l:List Nat) (cs:List (List Nat)) (os:List Oper) (rs:List aT) (h1:∀ (k:Nat) (i:Nat),l[k]?=some i→ops[i]?=os[k]?) (h2:l.length=os.length) (h3:br P mt n ops cs os=some rs)
  (m:Mp) (S:Nat→Prop) (σ:St) (w:World) (e:Nat→AV) (a:Act) (Kr:(Nat→AV)→St→Prop) (h4:lR W O S0 m S σ w n e a) (h5:runs (HC P) rs Kr e σ)
  (h6:∀ m' S' σ' w' e' a',lR W O S0 m' S' σ' w' n e' a'→Ext m S w m' S' w'→Kr e' σ'→Q .normal a' w'):wpOps P ops Q l a w:=
 xr ops l cs os rs h1 h2 h3 m S σ w e a Kr h4 h5 fun m2 S2 σ2 w2 e2 a2 q1 q2 q3 _=>h6 m2 S2 σ2 w2 e2 a2 q1 q2 q3
end
end Go.Ab
