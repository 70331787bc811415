/- OWN WORK, put together by tools/asm.py, seat.py, mini.py. -/
import Derived.Test.YtcpckngdfjmbgaaGreatBaseG
import Derived.Laws.StructEq
import Derived.Laws.Strings
import Derived.Laws.Small
namespace Go.Ab
open Go.RowKit
section
variable {P : Program} {W : World} {O S0 : Nat → Prop} {m : Mp} {S : Nat → Prop} {σ : St} {w : World} {e : Nat → AV} {a : Act} {o : Oper} {K : AV → St → Prop} {Q : Exit → Act → World → Prop} {g0 : Nat}
theorem VR.wo {id g es i off:Nat} {v:Value} (h:VR m S w (.ptr id g es i off) v):∃ b len cap,m g=some (.slice (some ⟨b,0,none⟩) len cap)∧v=.pointer (some ⟨b,i * es+off,none⟩):=by
 cases h with
 | pure h=>cases h
 | ptr h=>exact ⟨_,_,_,h,rfl⟩
theorem VR.Ds {es i off:Nat} {l:List AV} {v:Value} (h:VR m S w (.eQ es l i off) v):∃ b q,v=.pointer (some ⟨b,q+off,none⟩)∧
  ∀ off',VR m S w (.eQ es l i off') (.pointer (some ⟨b,q+off',none⟩)):=by
 cases h with
 | pure h=>
  cases h with
  | eQ f hS hc hw hv=>exact ⟨_,_,rfl,fun off'=>.pure (.eQ f hS hc hw hv)⟩
theorem I2 {x:Operand} {y:AX} (hI:Inv W O S0 m S σ w) (hE:bq m S w e a.tmps) (ho:o.op=.nilCheck x) (hc:ax x=some y) (h:ar (HC P) (.ba y) e σ K) :
  o.wp P a w (Good W O S0 m S w g0 o a K) Q:=by
 have hv:=aC hE hc
 simp only [ar] at h
 generalize g0_:y.ev e=G0_ at h
 unfold iL at h
 split at h
 ·have hx:=g0_
  have hv':=hv
  rw [hx] at hv'
  obtain ⟨b,_,_,_,e1⟩:=hv'.wo
  exact aj (v:=a.eval x) hI (by simp [execOp,ho,e1]) h hv'
 ·have hx:=g0_
  have hv':=hv
  rw [hx] at hv'
  obtain ⟨b,q,e1,_⟩:=hv'.Ds
  exact aj (v:=a.eval x) hI (by simp [execOp,ho,e1]) h hv'
 ·have hx:=g0_
  have hv':=hv
  rw [hx] at hv'
  obtain ⟨vs,e1,_⟩:=hv'.yT
  exact aj (v:=a.eval x) hI (by simp [execOp,ho,e1]) h hv'
 ·have hx:=g0_
  have hv':=hv
  rw [hx] at hv'
  obtain ⟨vs,e1,_⟩:=hv'.Hp
  exact aj (v:=a.eval x) hI (by simp [execOp,ho,e1]) h hv'
 ·exact h.elim
theorem DQ (p q:Int):(p == q)=decide (p=q):=by by_cases h:p=q <;> simp [h]
theorem w6 (x y:ByteArray):(x.toList == y.toList)=decide (x=y):=by
 rw [ByteArray.toList_eq,ByteArray.toList_eq]
 by_cases hxy:x=y
 ·subst hxy; simp
 ·have:x.data.toList≠y.data.toList:=fun hh=>hxy (by cases x; cases y; congr 1; exact Array.toList_inj.1 hh)
  simp only [hxy,decide_false,beq_eq_false_iff_ne]
  exact this
theorem M1 {op:BinOp} {t t':TypeId} {x y:Operand} {x' y':AX} (hI:Inv W O S0 m S σ w) (hE:bq m S w e a.tmps) (ho:o.op=.binOp op t x y t') (h1:ax x=some x') (h2:ax y=some y')
  (h:ar (HC P) (.bin op x' y') e σ K):o.wp P a w (Good W O S0 m S w g0 o a K) Q:=by
 have hx:=aC hE h1
 have hy:=aC hE h2
 simp only [ar,iD] at h
 generalize g0_:x'.ev e=G0_ at h
 generalize g1_:y'.ev e=G1_ at h
 unfold pL at h
 split at h
 ·rename_i k p k' q
  have e1:=g0_
  have e2:=g1_
  rw [e1] at hx; rw [e2] at hy
  have hx:=hx.of_int
  have hy:=hy.of_int
  have hg:∀ op,(eqGuard op t x y (.int k p) (.int k' q)).run P w=.ok () w:=fun op=>by
   unfold eqGuard; cases op <;> rfl
  have hb:∀ {v:Value},(binOp op t (.int k p) (.int k' q)).run P w=.ok v w→(execOp a.eval o).run P w=.ok (.value v) w:=fun {v} hv=>by
   simp [execOp,ho,hx,hy,hg,hv]
  split at h
  ·obtain ⟨rfl,hK⟩:=h
   exact aj (hI:=hI) (hb (by simp [binOp,Op.intArith])) hK (.pure (.int _ _))
  ·obtain ⟨rfl,hK⟩:=h
   exact aj (hI:=hI) (hb (by simp [binOp,Op.intArith])) hK (.pure (.int _ _))
  ·obtain ⟨rfl,hK⟩:=h
   exact aj (hI:=hI) (hb (by simp [binOp,Op.intArith])) hK (.pure (.int _ _))
  ·obtain ⟨rfl,hq,hK⟩:=h
   exact aj (hI:=hI) (hb (by simp [binOp,Op.intDiv,hq])) hK (.pure (.int _ _))
  ·obtain ⟨rfl,hq,hK⟩:=h
   exact aj (hI:=hI) (hb (by simp [binOp,Op.intDiv,hq])) hK (.pure (.int _ _))
  ·obtain ⟨rfl,hK⟩:=h
   exact aj (hI:=hI) (v:=.bool (decide (p=q))) (hb (by simp [binOp,Op.intCmp,DQ])) hK (.pure (.bool _))
  ·obtain ⟨rfl,hK⟩:=h
   exact aj (hI:=hI) (v:=.bool (!decide (p=q))) (hb (by simp [binOp,Op.intCmp,bne,DQ])) hK (.pure (.bool _))
  ·obtain ⟨rfl,hK⟩:=h
   exact aj (hI:=hI) (v:=.bool (decide (p<q))) (hb (by simp [binOp,Op.intCmp])) hK (.pure (.bool _))
  ·obtain ⟨rfl,hK⟩:=h
   exact aj (hI:=hI) (v:=.bool (decide (p≤q))) (hb (by simp [binOp,Op.intCmp])) hK (.pure (.bool _))
  ·obtain ⟨rfl,hK⟩:=h
   exact aj (hI:=hI) (v:=.bool (decide (q<p))) (hb (by simp [binOp,Op.intCmp])) hK (.pure (.bool _))
  ·obtain ⟨rfl,hK⟩:=h
   exact aj (hI:=hI) (v:=.bool (decide (q≤p))) (hb (by simp [binOp,Op.intCmp])) hK (.pure (.bool _))
  ·exact h.elim
 ·rename_i p q
  have e1:=g0_
  have e2:=g1_
  rw [e1] at hx; rw [e2] at hy
  have hx:=hx.mH
  have hy:=hy.mH
  have hg:∀ op,(eqGuard op t x y (.string p) (.string q)).run P w=.ok () w:=fun op=>by
   unfold eqGuard; cases op <;> rfl
  split at h
  case h_4=>exact h.elim
  ·obtain ⟨hl,hK⟩:=h
   have hm:¬IntKind.i64.max<((p.size+q.size:Nat):Int):=by simp [IntKind.max,IntKind.signed,IntKind.bits]; omega
   exact aj (v:=.string (p++q)) hI (by simp [execOp,ho,hx,hy,hg,binOp,Op.stringOp]; simpa using hm) hK (.pure (.str _))
  ·exact aj (v:=.bool (decide (p=q))) hI (by simp [execOp,ho,hx,hy,hg,binOp,Op.stringOp,w6]) h (.pure (.bool _))
  ·exact aj (v:=.bool (!decide (p=q))) hI (by simp [execOp,ho,hx,hy,hg,binOp,Op.stringOp,w6]) h (.pure (.bool _))
 ·exact h.elim
theorem M0 {neg:Bool} {t t':TypeId} {x y:Operand} {x' y':AX} (hI:Inv W O S0 m S σ w) (hE:bq m S w e a.tmps) (ho:o.op=.binOp (if neg then .neq else .eql) t x y t')
  (hu:P.underlying t=some .bool) (h1:ax x=some x') (h2:ax y=some y') (h:ar (HC P) (.F9 neg x' y') e σ K):o.wp P a w (Good W O S0 m S w g0 o a K) Q:=by
 have hx:=aC hE h1
 have hy:=aC hE h2
 simp only [ar] at h
 generalize g0_:x'.ev e=G0_ at h
 generalize g1_:y'.ev e=G1_ at h
 unfold Fp at h
 split at h
 ·rename_i p q
  have e1:=g0_
  have e2:=g1_
  rw [e1] at hx; rw [e2] at hy
  have hx:=hx.of_bool
  have hy:=hy.of_bool
  have hg:∀ op,(eqGuard op t x y (.bool p) (.bool q)).run P w=.ok () w:=fun op=>by
   unfold eqGuard; cases op <;> rfl
  have he:=run_equal_bool (P:=P) w t p q hu
  cases neg with
  | true=>exact aj (v:=.bool (!decide (p=q))) hI (by simp [execOp,ho,hx,hy,hg,binOp,he]; cases p <;> cases q <;> rfl) h (.pure (.bool _))
  | false=>exact aj (v:=.bool (decide (p=q))) hI (by simp [execOp,ho,hx,hy,hg,binOp,he]; cases p <;> cases q <;> rfl) h (.pure (.bool _))
 ·exact h.elim
theorem Fq {k:Nat} {ks:List Nat} {x y:AV} {r s:List AV} {b:Bool} (h:yZ (k :: ks) (x :: r) (y :: s)=some b) :
  ∃ c b',b=(c&&b')∧yZ ks r s=some b'∧((k=0∧∃ K p q,x=.int K p∧y=.int K q∧c=decide (p=q))∨(k=1∧∃ p q,x=.bool p∧y=.bool q∧c=decide (p=q))∨(k=2∧∃ p q,x=.str p∧y=.str q∧c=decide (p=q))):=by
 unfold yZ at h
 split at h
 ·rename_i h1 h2 h3; cases h1
 ·rename_i h1 h2 h3; cases h1; cases h2; cases h3
  split at h
  ·rename_i hk
   obtain ⟨b',hb,rfl⟩:=Option.map_eq_some_iff.1 h
   exact ⟨_,b',rfl,hb,.inl ⟨rfl,_,_,_,rfl,by rw [hk],rfl⟩⟩
  ·cases h
 ·rename_i h1 h2 h3; cases h1; cases h2; cases h3
  obtain ⟨b',hb,rfl⟩:=Option.map_eq_some_iff.1 h
  exact ⟨_,b',rfl,hb,.inr (.inl ⟨rfl,_,_,rfl,rfl,rfl⟩)⟩
 ·rename_i h1 h2 h3; cases h1; cases h2; cases h3
  obtain ⟨b',hb,rfl⟩:=Option.map_eq_some_iff.1 h
  exact ⟨_,b',rfl,hb,.inr (.inr ⟨rfl,_,_,rfl,rfl,rfl⟩)⟩
 ·cases h
theorem Hz {cs ds:List AV} {b:Bool} (h:yZ [] cs ds=some b):b=true:=by
 unfold yZ at h
 split at h
 ·simpa using h.symm
 all_goals simp_all
theorem AE:∀ {ks1 ks2:List Nat} {cs ds:List AV} {b:Bool},yZ (ks1++ks2) cs ds=some b→
  ∃ b1 b2,b=(b1&&b2)∧yZ ks1 (cs.take ks1.length) (ds.take ks1.length)=some b1∧yZ ks2 (cs.drop ks1.length) (ds.drop ks1.length)=some b2∧ks1.length≤cs.length∧ks1.length≤ds.length
 | [],ks2,cs,ds,b,h=>⟨true,b,by simp,by simp [yZ],by simpa using h,by simp,by simp⟩
 | k :: ks1,ks2,cs,ds,b,h=>by
  cases cs with
  | nil=>simp [yZ] at h
  | cons c cs=>
   cases ds with
   | nil=>simp [yZ] at h
   | cons d ds=>
    obtain ⟨c0,b',rfl,hb',hcase⟩:=Fq h
    obtain ⟨b1,b2,rfl,h1,h2,h3,h4⟩:=AE hb'
    refine ⟨c0&&b1,b2,by simp [Bool.and_assoc],?_,by simpa using h2,by simpa using h3,by simpa using h4⟩
    simp only [List.length_cons,List.take_succ_cons]
    rcases hcase with ⟨rfl,K,p,q,rfl,rfl,rfl⟩ | ⟨rfl,p,q,rfl,rfl,rfl⟩ | ⟨rfl,p,q,rfl,rfl,rfl⟩ <;> simp [yZ,h1]
theorem si:∀ (d D:Nat) (t:TypeId) (ks:List Nat) (cs ds:List AV) (xs ys:Array Value) (b:Bool),d≤D→nF P d t=some ks→bR m S w cs xs.toList→bR m S w ds ys.toList→yZ ks cs ds=some b→
  (∀ fs,P.underlying t=some (.struct fs)→(Op.equalIn (D+1) t (.agg xs) (.agg ys)).run P w=.ok b w)∧
  ((∃ k,ks=[k]∧∀ fs,P.underlying t≠some (.struct fs))→∀ x y,xs=#[x]→ys=#[y]→(Op.equalIn (D+1) t x y).run P w=.ok b w)
 | 0,D,t,ks,cs,ds,xs,ys,b,hD,hk,hx,hy,h=>by simp [nF] at hk
 | d+1,D,t,ks,cs,ds,xs,ys,b,hD,hk,hx,hy,h=>by
  simp only [nF] at hk
  have one:∀ {k:Nat} {x y:Value},ks=[k]→xs=#[x]→ys=#[y]→(k=0∧∃ K p q,x=.int K p∧y=.int K q∧b=decide (p=q))∨(k=1∧∃ p q,x=.bool p∧y=.bool q∧b=decide (p=q))∨(k=2∧∃ p q,x=.string p∧y=.string q∧b=decide (p=q)):=by
   rintro k x y rfl rfl rfl
   obtain ⟨c,rfl⟩:∃ c,cs=[c]:=List.length_eq_one_iff.1 (by rw [←hx.1]; rfl)
   obtain ⟨e,rfl⟩:∃ e,ds=[e]:=List.length_eq_one_iff.1 (by rw [←hy.1]; rfl)
   obtain ⟨c0,b',rfl,hb',hcase⟩:=Fq h
   rw [Hz hb',Bool.and_true]
   have h1:=hx.2 0 c x rfl rfl
   have h2:=hy.2 0 e y rfl rfl
   rcases hcase with ⟨rfl,K,p,q,rfl,rfl,rfl⟩ | ⟨rfl,p,q,rfl,rfl,rfl⟩ | ⟨rfl,p,q,rfl,rfl,rfl⟩
   ·exact .inl ⟨rfl,K,p,q,h1.of_int,h2.of_int,rfl⟩
   ·exact .inr (.inl ⟨rfl,p,q,h1.of_bool,h2.of_bool,rfl⟩)
   ·exact .inr (.inr ⟨rfl,p,q,h1.mH,h2.mH,rfl⟩)
  obtain ⟨D',rfl⟩:∃ D',D=D'+1:=⟨D-1,by omega⟩
  split at hk
  ·rename_i kk hu
   cases hk
   refine ⟨fun fs hfs=>(by rw [hu] at hfs; cases hfs),fun _ x y ex ey=>?_⟩
   rcases one rfl ex ey with ⟨_,K,p,q,rfl,rfl,rfl⟩ | ⟨h0,_⟩ | ⟨h0,_⟩
   ·rw [run_equalIn_int w _ t K kk p q hu,DQ]
   ·cases h0
   ·cases h0
  ·rename_i hu
   cases hk
   refine ⟨fun fs hfs=>(by rw [hu] at hfs; cases hfs),fun _ x y ex ey=>?_⟩
   rcases one rfl ex ey with ⟨h0,_⟩ | ⟨_,p,q,rfl,rfl,rfl⟩ | ⟨h0,_⟩
   ·cases h0
   ·rw [run_equalIn_bool' w _ t p q hu]
    cases p <;> cases q <;> rfl
   ·cases h0
  ·rename_i hu
   cases hk
   refine ⟨fun fs hfs=>(by rw [hu] at hfs; cases hfs),fun _ x y ex ey=>?_⟩
   rcases one rfl ex ey with ⟨h0,_⟩ | ⟨h0,_⟩ | ⟨_,p,q,rfl,rfl,rfl⟩
   ·cases h0
   ·cases h0
   ·rw [run_equalIn_string w _ t p q hu,w6]
  ·rename_i fs hu
   split at hk
   ·cases hk
   ·rename_i hst
    simp only [Bool.not_eq_true] at hst
    refine ⟨fun fs' hfs=>?_,fun hh=>absurd hu (hh.choose_spec.2 fs)⟩
    have hfo:P.fieldsOf t=fs:=by simp [Program.fieldsOf,hu]
    have hut:P.underlying t=some (.struct (P.fieldsOf t)):=by rw [hfo]; exact hu
    rw [run_equalIn_agg w _ t xs ys hut hst,hfo]
    have key:∀ (fl:List Field) (i:Nat) (ks:List Nat) (b:Bool),AB P (nF P d) i fl=some ks→yZ ks (cs.drop i) (ds.drop i)=some b→(Op.eqFields (D'+1) xs ys fl).run P w=.ok b w:=by
     intro fl
     induction fl with
     | nil=>
      intro i ks b hp h
      simp only [AB,Option.some.injEq] at hp
      subst hp
      rw [Hz h]; simp [Op.eqFields]
     | cons f fl ih=>
      intro i ks b hp h
      simp only [AB] at hp
      split at hp
      ·rename_i hf
       simp only [Bool.and_eq_true,beq_iff_eq,Bool.not_eq_true',beq_eq_false_iff_ne] at hf
       obtain ⟨hoff,hname⟩:=hf
       split at hp
       ·rename_i k1 hk1
        split at hp
        ·rename_i hsz
         obtain ⟨ks',hks',rfl⟩:=Option.map_eq_some_iff.1 hp
         obtain ⟨b1,b2,rfl,h1,h2,h3,h4⟩:=AE h
         simp only [beq_iff_eq,Option.map_eq_some_iff] at hsz
         obtain ⟨fi,hfi,hfs⟩:=hsz
         rw [List.drop_drop] at h2
         rw [List.drop_drop] at h2
         have ih2:=ih (i+k1.length) ks' b2 hks' h2
         simp only [List.length_drop] at h3 h4
         have hxl:xs.size=cs.length:=by simpa using hx.1
         have hyl:ys.size=ds.length:=by simpa using hy.1
         have hx1:=(hx.drop i).take k1.length
         have hy1:=(hy.drop i).take k1.length
         have hrec:=si d D' f.type k1 ((cs.drop i).take k1.length) ((ds.drop i).take k1.length) (xs.extract i (i+k1.length)) (ys.extract i (i+k1.length)) b1 (by omega) hk1
          (by rw [Array.toList_extract]; simpa [List.extract] using hx1) (by rw [Array.toList_extract]; simpa [List.extract] using hy1) h1
         have hparts:∃ u v,(part f.type xs f.offset).run P w=.ok u w∧(part f.type ys f.offset).run P w=.ok v w∧(Op.equalIn (D'+1) f.type u v).run P w=.ok b1 w:=by
          have hud:∃ du,P.underlying f.type=some du:=by
           cases d with
           | zero=>simp [nF] at hk1
           | succ d=>
            simp only [nF] at hk1
            split at hk1 <;> first | exact ⟨_,‹_›⟩ | cases hk1
          obtain ⟨du,hdu⟩:=hud
          cases hag:bK du with
          | true=>
           refine ⟨.agg (xs.extract i (i+k1.length)),.agg (ys.extract i (i+k1.length)),by simp [part,fw hdu,hag,aP hfi,hfs,hoff],by simp [part,fw hdu,hag,aP hfi,hfs,hoff],?_⟩
           have:∃ gs,du=.struct gs:=by
            cases d with
            | zero=>simp [nF] at hk1
            | succ d=>
             simp only [nF] at hk1
             split at hk1 <;> (rename_i hq; rw [hdu] at hq; try (cases hq)) <;> first | (simp [bK] at hag; done) | exact ⟨_,rfl⟩ | cases hk1
           obtain ⟨gs,rfl⟩:=this
           exact hrec.1 gs hdu
          | false=>
           have bm:∃ k,k1=[k]∧∀ fs,P.underlying f.type≠some (.struct fs):=by
            cases d with
            | zero=>simp [nF] at hk1
            | succ d=>
             simp only [nF] at hk1
             split at hk1 <;> (rename_i hq; rw [hdu] at hq; try (cases hq)) <;> first | (simp [bK] at hag; done) | (cases hk1; exact ⟨_,rfl,fun fs hh=>by rw [hdu] at hh; cases hh⟩) | cases hk1
           obtain ⟨k,rfl,hns⟩:=bm
           simp only [List.length_singleton] at h3 h4 hrec
           have hlx:i<xs.size:=by omega
           have hly:i<ys.size:=by omega
           refine ⟨xs[i],ys[i],by simp [part,fw hdu,hag,hoff,hlx],by simp [part,fw hdu,hag,hoff,hly],?_⟩
           refine hrec.2 ⟨k,rfl,hns⟩ _ _ ?_ ?_
           ·apply Array.ext'; rw [Array.toList_extract]; simp [List.extract,List.take_one,List.head?_drop,hlx]
           ·apply Array.ext'; rw [Array.toList_extract]; simp [List.extract,List.take_one,List.head?_drop,hly]
         obtain ⟨u,v,hu1,hv1,hrun⟩:=hparts
         simp only [Op.eqFields,if_pos hname,Sem.run_bind,hu1,hv1,hrun,Result.andThen_ok]
         cases b1
         ·simp
         ·simpa using ih2
        ·cases hp
       ·cases hp
      ·cases hp
    exact key fs.toList 0 ks b hk (by simpa using h)
  ·cases hk
theorem MZ {neg:Bool} {t t':TypeId} {x y:Operand} {x' y':AX} {fs:Array Field} {ks:List Nat} (hI:Inv W O S0 m S σ w) (hE:bq m S w e a.tmps) (ho:o.op=.binOp (if neg then .neq else .eql) t x y t')
  (hu:P.underlying t=some (.struct fs)) (heg:P.eqGuardType P.depth t=false) (hpf:nF P 5 t=some ks) (h1:ax x=some x') (h2:ax y=some y') (h:ar (HC P) (.eqs neg ks x' y') e σ K) :
  o.wp P a w (Good W O S0 m S w g0 o a K) Q:=by
 have hx:=aC hE h1
 have hy:=aC hE h2
 simp only [ar] at h
 generalize g0_:x'.ev e=G0_ at h
 generalize g1_:y'.ev e=G1_ at h
 unfold BO at h
 split at h
 ·rename_i cs ds
  have e1:=g0_
  have e2:=g1_
  rw [e1] at hx; rw [e2] at hy
  obtain ⟨xs,ex,hx⟩:=hx.ov
  obtain ⟨ys,ey,hy⟩:=hy.ov
  obtain ⟨b,hb,hK⟩:=h
  have hr:(Op.equalIn 10000 t (.agg xs) (.agg ys)).run P w=.ok b w:=(si 5 9999 t ks cs ds xs ys b (by omega) hpf hx hy hb).1 fs hu
  cases neg with
  | true=>exact aj (v:=.bool (!b)) hI (by simp [execOp,ho,ex,ey,run_eqGuard_agg w _ t x y xs ys heg,run_neq_struct,hr]) hK (.pure (.bool _))
  | false=>exact aj (v:=.bool b) hI (by simp [execOp,ho,ex,ey,run_eqGuard_agg w _ t x y xs ys heg,run_eql_struct,hr]) hK (.pure (.bool _))
 ·exact h.elim
theorem To {op:UnOp} {t:TypeId} {x:Operand} {y:AX} (hI:Inv W O S0 m S σ w) (hE:bq m S w e a.tmps) (ho:o.op=.unOp op t x) (hc:ax x=some y) (h:ar (HC P) (.un op y) e σ K) :
  o.wp P a w (Good W O S0 m S w g0 o a K) Q:=by
 have hv:=aC hE hc
 simp only [ar] at h
 generalize g0_:y.ev e=G0_ at h
 unfold MX at h
 split at h
 ·have hx:=g0_
  rw [hx] at hv
  have hv:=hv.of_bool
  exact aj hI (by simp [execOp,ho,hv,Op.unary]) h (.pure (.bool _))
 ·have hx:=g0_
  rw [hx] at hv
  have hv:=hv.of_int
  exact aj hI (by simp only [execOp,ho,hv,Op.unary,Op.intArith]; rfl) h (.pure (.int _ _))
 ·exact h.elim
theorem Oo {s t:TypeId} {k k':IntKind} {x:Operand} {y:AX} (hI:Inv W O S0 m S σ w) (hE:bq m S w e a.tmps) (ho:o.op=.convert s t x) (hs:P.underlying s=some (.int k')) (ht:P.underlying t=some (.int k))
  (hc:ax x=some y) (h:ar (HC P) (.conv k y) e σ K):o.wp P a w (Good W O S0 m S w g0 o a K) Q:=by
 have hv:=aC hE hc
 simp only [ar] at h
 generalize g0_:y.ev e=G0_ at h
 unfold AI at h
 split at h
 ·have hx:=g0_
  rw [hx] at hv
  have hv:=hv.of_int
  exact aj hI (by simp [execOp,ho,hv,convert,run_underlying hs,run_underlying ht,Conv.intToInt]) h (.pure (.int _ _))
 ·exact h.elim
theorem Ra {f:Nat} {caps:Array Operand} {ys:List AX} (hI:Inv W O S0 m S σ w) (hE:bq m S w e a.tmps) (ho:o.op=.makeFunc (.func f) #[] caps) (hc:Cf caps.toList=some ys) (h:ar (HC P) (.H9 f ys) e σ K) :
  o.wp P a w (Good W O S0 m S w g0 o a K) Q:=by
 have hv:=iF hE hc
 exact aj (v:=.func (.func f) #[] (caps.map a.eval)) hI (by simp [execOp,ho,Instr.makeFunc]) h (VR.LN (by simpa [qp] using hv))
theorem Q8 {f:Nat} {fs:Array Operand} {ys:List AX} (hI:Inv W O S0 m S σ w) (hE:bq m S w e a.tmps) (ho:o.op=.makeFunc (.func f) fs #[]) (hc:Cf fs.toList=some ys) (h:ar (HC P) (.LM f ys) e σ K) :
  o.wp P a w (Good W O S0 m S w g0 o a K) Q:=by
 have hv:=iF hE hc
 obtain ⟨hp,h⟩:=h
 refine aj (v:=.func (.func f) (fs.map a.eval) #[]) hI (by simp [execOp,ho,Instr.makeFunc]) h (.pure (.qe (by simpa [qp] using hv.1) fun j y v hy hu=>?_))
 exact (hv.2 j y v hy (by simpa using hu)).cL (hp y (List.mem_of_getElem? hy))
theorem Tp {t:TypeId} {x:Operand} {y:AX} {fields:Array Field} {n:Nat} {f:Field} {i:TypeInfo} (hI:Inv W O S0 m S σ w) (hE:bq m S w e a.tmps) (ho:o.op=.fieldAddr t x n)
  (hu:P.underlying t=some (.struct fields)) (hf:fields[n]?=some f) (hi:P.info? f.type=some i) (hp:0<i.size) (hc:ax x=some y) (h:ar (HC P) (.fa f.offset y) e σ K) :
  o.wp P a w (Good W O S0 m S w g0 o a K) Q:=by
 have hv:=aC hE hc
 have hne:¬i.size=0:=by omega
 simp only [ar] at h
 generalize g0_:y.ev e=G0_ at h
 unfold L4 at h
 split at h
 ·rename_i id g es ix off
  have hx:=g0_
  rw [hx] at hv
  obtain ⟨b,len,cap,hm,e1⟩:=hv.wo
  refine aj (v:=.pointer (some ⟨b,ix * es+(off+f.offset),none⟩)) hI ?_ h (VR.ptr hm)
  simp [execOp,ho,e1,Instr.fieldAt,run_underlying hu,hf,Instr.sureAddr,fieldPlace,aP hi,hne,Addr.add_lit,Nat.add_assoc]
 ·rename_i es l ix off
  have hx:=g0_
  rw [hx] at hv
  obtain ⟨b,q,e1,hh⟩:=hv.Ds
  refine aj (v:=.pointer (some ⟨b,q+(off+f.offset),none⟩)) hI ?_ h (hh _)
  simp [execOp,ho,e1,Instr.fieldAt,run_underlying hu,hf,Instr.sureAddr,fieldPlace,aP hi,hne,Addr.add_lit,Nat.add_assoc]
 ·exact h.elim
theorem Rg {x:Operand} {y:AX} {i:Nat} (hI:Inv W O S0 m S σ w) (hE:bq m S w e a.tmps) (ho:o.op=.extract x i) (hc:ax x=some y) (h:ar (HC P) (.ext y i) e σ K) :
  o.wp P a w (Good W O S0 m S w g0 o a K) Q:=by
 have hv:=aC hE hc
 simp only [ar] at h
 generalize g0_:y.ev e=G0_ at h
 unfold uS at h
 split at h
 ·rename_i vs
  have hx:=g0_
  rw [hx] at hv
  obtain ⟨us,e1,hus⟩:=hv.p8
  obtain ⟨v,hv',hK⟩:=h
  obtain ⟨u,hu,hr⟩:=hus.get hv'
  have hu':us[i]?=some u:=by simpa using hu
  exact aj (v:=u) hI (by simp [execOp,ho,e1,Instr.extract,hu']) hK hr
 ·exact h.elim
end
end Go.Ab
