/- OWN WORK, put together by tools/asm.py, seat.py, mini.py. -/
import Derived.Test.YtcpckngdfjmbgaaGreatBaseM
import Derived.IntWalk
namespace Go.Ab
section
variable {P : Program} {H : eC} {e : Nat → AV} {σ : St} {C : AV → St → Prop} {k : (Nat → AV) → St → Prop} {Q : iR}
@[go_sem] theorem T9 (s:Nat):AX.ev e (.t s)=e s:=(rfl)
@[go_sem] theorem Ua (v:AV):AX.ev e (.c v)=v:=(rfl)
@[go_sem] theorem OW:pW e []=[]:=(rfl)
@[go_sem] theorem Nh (x:AX) (l:List AX):pW e (x :: l)=x.ev e :: pW e l:=(rfl)
@[go_sem] theorem Nk:C2 e none=none:=(rfl)
@[go_sem] theorem Nj (x:AX):C2 e (some x)=some (x.ev e):=(rfl)
@[go_sem] theorem OX:JU e []=[]:=(rfl)
@[go_sem] theorem Ni (a b:Nat) (x:AX) (l:List (Nat × Nat × AX)):JU e ((a,b,x) :: l)=(a,b,x.ev e) :: JU e l:=(rfl)
@[go_sem] theorem SZ {α:Type} (f:Nat→α) (i j:Nat) (x:α):aZ f i x j=if j=i then x else f j:=(rfl)
def lP:Nat→AV:=fun _=>.bA
@[go_sem] theorem PX:lB []=lP:=by funext j; simp [lB,lP]
@[go_sem] theorem PW (a:AV):lB [a]=aZ lP 0 a:=by funext j; match j with | 0=>rfl | j+1=>simp [lB,lP,aZ]
@[go_sem] theorem PV (a b:AV):lB [a,b]=aZ (aZ lP 1 b) 0 a:=by funext j; match j with | 0=>rfl | 1=>rfl | j+2=>simp [lB,lP,aZ]
@[go_sem] theorem PU (a b c:AV):lB [a,b,c]=aZ (aZ (aZ lP 2 c) 1 b) 0 a:=by funext j; match j with | 0=>rfl | 1=>rfl | 2=>rfl | j+3=>simp [lB,lP,aZ]
@[go_sem] theorem PT (a b c d:AV):lB [a,b,c,d]=aZ (aZ (aZ (aZ lP 3 d) 2 c) 1 b) 0 a:=by funext j; match j with | 0=>rfl | 1=>rfl | 2=>rfl | 3=>rfl | j+4=>simp [lB,lP,aZ]
@[go_sem] theorem PS (a b c d f:AV):lB [a,b,c,d,f]=aZ (aZ (aZ (aZ (aZ lP 4 f) 3 d) 2 c) 1 b) 0 a:=by funext j; match j with | 0=>rfl | 1=>rfl | 2=>rfl | 3=>rfl | 4=>rfl | j+5=>simp [lB,lP,aZ]
@[go_sem] theorem PR (a b c d f g:AV):lB [a,b,c,d,f,g]=aZ (aZ (aZ (aZ (aZ (aZ lP 5 g) 4 f) 3 d) 2 c) 1 b) 0 a:=by funext j; match j with | 0=>rfl | 1=>rfl | 2=>rfl | 3=>rfl | 4=>rfl | 5=>rfl | j+6=>simp [lB,lP,aZ]
@[go_sem] theorem RU (d:Nat) (v:AV):bG e (some d) v=aZ e d v:=(rfl)
@[go_sem] theorem LG (v:AV):bG e none v=e:=(rfl)
@[go_sem] theorem R6 (d:Option Nat) (v:AV):F5 k e d v σ=k (bG e d v) σ:=(rfl)
@[go_sem] theorem MG:runs H [] k e σ=k e σ:=(rfl)
@[go_sem] theorem LF (d:Option Nat) (op:aN) (af:List Nat) (r:List aR):runs H (⟨d,op,none,af⟩ :: r) k e σ=ak H op e σ (F5 (runs H r k) e d):=(rfl)
@[go_sem] theorem J1 (d:Option Nat) (op:aN) (af:List Nat) (r:List aR) (s:Nat) (w:Bool) :
  runs H (⟨d,op,some (s,w),af⟩ :: r) k e σ=sK s w (F3 H op d (runs H r k)) (sY d (runs H r k)) (e s) e σ:=rfl
@[go_sem] theorem PH (op:aN) (d:Option Nat):F3 H op d k e σ=ak H op e σ (F5 k e d):=(rfl)
@[go_sem] theorem PG (d:Option Nat):sY d k e σ=k (bG e d (.tuple [])) σ:=(rfl)
section
variable (s : Nat) (A B : (Nat → AV) → St → Prop)
@[go_sem] theorem RZ (w:Bool):sK s w A B (.tuple []) e σ=B e σ:=by simp [sK]
@[go_sem] theorem Rk:sK s true A B (.bool true) e σ=A e σ:=by simp [sK]
@[go_sem] theorem Rn:sK s false A B (.bool false) e σ=A e σ:=by simp [sK]
@[go_sem] theorem Rl:sK s true A B (.bool false) e σ=B e σ:=by simp [sK]
@[go_sem] theorem Rm:sK s false A B (.bool true) e σ=B e σ:=by simp [sK]
theorem Ek {s:Nat} {b w:Bool} {A B:(Nat→AV)→St→Prop} (h:e s=.bool b) (hA:b=w→A (aZ e s (.bool w)) σ) (hB:b=(!w)→B (aZ e s (.bool !w)) σ):sK s w A B (.bool b) e σ:=by
 have key:∀ {c:Bool},b=c→aZ e s (.bool c)=e:=fun {c} hc=>by
  funext j
  by_cases hj:j=s
  ·subst hj; rw [ay,h,hc]
  ·rw [aa _ _ _ _ hj]
 exact ⟨fun hb=>by have:=hA hb; rwa [key hb] at this,fun hb=>by have:=hB hb; rwa [key hb] at this⟩
end
theorem K8 {s:Nat} {b:Bool} {A B:(Nat→AV)→St→Prop} (h:e s=.bool b) (hA:b=true→A (aZ e s (.bool true)) σ) (hB:b=false→B (aZ e s (.bool false)) σ):sK s true A B (.bool b) e σ:=Ek h hA hB
theorem QG {s:Nat} {b:Bool} {A B:(Nat→AV)→St→Prop} (h:e s=.bool b) (hB:b=true→B (aZ e s (.bool true)) σ) (hA:b=false→A (aZ e s (.bool false)) σ):sK s false A B (.bool b) e σ:=Ek h hA hB
theorem bB {s:Nat} {p:Prop} [Decidable p] {A B:(Nat→AV)→St→Prop} (h:e s=.bool (decide p)) (hA:p→A (aZ e s (.bool true)) σ) (hB:¬p→B (aZ e s (.bool false)) σ):sK s true A B (.bool (decide p)) e σ:=
 K8 h (fun h=>hA (of_decide_eq_true h)) (fun h=>hB (of_decide_eq_false h))
theorem bC {s:Nat} {p:Prop} [Decidable p] {A B:(Nat→AV)→St→Prop} (h:e s=.bool (decide p)) (hB:p→B (aZ e s (.bool true)) σ) (hA:¬p→A (aZ e s (.bool false)) σ):sK s false A B (.bool (decide p)) e σ:=
 QG h (fun h=>hB (of_decide_eq_true h)) (fun h=>hA (of_decide_eq_false h))
theorem uj {s:Nat} {p:Prop} [Decidable p] {A B:(Nat→AV)→St→Prop} (h:e s=.bool (!decide p)) (hB:¬p→B (aZ e s (.bool true)) σ) (hA:p→A (aZ e s (.bool false)) σ):sK s false A B (.bool (!decide p)) e σ:=
 QG h (fun h=>hB (by simpa using h)) (fun h=>hA (by simpa using h))
@[go_sem] theorem S5 (a b:az):jh H (.seq a b) Q e σ=jh H a (Bn (jh H b Q) Q) e σ:=(rfl)
@[go_sem] theorem MF:Bn k Q .iK e σ=k e σ:=(rfl)
@[go_sem] theorem ME:Bn k Q .ret e σ=Q .ret e σ:=(rfl)
@[go_sem] theorem LD (i:Nat):Bn k Q (.exit i) e σ=Q (.exit i) e σ:=(rfl)
@[go_sem] theorem LC:Bn k Q .iK=k:=(rfl)
@[go_sem] theorem Ko (id:Nat):jj id Q .iK e σ=Q .iK e σ:=(rfl)
@[go_sem] theorem Km (id:Nat):jj id Q .ret e σ=Q .ret e σ:=(rfl)
@[go_sem] theorem JP (id i:Nat):jj id Q (.exit i) e σ=if i=id then Q .iK e σ else Q (.exit i) e σ:=(rfl)
@[go_sem] theorem LM (n r:Nat) (I:Nat→(Nat→AV)→St→Prop):sh n r I Q .iK e σ=∃ k',k' < r∧∃ nt,n≤nt∧I k' e (σ.aC nt):=(rfl)
@[go_sem] theorem J4 (n r i:Nat) (I:Nat→(Nat→AV)→St→Prop):sh n r I Q (.exit i) e σ=Q (.exit i) e σ:=(rfl)
def TD (nn n:Nat) (J:Nat→(Nat→AV)→St→Prop) (i:Nat) (e:Nat→AV) (σ:St):Prop:=σ.n=nn∧∃ r,r≤n∧i=n-r∧J r e σ
def RJ (nn n r:Nat) (J:Nat→(Nat→AV)→St→Prop) (Q:iR):iR:=sh nn (n-r) (TD nn n J) Q
theorem bt {nn n r:Nat} {J:Nat→(Nat→AV)→St→Prop} (h:r<n) (hJ:J (r+1) e (σ.aC nn)):RJ nn n r J Q .iK e σ:=⟨n-(r+1),by omega,nn,Nat.le_refl _,rfl,r+1,h,rfl,hJ⟩
@[go_sem] theorem Oz (nn n r:Nat) (J:Nat→(Nat→AV)→St→Prop):RJ nn n r J Q .ret e σ=Q .ret e σ:=(rfl)
@[go_sem] theorem My (nn n r i:Nat) (J:Nat→(Nat→AV)→St→Prop):RJ nn n r J Q (.exit i) e σ=Q (.exit i) e σ:=(rfl)
@[go_sem] theorem Pu (ops:List aR):jh H (.region ops none) Q e σ=runs H ops (Q .iK) e σ:=by simp [jh,NP]
@[go_sem] theorem OD (ops:List aR) (k:Nat):jh H (.region ops (some k)) Q e σ=fY H σ.n σ.c k ops 0 (Q .iK) [] [] e σ:=by simp [jh,NP]
section
variable {n0 c0 k0 p n c : Nat} {R V : List (Nat × Nat)} {af : List Nat} {kk : List (Nat × Nat) → List (Nat × Nat) → AV → St → Prop} {kd : List (Nat × Nat) → List (Nat × Nat) → (Nat → AV) → St → Prop} {ob : Nat → Option aS}
@[go_sem] theorem LZ:fY H n0 c0 k0 [] p k R V e σ=k e ⟨σ.ob,n0+k0,c0+k0⟩:=(rfl)
@[go_sem] theorem Ke (d:Option Nat) (op:aN) (r:List aR):fY H n0 c0 k0 (⟨d,op,none,af⟩ :: r) p k R V e σ=sZ H op af R V p (n0+p) (c0+p) (Cd (fY H n0 c0 k0 r (p+1) k) e d) e σ.ob:=(rfl)
@[go_sem] theorem JO (d:Option Nat) (op:aN) (r:List aR) (s:Nat) (w:Bool) :
  fY H n0 c0 k0 (⟨d,op,some (s,w),af⟩ :: r) p k R V e σ=sK s w (DG H op d af R V p (n0+p) (c0+p) (fY H n0 c0 k0 r (p+1) k)) (sY d (fY H n0 c0 k0 r (p+1) k R V)) (e s) e σ:=rfl
@[go_sem] theorem O4 (op:aN) (d:Option Nat):DG H op d af R V p n c kd e σ=sZ H op af R V p n c (Cd kd e d) e σ.ob:=(rfl)
@[go_sem] theorem Rs (d:Option Nat) (v:AV):Cd kd e d R V v σ=kd R V (bG e d v) σ:=(rfl)
@[go_sem] theorem OB:tag p []=[]:=(rfl)
@[go_sem] theorem MA (i:Nat) (l:List Nat):tag p (i :: l)=(p,i) :: tag p l:=(rfl)
@[go_sem] theorem J3 (l:List Nat):bu af [] l=True:=by simp [bu]
@[go_sem] theorem JH (V:List (Nat × Nat)):bu af V []=True:=by simp [bu]
@[go_sem] theorem JI (q i j:Nat) (l:List Nat):bu af ((q,i) :: V) (j :: l)=((q∈af∨i∉j :: l)∧bu af V (j :: l)):=by
 unfold bu
 rw [List.forall_mem_cons,eq_iff_iff]
 refine and_congr (or_congr (by simp) ?_) Iff.rfl
 constructor
 ·intro h hm; exact h i hm rfl
 ·intro h k hk he; exact h (by have he:i=k:=he; rw [he]; exact hk)
@[go_sem] theorem PY (x:AX):sZ H (.mv x) af R V p n c kk e ob=ak H (.mv x) e ⟨ob,n,c⟩ (kk R V):=by simp [sZ,aN.bX,aN.oR,pY,aN.nd,aN.dM,aN.lE,bu,tag]
@[go_sem] theorem Nl (x a b:AX):sZ H (.pick x a b) af R V p n c kk e ob=ak H (.pick x a b) e ⟨ob,n,c⟩ (kk R V):=by simp [sZ,aN.bX,aN.oR,pY,aN.nd,aN.dM,aN.lE,bu,tag]
@[go_sem] theorem Kf (x:AX):sZ H (.aY x) af R V p n c kk e ob=ak H (.aY x) e ⟨ob,n,c⟩ (kk R V):=by simp [sZ,aN.bX,aN.oR,pY,aN.nd,aN.dM,aN.lE,bu,tag]
@[go_sem] theorem O3 (o:BinOp) (x y:AX):sZ H (.bin o x y) af R V p n c kk e ob=ak H (.bin o x y) e ⟨ob,n,c⟩ (kk R V):=by simp [sZ,aN.bX,aN.oR,pY,aN.nd,aN.dM,aN.lE,bu,tag]
@[go_sem] theorem PZ (o:Nat) (x:AX):sZ H (.fa o x) af R V p n c kk e ob=ak H (.fa o x) e ⟨ob,n,c⟩ (kk R V):=by simp [sZ,aN.bX,aN.oR,pY,aN.nd,aN.dM,aN.lE,bu,tag]
@[go_sem] theorem O1 (x:AX):sZ H (.len x) af R V p n c kk e ob=ak H (.len x) e ⟨ob,n,c⟩ (kk R V):=by simp [sZ,aN.bX,aN.oR,pY,aN.nd,aN.dM,aN.lE,bu,tag]
@[go_sem] theorem Nm (ag:Bool) (sz:Nat) (x:AX):sZ H (.load ag sz x) af R V p n c kk e ob=(bu af V (x.ev e).kx∧ak H (.load ag sz x) e ⟨ob,n,c⟩ (kk (R++tag p (x.ev e).kx) V)):=by simp [sZ,aN.bX,aN.oR,pY,aN.nd,aN.dM,aN.lE,bu,tag]
@[go_sem] theorem O2 (es:Nat) (x i:AX):sZ H (.cg es x i) af R V p n c kk e ob=(bu af V (x.ev e).kx∧ak H (.cg es x i) e ⟨ob,n,c⟩ (kk (R++tag p (x.ev e).kx) V)):=by simp [sZ,aN.bX,aN.oR,pY,aN.nd,aN.dM,aN.lE,bu,tag]
@[go_sem] theorem O0 (mu:Bool) (es:Nat) (ty:TypeId) (l:List AX):sZ H (.lit mu es ty l) af R V p n c kk e ob=(bu af V [n]∧bu af R [n]∧ak H (.lit mu es ty l) e ⟨ob,n,c⟩ (kk R (V++[(p,n)]))):=by simp [sZ,aN.bX,aN.oR,pY,aN.nd,aN.dM,aN.lE,tag]
@[go_sem] theorem Pw (id g es o m:Nat):AV.kx (.sl id g es o m)=[id]:=(rfl)
@[go_sem] theorem OK (id g es o m:Nat):AV.kx (.ptr id g es o m)=[id]:=(rfl)
@[go_sem] theorem MS (es o m:Nat) (l:List AV):AV.kx (.eG es l o m)=[]:=(rfl)
@[go_sem] theorem MT (es:Nat) (l:List AV):AV.kx (.list es l)=[]:=(rfl)
@[go_sem] theorem L0:sZ H .mV af R V p n c kk e ob=(bu af V [n]∧bu af R [n]∧ak H .mV e ⟨ob,n,c⟩ (kk R (V++[(p,n)]))):=by simp [sZ,aN.bX,aN.oR,pY,aN.nd,aN.dM,aN.lE,tag]
@[go_sem] theorem Kg (x k v:AX):sZ H (.cZ x k v) af R V p n c kk e ob=dmap (x.ev e) (k.ev e) (v.ev e) af R V p n c kk ob:=(rfl)
@[go_sem] theorem R4 (id g:Nat) (kq:IntKind) (q:Int) (v:AV):dmap (.ja id g) (.int kq q) v af R V p n c kk ob=(v.one=true∧cn af V id∧cn af R id∧∃ o,ob id=some o∧o.g=g∧o.ro=false∧cK kq o.l=true∧mq q o.l=none∧
   kk R (V++[(xt+p,id)]) .bA ⟨aZ ob id (some { o with l:=eg kq q v o.l }),n,c⟩):=(rfl)
@[go_sem] theorem JJ (id:Nat):cn af [] id=True:=by simp [cn]
@[go_sem] theorem HG (q i id:Nat):cn af ((q,i) :: V) id=((q∈af∨i≠id∨xt≤q)∧cn af V id):=by simp [cn]
end
section
variable {p : Nat} {d : Option Nat} {af : List Nat} {R : List (Nat × Nat)} {kk : List (Nat × Nat) → (Nat → AV) → St → Prop} {ob ob' : Nat → Option aS} {v : AV} {τ : St} {L : List HS}
@[go_sem] theorem MB:cD p []=[]:=(rfl)
@[go_sem] theorem LB (i:Nat) (l:List Nat):cD p (i :: l)=(p,i) :: cD p l:=(rfl)
@[go_sem] theorem LU:dS af [] ob ob'=True:=by simp [dS]
@[go_sem] theorem Kd (q i:Nat):dS af ((q,i) :: R) ob ob'=((q∈af∨ob' i=ob i)∧dS af R ob ob'):=by simp [dS]
@[go_sem] theorem Kc:dS af R ob ob=True:=by simp [dS]
@[go_sem] theorem Tm:Bq kk R e d σ v τ=kk R (bG e d v) σ:=(rfl)
@[go_sem] theorem Tn:JC kk af R e d ob v τ=(dS af R ob τ.ob∧kk R (bG e d v) τ):=(rfl)
@[go_sem] theorem Ri (op:aN):JA H p op d af kk R e σ=bm H p op d af kk R e σ:=(rfl)
@[go_sem] theorem Rj:JB d kk R e σ=kk R (bG e d (.tuple [])) σ:=(rfl)
@[go_sem] theorem LN:dI H [] k R e σ=k e σ:=(rfl)
@[go_sem] theorem J6 (op:aN):dI H (⟨p,⟨d,op,none,af⟩⟩ :: L) k R e σ=bm H p op d af (dI H L k) R e σ:=(rfl)
@[go_sem] theorem JL (op:aN) (s:Nat) (w:Bool):dI H (⟨p,⟨d,op,some (s,w),af⟩⟩ :: L) k R e σ=sK s w (JA H p op d af (dI H L k) R) (JB d (dI H L k) R) (e s) e σ:=(rfl)
@[go_sem] theorem OQ:jh H (.aE L) Q e σ=dI H L (Q .iK) [] e σ:=(rfl)
@[go_sem] theorem OT (x:AX):bm H p (.mv x) d af kk R e σ=ak H (.mv x) e σ (Bq kk R e d σ):=by simp [bm,aN.lt,aN.new,aN.nd,aN.dM,cD]
@[go_sem] theorem LP (x a b:AX):bm H p (.pick x a b) d af kk R e σ=ak H (.pick x a b) e σ (Bq kk R e d σ):=by simp [bm,aN.lt,aN.new,aN.nd,aN.dM,cD]
@[go_sem] theorem Ka (zs:List AV) (ps:List (Nat × Nat × AX)):bm H p (.build zs ps) d af kk R e σ=ak H (.build zs ps) e σ (Bq kk R e d σ):=by simp [bm,aN.lt,aN.new,aN.nd,aN.dM,cD]
@[go_sem] theorem JM (x:AX):bm H p (.aY x) d af kk R e σ=ak H (.aY x) e σ (Bq kk R e d σ):=by simp [bm,aN.lt,aN.new,aN.nd,aN.dM,cD]
@[go_sem] theorem Na (o:BinOp) (x y:AX):bm H p (.bin o x y) d af kk R e σ=ak H (.bin o x y) e σ (Bq kk R e d σ):=by simp [bm,aN.lt,aN.new,aN.nd,aN.dM,cD]
@[go_sem] theorem M8 (g:Bool) (ks:List Nat) (x y:AX):bm H p (.eqs g ks x y) d af kk R e σ=ak H (.eqs g ks x y) e σ (Bq kk R e d σ):=by simp [bm,aN.lt,aN.new,aN.nd,aN.dM,cD]
@[go_sem] theorem OR (u:UnOp) (x:AX):bm H p (.un u x) d af kk R e σ=ak H (.un u x) e σ (Bq kk R e d σ):=by simp [bm,aN.lt,aN.new,aN.nd,aN.dM,cD]
@[go_sem] theorem M4 (f:Nat) (l:List AX):bm H p (.G7 f l) d af kk R e σ=ak H (.G7 f l) e σ (Bq kk R e d σ):=by simp [bm,aN.lt,aN.new,aN.nd,aN.dM,cD]
@[go_sem] theorem OU (o:Nat) (x:AX):bm H p (.fa o x) d af kk R e σ=ak H (.fa o x) e σ (Bq kk R e d σ):=by simp [bm,aN.lt,aN.new,aN.nd,aN.dM,cD]
@[go_sem] theorem M7 (x:AX) (i:Nat):bm H p (.ext x i) d af kk R e σ=ak H (.ext x i) e σ (Bq kk R e d σ):=by simp [bm,aN.lt,aN.new,aN.nd,aN.dM,cD]
@[go_sem] theorem M5 (x:AX):bm H p (.len x) d af kk R e σ=ak H (.len x) e σ (Bq kk R e d σ):=by simp [bm,aN.lt,aN.new,aN.nd,aN.dM,cD]
@[go_sem] theorem LR (x:AX):bm H p (.lens x) d af kk R e σ=ak H (.lens x) e σ (Bq kk R e d σ):=by simp [bm,aN.lt,aN.new,aN.nd,aN.dM,cD]
@[go_sem] theorem M3 (g:Bool) (x:AX) (l:List AX):bm H p (.AQ g x l) d af kk R e σ=ak H (.AQ g x l) e σ (Bq kk R e d σ):=by simp [bm,aN.lt,aN.new,aN.nd,aN.dM,cD]
@[go_sem] theorem LO (x:AX) (lo hi:Option AX):bm H p (.te x lo hi) d af kk R e σ=ak H (.te x lo hi) e σ (Bq kk R e d σ):=by simp [bm,aN.lt,aN.new,aN.nd,aN.dM,cD]
@[go_sem] theorem OS (q:Jz) (l:List AX):bm H p (.pu q l) d af kk R e σ=ak H (.pu q l) e σ (Bq kk R e d σ):=by simp [bm,aN.lt,aN.new,aN.nd,aN.dM,cD]
@[go_sem] theorem LQ (ag:Bool) (sz:Nat) (x:AX):bm H p (.load ag sz x) d af kk R e σ=ak H (.load ag sz x) e σ (Bq kk (R++cD p (x.ev e).kx) e d σ):=by simp [bm,aN.lt,aN.new,aN.nd,aN.dM,cD]
@[go_sem] theorem M6 (es:Nat) (x i:AX):bm H p (.cg es x i) d af kk R e σ=ak H (.cg es x i) e σ (Bq kk (R++cD p (x.ev e).kx) e d σ):=by simp [bm,aN.lt,aN.new,aN.nd,aN.dM,cD]
@[go_sem] theorem M1 (es:Nat) (x:AX) (lo hi:Option AX):bm H p (.qI es x lo hi) d af kk R e σ=ak H (.qI es x lo hi) e σ (Bq kk (R++cD p (x.ev e).kx) e d σ):=by simp [bm,aN.lt,aN.new,aN.nd,aN.dM,cD]
@[go_sem] theorem J7 (sz:Nat) (x v:AX):bm H p (.store sz x v) d af kk R e σ=ak H (.store sz x v) e σ (JC kk af R e d σ.ob):=by simp [bm,aN.lt]
@[go_sem] theorem Kb (es:Nat) (ty:TypeId) (z:AV):bm H p (.alloc es ty z) d af kk R e σ=ak H (.alloc es ty z) e σ (JC kk af R e d σ.ob):=by simp [bm,aN.lt,aN.new,aN.nd]
@[go_sem] theorem J8 (es:Nat) (ty:TypeId) (l:List AX):bm H p (.lit true es ty l) d af kk R e σ=ak H (.lit true es ty l) e σ (JC kk af R e d σ.ob):=by simp [bm,aN.lt,aN.new]
@[go_sem] theorem J9 (es:Nat) (ty:TypeId) (l:List AX):bm H p (.lit false es ty l) d af kk R e σ=ak H (.lit false es ty l) e σ (Bq kk R e d σ):=by simp [bm,aN.lt,aN.dM,cD]
@[go_sem] theorem Nb (es b:Nat) (ty:TypeId) (x y:AX):bm H p (.app es b ty x y) d af kk R e σ=ak H (.app es b ty x y) e σ (JC kk af R e d σ.ob):=by simp [bm,aN.lt,aN.new,aN.nd]
@[go_sem] theorem LS (f:Nat) (l:List AX):bm H p (.call f l) d af kk R e σ=ak H (.call f l) e σ (JC kk af R e d σ.ob):=by simp [bm,aN.lt]
@[go_sem] theorem M9 (es:Nat) (x y:AX):bm H p (.E5 es x y) d af kk R e σ=ak H (.E5 es x y) e σ (JC kk af R e d σ.ob):=by simp [bm,aN.lt,aN.new,aN.nd]
@[go_sem] theorem JN (ok:Bool) (z:AV) (x q:AX):bm H p (.fj ok z x q) d af kk R e σ=ak H (.fj ok z x q) e σ (JC kk af R e d σ.ob):=by simp [bm,aN.lt,aN.new,aN.nd]
end
@[go_sem] theorem R7 (c:AX) (a b:az):jh H (.cond c a b) Q e σ=pZ (c.ev e) (jh H a Q) (jh H b Q) e σ:=(rfl)
@[go_sem] theorem L4 (A B:(Nat→AV)→St→Prop):pZ (.bool true) A B e σ=A e σ:=by simp [pZ]
@[go_sem] theorem Kh (A B:(Nat→AV)→St→Prop):pZ (.bool false) A B e σ=B e σ:=by simp [pZ]
theorem FO {b:Bool} {A B:(Nat→AV)→St→Prop} (hA:b=true→A e σ) (hB:b=false→B e σ):pZ (.bool b) A B e σ:=⟨hA,hB⟩
theorem aj {p:Prop} [Decidable p] {A B:(Nat→AV)→St→Prop} (hA:p→A e σ) (hB:¬p→B e σ):pZ (.bool (decide p)) A B e σ:=⟨fun h=>hA (of_decide_eq_true h),fun h=>hB (of_decide_eq_false h)⟩
theorem bn {p:Prop} [Decidable p] {A B:(Nat→AV)→St→Prop} (hA:¬p→A e σ) (hB:p→B e σ):pZ (.bool (!decide p)) A B e σ:=⟨fun h=>hA (by simpa using h),fun h=>hB (by simpa using h)⟩
@[go_sem] theorem Ry (id:Nat) (a:az):jh H (.block id a) Q e σ=jh H a (jj id Q) e σ:=(rfl)
@[go_sem] theorem R0 (id:Nat):jh H (.exit id) Q e σ=Q (.exit id) e σ:=(rfl)
@[go_sem] theorem S6:jh H .ret Q e σ=Q .ret e σ:=(rfl)
@[go_sem] theorem RR:jh H .skip Q e σ=Q .iK e σ:=(rfl)
@[go_sem] theorem MH (rs:List RS) (R:AV→St→Prop):Lz rs R .ret e σ=sm e σ rs (fun r=>R r σ):=(rfl)
@[go_sem] theorem Ps (s:Nat) (K:AV→Prop):vg e σ (.t s) K=K (e s):=(rfl)
@[go_sem] theorem Q2 (s:RS) (K:AV→Prop):sm e σ [s] K=vg e σ s K:=(rfl)
@[go_sem] theorem Q1 (s t:Nat) (K:AV→Prop):sm e σ [.t s,.t t] K=K (.tuple [e s,e t]):=(rfl)
@[go_sem] theorem Q0 (s t u:Nat) (K:AV→Prop):sm e σ [.t s,.t t,.t u] K=K (.tuple [e s,e t,e u]):=(rfl)
@[go_sem] theorem QZ (s t u v:Nat) (K:AV→Prop):sm e σ [.t s,.t t,.t u,.t v] K=K (.tuple [e s,e t,e u,e v]):=(rfl)
def Mi (t:Nat) (e:Nat→AV) (K:AV→Prop) (a:AV):Prop:=K (.tuple [a,e t])
def Mh (t u:Nat) (e:Nat→AV) (K:AV→Prop) (a:AV):Prop:=K (.tuple [a,e t,e u])
@[go_sem] theorem Q5 (t:Nat) (K:AV→Prop) (a:AV):Mi t e K a=K (.tuple [a,e t]):=(rfl)
@[go_sem] theorem Q4 (t u:Nat) (K:AV→Prop) (a:AV):Mh t u e K a=K (.tuple [a,e t,e u]):=(rfl)
@[go_sem] theorem Po (s:Nat) (ag:Bool) (sz t:Nat) (K:AV→Prop):sm e σ [.c s ag sz,.t t] K=vg e σ (.c s ag sz) (Mi t e K):=(rfl)
@[go_sem] theorem Pm (s:Nat) (ag:Bool) (sz t u:Nat) (K:AV→Prop):sm e σ [.c s ag sz,.t t,.t u] K=vg e σ (.c s ag sz) (Mh t u e K):=(rfl)
def w7 (e:Nat→AV) (σ:St) (rs:List RS) (acc:List AV) (K:AV→Prop) (a:AV):Prop:=GZ e σ rs fun l=>K (BF (acc++a :: l))
@[go_sem] theorem Pl (s:Nat) (ag:Bool) (sz:Nat) (s':Nat) (ag':Bool) (sz':Nat) (r:List RS) (K:AV→Prop):sm e σ (.c s ag sz :: .c s' ag' sz' :: r) K=vg e σ (.c s ag sz) (w7 e σ (.c s' ag' sz' :: r) [] K):=(rfl)
@[go_sem] theorem Pj (s s':Nat) (ag':Bool) (sz':Nat) (r:List RS) (K:AV→Prop):sm e σ (.t s :: .c s' ag' sz' :: r) K=w7 e σ (.c s' ag' sz' :: r) [] K (e s):=(rfl)
@[go_sem] theorem Pk (s:Nat) (ag:Bool) (sz:Nat) (t u v:Nat) (r:List RS) (K:AV→Prop):sm e σ (.c s ag sz :: .t t :: .t u :: .t v :: r) K=vg e σ (.c s ag sz) (w7 e σ (.t t :: .t u :: .t v :: r) [] K):=(rfl)
@[go_sem] theorem Pr (acc:List AV) (K:AV→Prop) (a:AV):w7 e σ [] acc K a=K (BF (acc++[a])):=(rfl)
@[go_sem] theorem Pp (s:Nat) (r:List RS) (acc:List AV) (K:AV→Prop) (a:AV):w7 e σ (.t s :: r) acc K a=w7 e σ r (acc++[a]) K (e s):=by simp only [w7,GZ,vg,List.append_assoc,List.cons_append,List.nil_append]
@[go_sem] theorem Pq (s:Nat) (ag:Bool) (sz:Nat) (r:List RS) (acc:List AV) (K:AV→Prop) (a:AV):w7 e σ (.c s ag sz :: r) acc K a=vg e σ (.c s ag sz) (w7 e σ r (acc++[a]) K):=by
 have:(fun b=>w7 e σ r (acc++[a]) K b)=fun b=>GZ e σ r fun l=>K (BF (acc++a :: b :: l)):=by funext b; simp only [w7,List.append_assoc,List.cons_append,List.nil_append]
 show _=vg e σ (.c s ag sz) (fun b=>w7 e σ r (acc++[a]) K b)
 rw [this]; rfl
@[go_sem] theorem Ra (a b:AV) (l:List AV):BF (a :: b :: l)=.tuple (a :: b :: l):=(rfl)
@[go_sem] theorem Pt (s:Nat) (ag:Bool) (sz:Nat) (K:AV→Prop):vg e σ (.c s ag sz) K=Gf ag sz σ K (e s):=(rfl)
@[go_sem] theorem Q3 (ag:Bool) (sz id g es i off:Nat) (K:AV→Prop):Gf ag sz σ K (.ptr id g es i off)=∃ o,σ.ob id=some o∧o.g=g∧o.es=es∧off+sz≤es∧∃ y,o.l[i]?=some y∧K (sub ag sz off y):=(rfl)
@[go_sem] theorem TV (x:AX):ak H (.mv x) e σ C=C (x.ev e) σ:=(rfl)
@[go_sem] theorem RW (c a b:AX):ak H (.pick c a b) e σ C=pw (c.ev e) (a.ev e) (b.ev e) σ C:=(rfl)
@[go_sem] theorem LJ (a b:AV):pw (.bool true) a b σ C=C a σ:=by simp [pw]
@[go_sem] theorem J2 (a b:AV):pw (.bool false) a b σ C=C b σ:=by simp [pw]
@[go_sem] theorem RB (es:Nat) (ty:TypeId) (z:AV):ak H (.alloc es ty z) e σ C=C (.ptr σ.n σ.c es 0 0) (σ.push es ty [z]):=(rfl)
@[go_sem] theorem Tx (es:Nat) (ty:TypeId) (x:AX):ak H (.box es ty x) e σ C=Oi es ty (x.ev e) σ C:=(rfl)
@[go_sem] theorem R9 (es:Nat) (ty:TypeId) (v:AV):Oi es ty v σ C=(v.flat=true∧v.cells.length=es∧C (.ptr σ.n σ.c es 0 0) (σ.push es ty [v])):=(rfl)
@[go_sem] theorem Rx (zs:List AV) (ps:List (Nat × Nat × AX)):ak H (.build zs ps) e σ C=zT zs (JU e ps) σ C:=(rfl)
@[go_sem] theorem P4 (zs:List AV) (ps:List (Nat × Nat × AV)):zT zs ps σ C=((∀ p∈ps,p.2.2.flat=true∧p.2.2.cells.length=p.2.1∧p.1+p.2.1≤zs.length)∧C (.agg (zF zs (ps.map fun p=>(p.1,p.2.2)))) σ):=(rfl)
@[go_sem] theorem Ti (mu:Bool) (es:Nat) (ty:TypeId) (xs:List AX):ak H (.lit mu es ty xs) e σ C=FA mu es ty (pW e xs) σ C:=(rfl)
@[go_sem] theorem PB (es:Nat) (ty:TypeId) (vs:List AV):FA false es ty vs σ C=((∀ v∈vs,v.flat=true∧v.cells.length=es∧v.cG=true)∧C (.list es vs) σ):=by simp [FA]
@[go_sem] theorem PA (es:Nat) (ty:TypeId) (vs:List AV):FA true es ty vs σ C=((∀ v∈vs,v.flat=true∧v.cells.length=es)∧C (.sl σ.n σ.c es 0 vs.length) (σ.push es ty vs)):=by simp [FA]
@[go_sem] theorem RX (ag:Bool) (sz:Nat) (x:AX):ak H (.load ag sz x) e σ C=uc ag sz (x.ev e) σ C:=(rfl)
@[go_sem] theorem OO (ag:Bool) (sz id g es i off:Nat):uc ag sz (.ptr id g es i off) σ C=∃ o,σ.ob id=some o∧o.g=g∧o.es=es∧off+sz≤es∧∃ y,o.l[i]?=some y∧C (sub ag sz off y) σ:=(rfl)
@[go_sem] theorem ON (ag:Bool) (sz es i off:Nat) (l:List AV):uc ag sz (.eG es l i off) σ C=(off+sz≤es∧∃ y,l[i]?=some y∧C (sub ag sz off y) σ):=(rfl)
@[go_sem] theorem QW (sz:Nat) (x v:AX):ak H (.store sz x v) e σ C=si sz (x.ev e) (v.ev e) σ C:=(rfl)
@[go_sem] theorem Pa (sz id g es i off:Nat) (v:AV):si sz (.ptr id g es i off) v σ C=∃ o,σ.ob id=some o∧o.g=g∧o.es=es∧o.ro=false∧v.flat=true∧v.cells.length=sz∧off+sz≤es∧
   ∃ y,o.l[i]?=some y∧C .bA (σ.put id o (o.l.set i (iG off v y))):=rfl
@[go_sem] theorem Px (x:AX):ak H (.aY x) e σ C=iz (x.ev e) σ C:=(rfl)
@[go_sem] theorem MU (id g es i off:Nat):iz (.ptr id g es i off) σ C=C (.ptr id g es i off) σ:=(rfl)
@[go_sem] theorem Tz (op:BinOp) (x y:AX):ak H (.bin op x y) e σ C=jg op (x.ev e) (y.ev e) σ C:=(rfl)
section
variable (K : IntKind) (a b : Int)
@[go_sem] theorem TC:jg .add (.int K a) (.int K b) σ C=C (.int K (K.wrap (a+b))) σ:=by simp [jg,qo]
@[go_sem] theorem S3:jg .sub (.int K a) (.int K b) σ C=C (.int K (K.wrap (a-b))) σ:=by simp [jg,qo]
@[go_sem] theorem Tb:jg .mul (.int K a) (.int K b) σ C=C (.int K (K.wrap (a * b))) σ:=by simp [jg,qo]
@[go_sem] theorem S7:jg .rem (.int K a) (.int K b) σ C=(b≠0∧C (.int K (a.tmod b)) σ):=by simp [jg,qo]
@[go_sem] theorem Tt:jg .eql (.int K a) (.int K b) σ C=C (.bool (decide (a=b))) σ:=by simp [jg,qo]
@[go_sem] theorem Ta:jg .neq (.int K a) (.int K b) σ C=C (.bool (!decide (a=b))) σ:=by simp [jg,qo]
@[go_sem] theorem Th:jg .lss (.int K a) (.int K b) σ C=C (.bool (decide (a<b))) σ:=by simp [jg,qo]
@[go_sem] theorem Tj:jg .leq (.int K a) (.int K b) σ C=C (.bool (decide (a≤b))) σ:=by simp [jg,qo]
@[go_sem] theorem To:jg .gtr (.int K a) (.int K b) σ C=C (.bool (decide (b<a))) σ:=by simp [jg,qo]
@[go_sem] theorem Tp:jg .geq (.int K a) (.int K b) σ C=C (.bool (decide (b≤a))) σ:=by simp [jg,qo]
end
@[go_sem] theorem Sc (a b:ByteArray):jg .add (.str a) (.str b) σ C=(a.size+b.size≤9223372036854775807∧C (.str (a++b)) σ):=by simp [jg,qo]
@[go_sem] theorem Tu (neg:Bool) (x y:AX):ak H (.Hx neg x y) e σ C=Er neg (x.ev e) (y.ev e) σ C:=(rfl)
@[go_sem] theorem PQ (a b:Bool):Er false (.bool a) (.bool b) σ C=C (.bool (decide (a=b))) σ:=(rfl)
@[go_sem] theorem PO (a b:Bool):Er true (.bool a) (.bool b) σ C=C (.bool (!decide (a=b))) σ:=(rfl)
@[go_sem] theorem Ts (g:Bool) (ks:List Nat) (x y:AX):ak H (.eqs g ks x y) e σ C=AT g ks (x.ev e) (y.ev e) σ C:=(rfl)
@[go_sem] theorem PN (ks:List Nat) (cs ds:List AV):AT false ks (.agg cs) (.agg ds) σ C=∃ b,x6 ks cs ds=some b∧C (.bool b) σ:=by simp [AT]
@[go_sem] theorem PM (ks:List Nat) (cs ds:List AV):AT true ks (.agg cs) (.agg ds) σ C=∃ b,x6 ks cs ds=some b∧C (.bool (!b)) σ:=by simp [AT]
@[go_sem] theorem OY:x6 [] [] []=some true:=(rfl)
@[go_sem] theorem OZ (ks:List Nat) (K:IntKind) (a b:Int) (r s:List AV):x6 (0 :: ks) (.int K a :: r) (.int K b :: s)=(x6 ks r s).map fun t=>decide (a=b)&&t:=by simp [x6]
@[go_sem] theorem TS (op:UnOp) (x:AX):ak H (.un op x) e σ C=L8 op (x.ev e) σ C:=(rfl)
@[go_sem] theorem S9 (b:Bool):L8 .not (.bool b) σ C=C (.bool (!b)) σ:=(rfl)
@[go_sem] theorem R5 (K:IntKind) (x:AX):ak H (.conv K x) e σ C=zM K (x.ev e) σ C:=(rfl)
@[go_sem] theorem Ru (K K':IntKind) (n:Int):zM K (.int K' n) σ C=C (.int K (K.wrap n)) σ:=(rfl)
@[go_sem] theorem Te (f:Nat) (l:List AX):ak H (.G7 f l) e σ C=C (.func f (pW e l)) σ:=(rfl)
@[go_sem] theorem Td (f:Nat) (l:List AX):ak H (.KZ f l) e σ C=((∀ z∈pW e l,z.cG=true)∧C (.pN f (pW e l)) σ):=(rfl)
@[go_sem] theorem P2 (f:Nat) (fs args:List AV):mB H (.pN f fs) args σ C=H f (fs++args) σ C:=(rfl)
@[go_sem] theorem MJ (f:Nat) (l:List AV):AV.cG (.pN f l)=true:=(rfl)
@[go_sem] theorem TY (off:Nat) (x:AX):ak H (.fa off x) e σ C=Ld off (x.ev e) σ C:=(rfl)
@[go_sem] theorem Rq (off id g es i o:Nat):Ld off (.ptr id g es i o) σ C=C (.ptr id g es i (o+off)) σ:=(rfl)
@[go_sem] theorem Ro (off es i o:Nat) (l:List AV):Ld off (.eG es l i o) σ C=C (.eG es l i (o+off)) σ:=(rfl)
@[go_sem] theorem Tl (es:Nat) (x i:AX):ak H (.cg es x i) e σ C=vP es (x.ev e) (i.ev e) σ C:=(rfl)
@[go_sem] theorem PD (es id g off n:Nat) (K:IntKind) (ix:Int):vP es (.sl id g es off n) (.int K ix) σ C=((∃ o,σ.ob id=some o∧o.g=g)∧0≤ix∧ix<n∧C (.ptr id g es (off+ix.toNat) 0) σ):=by simp [vP]
@[go_sem] theorem PE (es:Nat) (l:List AV) (K:IntKind) (ix:Int):vP es (.list es l) (.int K ix) σ C=(0≤ix∧ix<l.length∧C (.eG es l ix.toNat 0) σ):=by simp [vP]
@[go_sem] theorem Tq (x:AX) (i:Nat):ak H (.ext x i) e σ C=uo (x.ev e) i σ C:=(rfl)
@[go_sem] theorem PL (a:AV) (l:List AV):uo (.tuple (a :: l)) 0 σ C=C a σ:=by simp [uo]
@[go_sem] theorem PK (a b:AV) (l:List AV):uo (.tuple (a :: b :: l)) 1 σ C=C b σ:=by simp [uo]
@[go_sem] theorem PJ (a b c:AV) (l:List AV):uo (.tuple (a :: b :: c :: l)) 2 σ C=C c σ:=by simp [uo]
@[go_sem] theorem PI (a b c d:AV) (l:List AV):uo (.tuple (a :: b :: c :: d :: l)) 3 σ C=C d σ:=by simp [uo]
@[go_sem] theorem Tk (x:AX):ak H (.len x) e σ C=gE (x.ev e) σ C:=(rfl)
@[go_sem] theorem Re:gE .nil σ C=C (.int .i64 0) σ:=(rfl)
@[go_sem] theorem Rf (es:Nat) (l:List AV):gE (.list es l) σ C=C (.int .i64 l.length) σ:=(rfl)
@[go_sem] theorem Rd (id g es off n:Nat):gE (.sl id g es off n) σ C=C (.int .i64 n) σ:=(rfl)
@[go_sem] theorem Rg (id g es off n c:Nat):gE (.fG id g es off n c) σ C=C (.int .i64 n) σ:=(rfl)
@[go_sem] theorem RY (x:AX):ak H (.lens x) e σ C=yZ (x.ev e) σ C:=(rfl)
@[go_sem] theorem Rb (s:ByteArray):yZ (.str s) σ C=C (.int .i64 s.size) σ:=(rfl)
@[go_sem] theorem TB (es b:Nat) (ty:TypeId) (x y:AX):ak H (.app es b ty x y) e σ C=mE es b ty (x.ev e) (y.ev e) σ C:=(rfl)
@[go_sem] theorem DN (es b:Nat) (ty:TypeId) (id g n:Nat) (l:List AV):mE es b ty (.sl id g es 0 n) (.list es l) σ C=∃ o,σ.ob id=some o∧o.g=g∧o.es=es∧o.ty=ty∧o.ro=false∧o.ap=true∧o.l.length=n∧
     n+l.length≤maxLen∧(n+l.length) * b≤140737488355328∧C (.sl id σ.c es 0 (n+l.length)) (σ.renew id o (o.l++l)):=by simp [mE,bW]
theorem iF (es b:Nat) (ty:TypeId) (l:List AV):mE es b ty .nil (.list es l) σ C=(l.length≤maxLen∧l.length * b≤140737488355328∧(l=[]→C .nil σ)∧(l≠[]→C (.sl σ.n σ.c es 0 l.length) (σ.push es ty l))):=by simp [mE,bW]
@[go_sem] theorem Tc (mx:Bool) (x:AX) (xs:List AX):ak H (.AQ mx x xs) e σ C=CS mx (x.ev e) (pW e xs) σ C:=(rfl)
@[go_sem] theorem Q8 (mx:Bool) (a:AV):CS mx a [] σ C=C a σ:=(rfl)
@[go_sem] theorem Tg (K:IntKind) (a b:Int) (l:List AV):CS true (.int K a) (.int K b :: l) σ C=CS true (.int K (max a b)) l σ C:=by simp [CS,eQ]
@[go_sem] theorem Tf (K:IntKind) (a b:Int) (l:List AV):CS false (.int K a) (.int K b :: l) σ C=CS false (.int K (min a b)) l σ C:=by simp [CS,eQ]
@[go_sem] theorem S4 (es:Nat) (x:AX) (lo hi:Option AX):ak H (.qI es x lo hi) e σ C=iT es (x.ev e) (C2 e lo) (C2 e hi) σ C:=(rfl)
@[go_sem] theorem RQ (x:AX) (lo hi:Option AX):ak H (.te x lo hi) e σ C=td (x.ev e) (C2 e lo) (C2 e hi) σ C:=(rfl)
section
variable (es : Nat) (l : List AV) (K K' : IntKind) (p q : Int)
@[go_sem] theorem Pc (s:ByteArray) (hi:Int):td (.str s) none (some (.int K hi)) σ C=(0≤hi∧hi≤s.size∧C (.str (s.extract 0 hi.toNat)) σ):=(rfl)
@[go_sem] theorem Pb (s:ByteArray) (lo:Int):td (.str s) (some (.int K lo)) none σ C=(0≤lo∧lo≤s.size∧C (.str (s.extract lo.toNat s.size)) σ):=(rfl)
@[go_sem] theorem Pd (s:ByteArray) (lo hi:Int):td (.str s) (some (.int K lo)) (some (.int K' hi)) σ C=(0≤lo∧lo≤hi∧hi≤s.size∧C (.str (s.extract lo.toNat hi.toNat)) σ):=(rfl)
@[go_sem] theorem QY (hi:Int):iT es (.list es l) none (some (.int K hi)) σ C=(0≤hi∧hi≤l.length∧C (.list es (l.take hi.toNat)) σ):=by simp [iT,eD,od]
@[go_sem] theorem QX (lo:Int):iT es (.list es l) (some (.int K lo)) none σ C=(0≤lo∧lo≤l.length∧C (.list es (l.drop lo.toNat)) σ):=by simp [iT,eD,od]
@[go_sem] theorem Pe (id g off n:Nat) (lo:Int):iT es (.sl id g es off n) (some (.int K lo)) none σ C=((∃ o,σ.ob id=some o∧o.g=g)∧0≤lo∧lo≤n∧(lo.toNat=n→C (.list es []) σ)∧(lo.toNat<n→C (.sl id g es (off+lo.toNat) (n-lo.toNat)) σ)):=by simp [iT,eD,od]
@[go_sem] theorem Pf (id g off n:Nat) (hi:Int):iT es (.sl id g es off n) none (some (.int K hi)) σ C=((∃ o,σ.ob id=some o∧o.g=g)∧0≤hi∧hi≤n∧(0=hi.toNat→C (.list es []) σ)∧(0<hi.toNat→C (.sl id g es off hi.toNat) σ)):=by simp [iT,eD,od]
end
section
variable (es id g off n c : Nat) (K K' : IntKind) (p q : Int)
@[go_sem] theorem Ph:iT es (.fG id g es off n c) none (some (.int K q)) σ C=(off+n≤c∧0≤q∧q≤(c-off:Nat)∧(0=c-off→C (.list es []) σ)∧(0<c-off→C (.fG id g es off q.toNat c) σ)):=by simp [iT,eD,wh]
@[go_sem] theorem Pg:iT es (.fG id g es off n c) (some (.int K p)) none σ C=(off+n≤c∧0≤p∧p≤n∧(p.toNat=c-off→C (.list es []) σ)∧(p.toNat<c-off→C (.fG id g es (off+p.toNat) (n-p.toNat) c) σ)):=by simp [iT,eD,wh]
end
@[go_sem] theorem TT (p:Jz) (l:List AX):ak H (.pu p l) e σ C=Ml p (pW e l) σ C:=(rfl)
section
variable (K K' : IntKind) (a b : Int)
@[go_sem] theorem Ty (op:BinOp):Ml (.bit op) [.int K a,.int K' b] σ C=∃ v,AU op K a K' b=some v∧C v σ:=(rfl)
@[go_sem] theorem RT (s:ByteArray):Ml .Fb [.str s,.int K a] σ C=∃ v,(if 0≤a then (s[a.toNat]?).map fun b=>AV.int .u8 b.toNat else none)=some v∧C v σ:=(rfl)
@[go_sem] theorem Sb (ag:Bool) (es n:Nat) (cs:List AV):Ml (.Hr ag es n) [.agg cs,.int K a] σ C=(0≤a∧a<n∧(a.toNat+1) * es≤cs.length∧C (sub ag es (a.toNat * es) (.agg cs)) σ):=by simp [Ml,Ie,and_assoc]
end
@[go_sem] theorem P1 (id g es off n c:Nat):Ml .Df [.fG id g es off n c] σ C=C (.int .i64 ((c-off:Nat):Int)) σ:=by simp [Ml,Ie]
@[go_sem] theorem Rh (g:Bool) (x:AX):ak H (.kK g x) e σ C=zj g (x.ev e) σ C:=(rfl)
theorem ue {g:Bool} {es:Nat} {l:List AV} (h0:l=[]→C (.bool true) σ∧C (.bool false) σ) (h1:l≠[]→C (.bool g) σ):zj g (.list es l) σ C:=by
 cases l with
 | nil=>exact h0 rfl
 | cons a l=>exact h1 (by simp)
@[go_sem] theorem Q9:ak H .mV e σ C=C (.ja σ.n σ.c) ⟨aZ σ.ob σ.n (some ⟨σ.c,2,rA,false,false,[]⟩),σ.n+1,σ.c+1⟩:=(rfl)
@[go_sem] theorem Py (x q v:AX):ak H (.cZ x q v) e σ C=qx (x.ev e) (q.ev e) (v.ev e) σ C:=(rfl)
@[go_sem] theorem OL (id g:Nat) (kk:IntKind) (n:Int) (v:AV):qx (.ja id g) (.int kk n) v σ C=(v.one=true∧∃ o,σ.ob id=some o∧o.g=g∧o.ro=false∧cK kk o.l=true∧C .bA (σ.put id o (eg kk n v o.l))):=(rfl)
@[go_sem] theorem Pz (ok:Bool) (z:AV) (x q:AX):ak H (.fj ok z x q) e σ C=ub ok z (x.ev e) (q.ev e) σ C:=(rfl)
@[go_sem] theorem OM (ok:Bool) (z:AV) (id g:Nat) (kk:IntKind) (n:Int):ub ok z (.ja id g) (.int kk n) σ C=∃ o,σ.ob id=some o∧o.g=g∧cK kk o.l=true∧C (tZ ok z (mq n o.l)) σ:=(rfl)
@[go_sem] theorem MY (z:AV):tZ true z none=.tuple [z,.bool false]:=(rfl)
@[go_sem] theorem M0 (z:AV):tZ false z none=z:=(rfl)
@[go_sem] theorem MX (z x:AV):tZ true z (some x)=.tuple [x,.bool true]:=(rfl)
@[go_sem] theorem MZ (z x:AV):tZ false z (some x)=x:=(rfl)
@[go_sem] theorem MW (n:Int):mq n []=none:=(rfl)
@[go_sem] theorem LL (kk:IntKind) (n a:Int) (x:AV) (l:List AV):mq n (.agg [.int kk a,x] :: l)=if n=a then some x else mq n l:=(rfl)
@[go_sem] theorem MV (kk:IntKind) (n:Int) (v:AV):eg kk n v []=[.agg [.int kk n,v]]:=(rfl)
@[go_sem] theorem LK (k kk:IntKind) (n a:Int) (x v:AV) (l:List AV):eg k n v (.agg [.int kk a,x] :: l)=if n=a then .agg [.int k n,v] :: l else if n<a then .agg [.int k n,v] :: .agg [.int kk a,x] :: l else .agg [.int kk a,x] :: eg k n v l:=(rfl)
@[go_sem] theorem J5 (kk:IntKind):cK kk []=true:=(rfl)
@[go_sem] theorem JK (kk:IntKind) (a:Int) (x:AV) (l:List AV):cK kk (.agg [.int kk a,x] :: l)=cK kk l:=by simp [cK,wM]
@[go_sem] theorem Tv (es:Nat) (x y:AX):ak H (.E5 es x y) e σ C=Dc es (x.ev e) (y.ev e) σ C:=(rfl)
@[go_sem] theorem Rt (es id g off n:Nat) (l:List AV):Dc es (.sl id g es off n) (.list es l) σ C=∃ o,σ.ob id=some o∧o.g=g∧o.es=es∧o.ro=false∧off+n≤o.l.length∧
     C (.int .i64 (min l.length n:Nat)) (σ.put id o (o.l.take off++l.take n++o.l.drop (off+min l.length n))):=by
 simp [Dc,I9,bW]
@[go_sem] theorem P0 (es id g off n c:Nat) (l:List AV):Dc es (.fG id g es off n c) (.list es l) σ C=(0<min l.length n∧∃ o,σ.ob id=some o∧o.g=g∧o.es=es∧o.ro=false∧off≤o.l.length∧
     C (.int .i64 (min l.length n:Nat)) (σ.put id o (o.l.take off++l.take n++o.l.drop (off+min l.length n)))):=by simp [Dc,I9,bW]
theorem Oh {es id g off n c id2 g2 off2 n2 c2:Nat} (h:0<min n2 n∧∃ o2,σ.ob id2=some o2∧o2.g=g2∧o2.es=es∧off2+min n2 n≤o2.l.length∧
   ∃ o,σ.ob id=some o∧o.g=g∧o.es=es∧o.ro=false∧off≤o.l.length∧C (.int .i64 (min n2 n:Nat)) (σ.put id o (o.l.take off++(o2.l.drop off2).take (min n2 n)++o.l.drop (off+min n2 n)))) :
  Dc es (.fG id g es off n c) (.fG id2 g2 es off2 n2 c2) σ C:=.inl ⟨rfl,rfl,h⟩
theorem Og {es id g off n id2 g2 off2 n2 c2:Nat} (h:∃ o2,σ.ob id2=some o2∧o2.g=g2∧o2.es=es∧off2+n2≤o2.l.length∧∃ o,σ.ob id=some o∧o.g=g∧o.es=es∧o.ro=false∧off+n≤o.l.length∧
     C (.int .i64 (min ((o2.l.drop off2).take n2).length n:Nat)) (σ.put id o (o.l.take off++((o2.l.drop off2).take n2).take n++o.l.drop (off+min ((o2.l.drop off2).take n2).length n)))) :
  Dc es (.sl id g es off n) (.fG id2 g2 es off2 n2 c2) σ C:=by
 obtain ⟨o2,a1,a2,a3,a4,h⟩:=h
 refine .inr ⟨?_,?_,o2,a1,a2,a3,a4,rfl,h⟩
 ·intro _ _ h; cases h
 ·intro _ _ _ _ _ h; rcases h with h | ⟨_,h⟩ <;> cases h; rfl
@[go_sem] theorem Tw (es:Nat) (z:AV) (x:AX):ak H (.JV es z x) e σ C=Hl es z (x.ev e) σ C:=(rfl)
@[go_sem] theorem Rv (es id g off n:Nat) (z:AV):Hl es z (.sl id g es off n) σ C=∃ o,σ.ob id=some o∧o.g=g∧o.es=es∧o.ro=false∧off+n≤o.l.length∧
   C (.tuple []) (σ.put id o (o.l.take off++List.replicate n z++o.l.drop (off+n))):=by simp [Hl]
@[go_sem] theorem TA (x:AX):ak H (.Hy x) e σ C=xN (x.ev e) σ C:=(rfl)
@[go_sem] theorem RA (l:List AV):xN (.list 1 l) σ C=∃ s,oc l=some s∧C (.str ⟨s.toArray⟩) σ:=by simp [xN,bW]
@[go_sem] theorem Rz (id g off n:Nat):xN (.sl id g 1 off n) σ C=∃ o,σ.ob id=some o∧o.g=g∧o.es=1∧off+n≤o.l.length∧∃ s,oc ((o.l.drop off).take n)=some s∧C (.str ⟨s.toArray⟩) σ:=by
 simp only [xN,bW,eq_iff_iff]
 refine ⟨fun h=>h.2.2,fun h=>⟨?_,?_,h⟩⟩
 ·intro _ _ h; cases h
 ·intro _ _ _ _ _ h; rcases h with h | ⟨_,h⟩ <;> cases h; rfl
@[go_sem] theorem Sa (es b:Nat) (ty:TypeId) (z:AV) (x y:AX):ak H (.Aj es b ty z x y) e σ C=EV es b ty z (x.ev e) (y.ev e) σ C:=(rfl)
theorem Ok {es b:Nat} {ty:TypeId} {z:AV} {id g off n0 c:Nat} {K:IntKind} {n:Int} (h:0<n∧c-off<n0+n.toNat∧n0+n.toNat≤9223372036854775807∧(n0+n.toNat) * b≤140737488355328∧
   ∃ o,σ.ob id=some o∧o.g=g∧o.es=es∧off+n0≤o.l.length∧C (.sl σ.n σ.c es 0 (n0+n.toNat)) (σ.push es ty ((o.l.drop off).take n0++List.replicate n.toNat z))) :
  EV es b ty z (.fG id g es off n0 c) (.int K n) σ C:=⟨rfl,h⟩
@[go_sem] theorem OC (s t:ByteArray):(AV.str s=AV.str t)=(s=t):=by simp
@[go_sem] theorem Q7 (es:Nat) (ty:TypeId):ak H (.fp es ty) e σ C=C (.sl σ.n σ.c es 0 0) (σ.push es ty []):=(rfl)
@[go_sem] theorem R8 (f:Nat) (l:List AX):ak H (.call f l) e σ C=H f (pW e l) σ C:=(rfl)
@[go_sem] theorem Rw (x:AX) (l:List AX):ak H (.dz x l) e σ C=mB H (x.ev e) (pW e l) σ C:=(rfl)
@[go_sem] theorem P3 (f:Nat) (caps args:List AV):mB H (.func f caps) args σ C=H f (args++caps) σ C:=(rfl)
theorem o7:maxLen=9223372036854775807:=by simp [maxLen]
theorem iD {α:Type} {i j:Nat} {a b:α} (h:¬i=j):(if i=j then a else b)=b:=if_neg h
theorem iE {α:Type} {i j:Nat} {a b:α} (h:i<j):(if i<j then a else b)=a:=if_pos h
@[go_sem] theorem Rr:St.empty=⟨fun _=>none,0,0⟩:=(rfl)
@[go_sem] theorem RV (ob:Nat→Option aS) (n c es:Nat) (ty:TypeId) (l:List AV):(St.mk ob n c).push es ty l=⟨aZ ob n (some ⟨c,es,ty,false,true,l⟩),n+1,c+1⟩:=(rfl)
@[go_sem] theorem S8 (ob:Nat→Option aS) (n c id:Nat) (g es:Nat) (ty:TypeId) (ro ap:Bool) (l0 l:List AV):(St.mk ob n c).put id ⟨g,es,ty,ro,ap,l0⟩ l=⟨aZ ob id (some ⟨g,es,ty,ro,ap,l⟩),n,c⟩:=(rfl)
@[go_sem] theorem Q6 (ob:Nat→Option aS) (n c id:Nat) (g es:Nat) (ty:TypeId) (ro ap:Bool) (l0 l:List AV):(St.mk ob n c).renew id ⟨g,es,ty,ro,ap,l0⟩ l=⟨aZ ob id (some ⟨c,es,ty,ro,ap,l⟩),n,c+1⟩:=(rfl)
@[go_sem] theorem QT (ob:Nat→Option aS) (n c k:Nat):(St.mk ob n c).aC k=⟨fun i=>if i<k then ob i else none,k,c⟩:=(rfl)
@[go_sem] theorem QU (sz off:Nat) (y:AV):sub true sz off y=.agg ((y.cells.drop off).take sz):=(rfl)
@[go_sem] theorem QV (sz off:Nat) (y:AV):sub false sz off y=y.cells.getD off .bA:=(rfl)
@[go_sem] theorem MD (off:Nat) (v:AV) (cs:List AV):iG off v (.agg cs)=.agg (cs.take off++v.cells++cs.drop (off+v.cells.length)):=(rfl)
@[go_sem] theorem Ng (cs:List AV):zF cs []=cs:=(rfl)
@[go_sem] theorem LY (cs:List AV) (off:Nat) (v:AV) (r:List (Nat × AV)):zF cs ((off,v) :: r)=zF (cs.take off++v.cells++cs.drop (off+v.cells.length)) r:=(rfl)
@[go_sem] theorem L7 (cs:List AV):AV.cells (.agg cs)=cs:=(rfl)
@[go_sem] theorem L6 (K:IntKind) (n:Int):AV.cells (.int K n)=[.int K n]:=(rfl)
@[go_sem] theorem Kk (b:Bool):AV.cells (.bool b)=[.bool b]:=(rfl)
@[go_sem] theorem Ki (es:Nat) (l:List AV):AV.cells (.list es l)=[.list es l]:=(rfl)
@[go_sem] theorem Nn (id g es o n:Nat):AV.cells (.sl id g es o n)=[.sl id g es o n]:=(rfl)
@[go_sem] theorem OJ (id g es o n c:Nat):AV.kx (.fG id g es o n c)=[id]:=(rfl)
@[go_sem] theorem L5 (id g es o n:Nat):AV.cells (.ptr id g es o n)=[.ptr id g es o n]:=(rfl)
@[go_sem] theorem Kj (f:Nat) (l:List AV):AV.cells (.func f l)=[.func f l]:=(rfl)
@[go_sem] theorem Nf (cs:List AV):AV.flat (.agg cs)=cs.all AV.one:=(rfl)
@[go_sem] theorem Nd (K:IntKind) (n:Int):AV.flat (.int K n)=true:=(rfl)
@[go_sem] theorem LX (b:Bool):AV.flat (.bool b)=true:=(rfl)
@[go_sem] theorem LV (es:Nat) (l:List AV):AV.flat (.list es l)=true:=(rfl)
@[go_sem] theorem OV (id g es o n:Nat):AV.flat (.sl id g es o n)=true:=(rfl)
@[go_sem] theorem Nc (id g es o n:Nat):AV.flat (.ptr id g es o n)=true:=(rfl)
@[go_sem] theorem LW (f:Nat) (l:List AV):AV.flat (.func f l)=true:=(rfl)
@[go_sem] theorem OI (K:IntKind) (n:Int):AV.one (.int K n)=true:=(rfl)
@[go_sem] theorem MR (b:Bool):AV.one (.bool b)=true:=(rfl)
@[go_sem] theorem OH:AV.one .nil=true:=(rfl)
@[go_sem] theorem MQ (es:Nat) (l:List AV):AV.one (.list es l)=true:=(rfl)
@[go_sem] theorem Pv (id g es o n:Nat):AV.one (.sl id g es o n)=true:=(rfl)
@[go_sem] theorem OG (cs:List AV):AV.cG (.agg cs)=cs.all AV.ec:=(rfl)
@[go_sem] theorem ML (f:Nat) (cs:List AV):AV.cG (.func f cs)=cs.all AV.ec:=(rfl)
@[go_sem] theorem OF (K:IntKind) (n:Int):AV.cG (.int K n)=true:=(rfl)
@[go_sem] theorem OE (s:ByteArray):AV.cG (.str s)=true:=(rfl)
@[go_sem] theorem MK (es:Nat) (l:List AV):AV.cG (.list es l)=true:=(rfl)
@[go_sem] theorem MI (es o n:Nat) (l:List AV):AV.cG (.eG es l o n)=true:=(rfl)
@[go_sem] theorem MN (K:IntKind) (n:Int):AV.ec (.int K n)=true:=(rfl)
@[go_sem] theorem LI (b:Bool):AV.ec (.bool b)=true:=(rfl)
@[go_sem] theorem MM:AV.ec .nil=true:=(rfl)
@[go_sem] theorem LH (es:Nat) (l:List AV):AV.ec (.list es l)=true:=(rfl)
attribute [go_sem] Nat.zero_add eq_self Int.toNat_zero Int.toNat_one Nat.add_zero Int.toNat_natCast List.getElem?_map Option.map_some List.length_map Int.cast_ofNat_Int decide_true decide_false or_true true_or List.getElem?_cons_zero List.getElem?_cons_succ List.length_cons List.length_nil List.all_cons List.all_nil List.take_succ_cons List.take_zero List.drop_succ_cons List.drop_zero List.take_nil List.drop_nil
 List.cons_append List.nil_append List.append_nil List.getD_cons_zero List.getD_cons_succ List.map_cons List.map_nil List.set_cons_zero List.set_cons_succ
 List.mem_cons List.not_mem_nil forall_eq_or_imp forall_eq Option.some.injEq exists_eq_left' exists_eq_left exists_eq_right exists_eq_right' true_and and_true false_and and_false and_self
 Bool.and_true Bool.true_and Bool.and_self Bool.not_true Bool.not_false true_implies false_implies implies_true IntKind.ctorIdx or_false false_or forall_const if_true if_false not_true_eq_false not_false_eq_true ne_eq
theorem lF {n:Int} (h1:-9223372036854775808≤n) (h2:n≤9223372036854775807):IntKind.i64.wrap n=n:=IntWalk.i64_in n ⟨h1,h2⟩
theorem aA.cW {id g es n:Nat} {ty:TypeId} {ro ap:Bool} {l:List AV} (h:σ.ob id=some ⟨g,es,ty,ro,ap,l⟩) (hn:n=l.length) (hp:∀ x∈l,x.cG=true) (hk:∀ x∈l,mi es x):aA σ (.sl id g es 0 n) (.list es l):=by
 subst hn
 refine .sl h rfl rfl (by simp) (by simp) (fun i x y hx hy=>?_) hk
 simp only [List.drop_zero,List.take_length] at hx
 rw [hx] at hy; obtain rfl:=Option.some.inj hy
 exact .pure (hp x (List.mem_of_getElem? hx))
theorem aA.of_eq {a b:AV} (h:a=b) (hp:b.cG=true):aA σ a b:=by subst h; exact .pure hp
theorem aA.pair {a b a' b':AV} (h1:aA σ a a') (h2:aA σ b b'):aA σ (.tuple [a,b]) (.tuple [a',b']):=by
 refine .tuple rfl fun i x y hx hy=>?_
 match i with
 | 0=>simp at hx hy; subst hx; subst hy; exact h1
 | 1=>simp at hx hy; subst hx; subst hy; exact h2
 | i+2=>simp at hx
theorem aA.three {a b c a' b' c':AV} (h1:aA σ a a') (h2:aA σ b b') (h3:aA σ c c'):aA σ (.tuple [a,b,c]) (.tuple [a',b',c']):=by
 refine .tuple rfl fun i x y hx hy=>?_
 match i with
 | 0=>simp at hx hy; subst hx; subst hy; exact h1
 | 1=>simp at hx hy; subst hx; subst hy; exact h2
 | 2=>simp at hx hy; subst hx; subst hy; exact h3
 | i+3=>simp at hx
theorem ab {f:Nat} {args:List AV} {r:AV} {K:AV→St→Prop} (h:PC P f args r) (ha:∀ a∈args,a.cG=true) (hK:K r σ):HC P f args σ K:=
 (JE h ha).mono fun _ _ ⟨h1,h2⟩=>by rw [h1,h2]; exact hK
theorem PC.walk {f:Nat} {args:List AV} {vs:List Value} {w:World} (h:PC P f args (.bool true)) (hv:Lx (fun b=>b<w.heap.size) w args vs) :
  Calls P f vs.toArray w fun e w'=>e=.returned (.bool true)∧RowKit.Below w.heap.size w w':=by
 refine (h.2 (fun b=>b<w.heap.size) w vs (fun _ h=>h) hv).mono fun e w' hx=>?_
 obtain ⟨v,S',rfl,hb,_,_,hV⟩:=hx
 cases hV
 exact ⟨rfl,hb⟩
theorem Lx.nil {S:Nat→Prop} {w:World}:Lx S w [] []:=⟨rfl,fun j y u h=>by simp at h⟩
theorem Lx.cons {S:Nat→Prop} {w:World} {a:AV} {v:Value} {as:List AV} {vs:List Value} (h:VP S w a v) (k:Lx S w as vs):Lx S w (a :: as) (v :: vs):=by
 refine ⟨by simp [k.1],fun j y u hy hu=>?_⟩
 cases j with
 | zero=>simp at hy hu; subst hy; subst hu; exact h
 | succ j=>exact k.2 j y u (by simpa using hy) (by simpa using hu)
theorem aK {f:Nat} {args:List AV} {v:AV} {τ:St} {K:AV→St→Prop} (h:HC P f args σ (fun r σ'=>r=v∧σ'=τ)) (hK:K v τ):HC P f args σ K:=
 h.mono fun _ _ ⟨h1,h2⟩=>by rw [h1,h2]; exact hK
inductive DE (σ:St):List AV→List AV→Prop
 | nil:DE σ [] []
 | cons {a a':AV} {l l':List AV} (h:aA σ a a') (k:DE σ l l'):DE σ (a :: l) (a' :: l')
theorem DE.get {l l':List AV} (h:DE σ l l'):l.length=l'.length∧∀ (i:Nat) (x y:AV),l[i]?=some x→l'[i]?=some y→aA σ x y:=by
 induction h with
 | nil=>exact ⟨rfl,fun i x y h=>by simp at h⟩
 | cons h _ ih=>
  refine ⟨by simp [ih.1],fun i x y hx hy=>?_⟩
  cases i with
  | zero=>simp at hx hy; subst hx; subst hy; exact h
  | succ i=>exact ih.2 i x y (by simpa using hx) (by simpa using hy)
theorem qE {f:Nat} {args args':List AV} {r:AV} {K:AV→St→Prop} (h:PC P f args' r) (hp:DE σ args args') (hs:r.Cn=true) (hK:K r σ):HC P f args σ K:=
 (Br h hp.get hs).mono fun _ _ ⟨h1,h2⟩=>by rw [h1,h2]; exact hK
end
end Go.Ab
