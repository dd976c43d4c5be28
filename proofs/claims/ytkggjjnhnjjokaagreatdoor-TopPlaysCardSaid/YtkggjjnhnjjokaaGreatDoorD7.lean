/- Part of a proof. -/
import Derived.Test.YtkggjjnhnjjokaaGreatDoorD6
import Derived.Test.YtkggjjnhnjjokaaGreatDoorD4
import Derived.Test.YtkggjjnhnjjokaaGreatDoorD2
import Derived.Test.YtkggjjnhnjjokaaGreatDoorD3
import Derived.Test.YtkggjjnhnjjokaaGreatDoorD5
set_option maxRecDepth 20000
set_option linter.unusedSimpArgs false
set_option linter.unusedVariables false
namespace Go.Kb
open Go.ax
theorem uM{c:CV}{b:Nat}{o:Int}{f:Bool}{B:BV}(hb:b<c.blocks.length)(k:Int):ak {c with ops:=o,off:=f,blocks:=c.blocks.set b B} k=if k.toNat=b then B else ak c k:=by
 simp only[ak,List.getD,atb]
 by_cases h:b=k.toNat
 ·
  rw[if_pos h,if_pos (by omega),if_pos h.symm];rfl
 rw[if_neg h,if_neg (fun g=>h g.symm)]
structure Kd(L:List Int)(c d:CV):Prop where
 bV:dP c d
 ok:ba c=true->ba d=true
 ox:d.aV=c.aV
 HV: ∀b:Int,(ak c b).bad=true->ak d b=ak c b
 on:c.off=false->(∀f∈c.aV,f.cut=false)->d.off=false
 ops:c.ops<=d.ops
 nm: ∀n∈L,n≠0->kV c (n -1)=true->kV d (n -1)=true/\bL d (n -1)=bL c (n -1)
structure Kp(L:List Int)(c d:CV):Prop extends Kd L c d where
 r0: ∀b:Int,b<2->(ak d b).pages=(ak c b).pages/\(ak d b).used=(ak c b).used
theorem Kd.dk(L:List Int)(c:CV):Kd L c c:=⟨.dk c,id,rfl,fun _ _=>rfl,fun h _=>h,atx _,fun _ _ _ h=>⟨h,rfl⟩⟩
theorem Kp.dk(L:List Int)(c:CV):Kp L c c:=⟨.dk L c,fun _ _=>⟨rfl,rfl⟩⟩
theorem Kd.trans{L:List Int}{c d e:CV}(h:Kd L c d)(g:Kd L d e):Kd L c e where
 bV:=h.bV.trans g.bV
 ok:=fun k=>g.ok (h.ok k)
 ox:=g.ox.trans h.ox
 HV:=fun b hb=>by
  have h1:=h.HV b hb;rw[←h1]at hb;exact(g.HV b hb).trans h1
 on:=fun h1 h2=>g.on (h.on h1 h2) (by rw[h.ox];exact h2)
 ops:=Int.le_trans h.ops g.ops
 nm:=fun n hn h0 hp=>by
  obtain⟨h1,h2⟩:=h.nm n hn h0 hp;obtain⟨g1,g2⟩:=g.nm n hn h0 h1;exact⟨g1,g2.trans h2⟩
theorem Kp.trans{L:List Int}{c d e:CV}(h:Kp L c d)(g:Kp L d e):Kp L c e:=
 ⟨h.toKd.trans g.toKd,fun b hb=>⟨(g.r0 b hb).1.trans (h.r0 b hb).1,(g.r0 b hb).2.trans (h.r0 b hb).2⟩⟩
theorem Kd.sub{L M:List Int}{c d:CV}(h:Kd L c d)(hs: ∀n∈M,n∈L):Kd M c d:={h with nm:=fun n hn=>h.nm n (hs n hn)}
theorem Kp.sub{L M:List Int}{c d:CV}(h:Kp L c d)(hs: ∀n∈M,n∈L):Kp M c d:=⟨h.toKd.sub hs,h.r0⟩
theorem M7{L:List Int}{c:CV}{b:Int}{o:Int}{f:Bool}{B:BV}(hh:ib c b=true)(hk:ba c=true->ba {c with ops:=o,off:=f,blocks:=c.blocks.set b.toNat B}=true)(agQ:(ak c b).bad=true->B=ak c b)
  (fQ:c.off=false->(∀f∈c.aV,f.cut=false)->f=false) (ho:c.ops<=o)
  (hn: ∀n∈L,n≠0->kV c (n -1)=true->(n -1)/c.pages=b->(n -1)%c.pages<B.used/\B.pages.getD ((n -1)%c.pages).toNat []=(ak c b).pages.getD ((n -1)%c.pages).toNat []):
  Kd L c {c with ops:=o,off:=f,blocks:=c.blocks.set b.toNat B} where
 bV:=⟨rfl,rfl,by simp⟩
 ok:=hk
 ox:=rfl
 HV:=fun k hb=>by
  obtain⟨_,h2,h3⟩:=ic.1 hh;rw[uM (by omega)];split
  ·
   rename_i e;have e2:ak c k=ak c b:=by simp only[ak,e]
   rw[e2]at hb⊢;exact agQ hb
  ·
   rfl
 on:=fQ
 ops:=ho
 nm:=fun n hm h0 hp=>by
  obtain⟨_,h2,h3⟩:=ic.1 hh;obtain⟨p1,p2,p3⟩:=mF.1 hp;have e:=uM (c:=c) (o:=o) (f:=f) (B:=B) (show b.toNat<c.blocks.length by omega) ((n -1)/c.pages)
  by_cases h:(n -1)/c.pages=b
  ·
   rw[h,if_pos rfl]at e;obtain⟨g1,g2⟩:=hn n hm h0 hp h;refine⟨mF.2 ⟨p1,by simpa using p2,?_⟩,?_⟩
   ·
    show _<(ak _ ((n -1)/c.pages)).used;rw[h,e];exact g1
   ·
    show(ak _ ((n -1)/c.pages)).pages.getD _ []=(ak c ((n -1)/c.pages)).pages.getD _ [];rw[h,e];exact g2
  ·
   rw[if_neg (by omega)]at e;refine⟨mF.2 ⟨p1,by simpa using p2,?_⟩,?_⟩
   ·
    show _<(ak _ ((n -1)/c.pages)).used;rw[e];exact p3
   ·
    show(ak _ ((n -1)/c.pages)).pages.getD _ []=(ak c ((n -1)/c.pages)).pages.getD _ [];rw[e]
theorem Kd.roots{L:List Int}{c:CV}{b:Int}{o:Int}{f:Bool}{B:BV}(hh:ib c b=true)(h2:2<=b)(h:Kd L c {c with ops:=o,off:=f,blocks:=c.blocks.set b.toNat B}):Kp L c {c with ops:=o,off:=f,blocks:=c.blocks.set b.toNat B}:=
 ⟨h,fun k hk=>by
  obtain⟨_,h3,h4⟩:=ic.1 hh;rw[uM (by omega),if_neg (by omega)];exact⟨rfl,rfl⟩⟩
theorem US{c:CV}(h: ∀f∈c.aV,f.cut=false):((bn c).2&&(bn c).1.cut)=false:=by
 rw[bn]
 cases hf:c.aV.find? fun f=>decide (f.op=c.ops)with
 |none=>rfl
 |some x=>simp only[h x (auy hf),Bool.and_false]
theorem agR{L:List Int}{c:CV}{b:Int}{p:List UInt8}:Kd L c (gN c b (ak c b).used p):=by
 by_cases h:n0 c b (ak c b).used p=true/\c.off=false/\(ak c b).bad=false/\(ak c b).used=(ak c b).used
 ·
  have e:gN c b (ak c b).used p=iH c b (ak c b).used p:=if_pos h;have hk:=KK (c:=c) (b:=b) (g:=(ak c b).used) (p:=p);rw[e]at hk;obtain⟨h1,h2,h3,_⟩:=h;obtain⟨j1,j2,j3,j4,j5⟩:=jI.1 h1;rw[e,iH];refine M7 j1 hk (fun g=>by rw[h3]at g;cases g) (fun _ g=>US g) (by omega) fun n _ _ hp hb=>?_;obtain⟨p1,p2,p3⟩:=mF.1 hp;rw[hb]at p3;have h0:0<=(n -1)%c.pages:=auw _ (by omega);refine⟨by simp only;omega,?_⟩;simp only[List.getD];rw[asS (by omega)]
 rw[gN,if_neg h];exact .dk L c
theorem agS{L:List Int}{c:CV}{b:Int}:Kd L c (lZ c b):=by
 by_cases h:pZ c b=0
 ·
  have hk:=RB (c:=c) (b:=b);rw[lZ,if_pos h]at hk⊢;have hh:ib c b=true:=by
   cases hq:ib c b with
   |true=>rfl
   |false=>rw[pZ,if_neg (by rw[hq];simp)]at h;cases h
  refine M7 (o:=c.ops) (f:=c.off) hh hk (fun g=>?_) (fun g _=>g) (atx _) fun n _ _ hp hb=>?_
  ·
   cases hB:ak c b with|mk a1 a2 a3 a4=>rw[hB]at g;simp only at g;rw[g]
  obtain⟨p1,p2,p3⟩:=mF.1 hp;rw[hb]at p3;exact⟨p3,rfl⟩
 rw[lZ,if_neg h];exact .dk L c
theorem UT{c:CV}{b k:Int}:(ak (lZ c b) k).pages=(ak c k).pages/\(ak (lZ c b) k).used=(ak c k).used:=by
 rw[lZ];split
 ·
  rename_i h;have hh:ib c b=true:=by
   cases hq:ib c b with
   |true=>rfl
   |false=>rw[pZ,if_neg (by rw[hq];simp)]at h;cases h
  obtain⟨_,h3,h4⟩:=ic.1 hh;have e:=uM (c:=c) (o:=c.ops) (f:=c.off) (B:={ak c b with bad:=true}) (show b.toNat<c.blocks.length by omega) k
  rw[e];split
  ·
   rename_i e2;have e3:ak c k=ak c b:=by simp only[ak,e2]
   rw[e3];exact⟨rfl,rfl⟩
  exact⟨rfl,rfl⟩
 exact⟨rfl,rfl⟩
theorem D5{L:List Int}{c:CV}{b e:Int}:Kp L c (jk c b e):=by
 rw[jk];split
 ·
  exact⟨agS,fun k _=>UT⟩
 exact .dk L c
theorem HW{L:List Int}{c:CV}{b:Int}{p:List UInt8}:Kd L c (bA c b p):=agR.trans D5.toKd
theorem UU{c:CV}{b k g:Int}{p:List UInt8}(h:k.toNat≠b.toNat):ak (gN c b g p) k=ak c k:=by
 rw[gN];split
 ·
  rename_i hk;obtain⟨_,h3,h4⟩:=ic.1 (jI.1 hk.1).1;rw[iH,uM (by omega),if_neg h]
 rfl
theorem HX{L:List Int}{c:CV}{b:Int}{p:List UInt8}(h2:2<=b):Kp L c (bA c b p):=
 ⟨HW,fun k hk=>by
  have h1:=(D5 (L:=L) (c:=gN c b (ak c b).used p) (b:=b) (e:=bx c b p)).r0 k hk;rw[bA,h1.1,h1.2,UU (by omega)];exact⟨rfl,rfl⟩⟩
def kJ(L:List Int)(c:CV)(b:Int):Prop:= ∀n∈L,n≠0->(n -1)/c.pages≠b
theorem UW{L:List Int}{c:CV}{b:Int}(hd: ∀n∈L,n≠0->kV c (n -1)=true->(n -1)/c.pages≠b):Kd L c (gk c b):=by
 by_cases h:oX c b=true/\c.off=false/\(ak c b).bad=false
 ·
  have hk:=KL (c:=c) (b:=b);rw[gk,if_pos h]at hk⊢;obtain⟨h1,h2,h3⟩:=h;have hh:=(pY.1 h1).1;rw[kU]at hk⊢;exact M7 hh hk (fun g=>by rw[h3]at g;cases g) (fun _ g=>US g) (by omega) fun n hn h0 hp hb=>absurd hb (hd n hn h0 hp)
 rw[gk,if_neg h];exact .dk L c
theorem agT{L:List Int}{c:CV}{b:Int}(hd:kJ L c b):Kd L c (gk c b):=UW fun n hn h0 _=>hd n hn h0
theorem agU{L:List Int}{c:CV}{b:Int}(hb:b<2):Kd L c (dv c b):=(UW fun n _ _ hp=>by have:=(mF.1 hp).1;omega).trans D5.toKd
theorem agV{L:List Int}{c:CV}{b:Int}(hd:kJ L c b):Kd L c (dv c b):=(agT hd).trans D5.toKd
theorem BM{c:CV}{b k:Int}(h:k.toNat≠b.toNat):ak (gk c b) k=ak c k:=by
 rw[gk];split
 ·
  rename_i hk;obtain⟨_,h3,h4⟩:=ic.1 (pY.1 hk.1).1;rw[kU,uM (by omega),if_neg h]
 rfl
theorem agW{L:List Int}{c:CV}{b:Int}(h2:2<=b)(hd:kJ L c b):Kp L c (dv c b):=
 ⟨agV hd,fun k hk=>by
  have h1:=(D5 (L:=L) (c:=gk c b) (b:=b) (e:=ez c b)).r0 k hk;rw[dv,h1.1,h1.2,BM (by omega)];exact⟨rfl,rfl⟩⟩
theorem kJ.bV{L:List Int}{c d:CV}{b:Int}(h:kJ L c b)(g:dP c d):kJ L d b:=fun n hn h0=>by rw[g.pages];exact h n hn h0
theorem UX{L:List Int}: ∀(n:Nat) {c:CV} {b:Int},2<=b->kJ L c b->Kp L c (fH n c b).1
 |0,c,b,h2,hd=>agW h2 hd
 |n+1,c,b,h2,hd=>by
  rw[fH];split
  ·
   exact HX h2
  exact(HX h2).trans (UX n h2 (hd.bV (iK _ _ _)))
theorem zy{L:List Int}{c:CV}{b:Int}(h2:2<=b)(hd:kJ L c b):Kp L c (cF c b).1:=UX _ h2 hd
theorem agX{c:CV}{b g:Int}{p:List UInt8}(h:kA c b g p=7):(gN c b g p).off=true:=by
 rw[kA]at h
 by_cases h1:n0 c b g p=true
 ·
  rw[if_pos h1]at h
  by_cases h2:c.off=true
  ·
   rw[gN,if_neg (fun k=>by rw[h2]at k;cases k.2.1)];exact h2
  rw[if_neg h2]at h
  by_cases h3:(ak c b).bad=true\/g≠(ak c b).used
  ·
   rw[if_pos h3]at h;cases h
  rw[if_neg h3]at h
  by_cases h4:(bn c).2=true
  ·
   rw[if_pos h4,lY]at h;have h5:(bn c).1.cut=true:=by
    cases hc:(bn c).1.cut with
    |true=>rfl
    |false=>rw[if_neg (by rw[hc];simp)]at h;cases h
   have Bq:(ak c b).bad=false:=by
    cases hb:(ak c b).bad with
    |true=>exact absurd (.inl hb) h3
    |false=>rfl
   rw[gN,if_pos ⟨h1,by simpa using h2,Bq,asH fun k=>h3 (.inr k)⟩,iH,h4,h5];rfl
  rw[if_neg h4]at h;cases h
 rw[if_neg h1]at h;cases h
theorem UY(c:CV)(b e:Int):(jk c b e).off=c.off:=by
 rw[jk];split
 ·
  rw[lZ];split<;>rfl
 rfl
theorem HY{c:CV}{b:Int}{p:List UInt8}(h:bx c b p=7):(bA c b p).off=true:=by rw[bA,UY];exact agX h
theorem UZ{c:CV}{b:Int}(h:ez c b=7):(dv c b).off=true:=by
 rw[dv,UY];rw[ez]at h
 by_cases h1:oX c b=true
 ·
  rw[if_pos h1]at h
  by_cases h2:c.off=true
  ·
   rw[gk,if_neg (fun k=>by rw[h2]at k;cases k.2.1)];exact h2
  rw[if_neg h2]at h
  by_cases h3:(ak c b).bad=true
  ·
   rw[if_pos h3]at h;cases h
  rw[if_neg h3]at h
  by_cases h4:(bn c).2=true
  ·
   rw[if_pos h4,lY]at h;have h5:(bn c).1.cut=true:=by
    cases hc:(bn c).1.cut with
    |true=>rfl
    |false=>rw[if_neg (by rw[hc];simp)]at h;cases h
   rw[gk,if_pos ⟨h1,by simpa using h2,by simpa using h3⟩,kU,h4,h5];rfl
  rw[if_neg h4]at h;cases h
 rw[if_neg h1]at h;cases h
theorem U0: ∀(n:Nat) {c:CV} {b:Int},(fH n c b).2=7->(fH n c b).1.off=true
 |0,c,b,h=>UZ h
 |n+1,c,b,h=>by
  rw[fH]at h⊢
  by_cases h0:bx c b (iJ c)≠0
  ·
   rw[if_pos h0]at h⊢;exact HY h
  rw[if_neg h0]at h⊢;exact U0 n h
theorem D6{c:CV}{b:Int}(h:(cF c b).2=7):(cF c b).1.off=true:=U0 _ h
def Pl(c:CV)(a:List Int):Prop:=(∀(i:Nat) (y:Int),a[i]? =some y->y≠0->n9 c (i:Int) y=true)/\ ∀(i j:Nat) (y:Int),a[i]? =some y->a[j]? =some y->y≠0->i=j
theorem M8{a:List Int}{i:Nat}{y:Int}:(a.take i).contains y=true↔ ∃j,j<i/\a[j]? =some y:=by
 rw[atJ,List.mem_take_iff_getElem];constructor
 ·
  rintro⟨j,hj,e⟩;exact⟨j,by omega,by rw[asr (by omega),e]⟩
 rintro⟨j,hj,e⟩;obtain⟨hl,e2⟩:=ad2.1 e;exact⟨j,by omega,e2⟩
theorem U1{c:CV}{a:List Int}:vF c a=true↔Pl c a:=by
 rw[C4];constructor
 ·
  intro h;have hp: ∀(i:Nat) (y:Int),a[i]? =some y->y≠0->(a.take i).contains y=false/\n9 c (i:Int) y=true:=fun i y hy h0=>by
   have hi:=(ad2.1 hy).1;have h1:=h i hi;rw[Sh (p6 hy),decide_eq_false h0,au0,alM,att]at h1;exact h1
  refine⟨fun i y hy h0=>(hp i y hy h0).2,fun i j y hi hj h0=>?_⟩;rcases ava i j with hl|hl|hl
  ·
   have:=(hp j y hj h0).1;rw[M8.2 ⟨i,hl,hi⟩]at this;cases this
  ·
   exact hl
  have:=(hp i y hi h0).1;rw[M8.2 ⟨j,hl,hj⟩]at this;cases this
 rintro⟨h1,h2⟩ i hi;have hy:=asr hi;rw[Sh (p6 hy)]
 by_cases h0:a[i]=0
 ·
  rw[decide_eq_true h0];rfl
 rw[h1 i _ hy h0,Bool.and_true,atF];right
 cases hc:(a.take i).contains a[i]with
 |false=>rfl
 |true=>
  obtain⟨j,hj,e⟩:=M8.1 hc;have:=h2 i j _ hy e h0;omega
theorem D7{c:CV}{i n:Int}(h:n9 c i n=true):kV c (n -1)=true/\(cI (bL c (n -1))).2=0/\(cI (bL c (n -1))).1.kind=1/\(cI (bL c (n -1))).1.id=i:=by
 rw[n9,alM,Gp]at h;simp only[alM,decide_eq_true_eq]at h;exact⟨h.1,h.2.1.1,h.2.1.2,h.2.2⟩
theorem agY{c:CV}{i n:Int}{p:PV}(h:kV c (n -1)=true)(h2:cI (bL c (n -1))=(p,0))(hk:p.kind=1)(hi:p.id=i):n9 c i n=true:=by
 rw[n9,h,h2,Gp];simp[hk,hi]
theorem Pl.kd{c d:CV}{a L:List Int}(h:Pl c a)(k:Kd L c d)(hs: ∀n∈a,n∈L):Pl d a:=
 ⟨fun i y hy h0=>by
  have h1:=h.1 i y hy h0;obtain⟨g1,g2⟩:=k.nm y (hs y (anc hy)) h0 (D7 h1).1;rw[n9,g1,g2];rw[n9,(D7 h1).1]at h1;exact h1,h.2⟩
theorem HZ{c d:CV}{a L:List Int}(h:Pl c a)(k:Kd L c d)(hs: ∀n∈a,n∈L):a.map (eU d)=a.map (eU c):=by
 refine atp fun y hy=>?_
 by_cases h0:y=0
 ·
  rw[h0];rfl
 obtain⟨i,hi⟩:=asM hy;obtain⟨_,g2⟩:=k.nm y (hs y hy) h0 (D7 (h.1 i y hi h0)).1;rw[eU,eU,ji,ji,g2]
theorem Pl.place{c:CV}{a:List Int}(h:Pl c a){n:Int}(hn:n∈a)(h0:n≠0):kV c (n -1)=true:=by
 obtain⟨i,hi⟩:=asM hn;exact(D7 (h.1 i n hi h0)).1
structure fA(x:VV):Prop where
 bears:gn x.ae=true
 roots:(bP x.ae).2.2=0
 used:(bP x.ae).1%x.ae.pages<(ak x.ae ((bP x.ae).1/x.ae.pages)).used
 pl:Pl x.ae x.at_
 at_:(bP x.ae).2.1.at_=x.at_
 gen:(bP x.ae).2.1.gen=x.gen
 last:(bP x.ae).1/x.ae.pages=x.last
theorem BN{x:VV}:me x=true↔fA x:=by
 rw[acb,alM];constructor
 ·
  rintro⟨h1,h2⟩;simp only[alM,decide_eq_true_eq]at h2;obtain⟨⟨⟨g1,g2⟩,g3⟩,g4⟩:=h2;rw[vJ]at g1 g2 g3 g4
  by_cases k1:(bP x.ae).2.2≠0
  ·
   rw[if_pos k1]at g1;exact absurd g1 k1
  rw[if_neg k1]at g1 g2 g3 g4
  by_cases k2:mG x.ae=false
  ·
   rw[if_pos k2]at g1;cases g1
  rw[if_neg k2]at g2 g3 g4;have M9:mG x.ae=true:=by simpa using k2
  rw[mG,alM,decide_eq_true_eq]at M9;refine⟨h1,by simpa using k1,M9.1,?_,g2.symm,g3.symm,g4.symm⟩;rw[g2];exact U1.1 M9.2
 intro h;refine⟨h.bears,?_⟩;have hl:mG x.ae=true:=by
  rw[mG,alM,decide_eq_true_eq];exact⟨h.used,by rw[h.at_];exact U1.2 h.pl⟩
 rw[vJ,if_neg (fun g=>g h.roots),if_neg (by rw[hl];simp)];simp only[h.at_,h.gen,h.last,decide_true,at7]
theorem agZ{L:List Int}{c d:CV}(k:Kp L c d):bP d=bP c:=by
 rw[bP,bP,(k.r0 0 (by decide)).1,(k.r0 1 (by decide)).1]
theorem ag0{L:List Int}{c d:CV}(k:Kd L c d)(h:gn c=true):gn d=true:=by
 obtain⟨h1,h2,h3,h4⟩:=fS.1 h;exact fS.2 ⟨k.ok h1,by rw[k.bV.len];exact h2,by rw[k.bV.pages];exact h3,by rw[k.bV.size];exact h4⟩
theorem D8{c:CV}(h:gn c=true):((ak c 0).pages.length:Int)=c.pages/\((ak c 1).pages.length:Int)=c.pages:=by
 obtain⟨h1,h2,h3,h4⟩:=fS.1 h;exact⟨(fk.1 (sM h1 (by decide) (by omega))).1,(fk.1 (sM h1 (by decide) (by omega))).1⟩
theorem U2{c:CV}(h:gn c=true):0<=(bP c).1/\(bP c).1<2*c.pages:=by
 obtain⟨h1,h2⟩:=D8 h;obtain⟨_,_,h3,_⟩:=fS.1 h;have:=KC (l:=(ak c 0).pages++(ak c 1).pages) (by rw[af0];omega);rw[af0]at this;rw[bP];omega
theorem fA.kp{x:VV}(h:fA x){d:CV}(k:Kp x.at_ x.ae d):fA {x with ae:=d}:=by
 have e:=agZ k;have ep:=k.bV.pages;have hr:=U2 h.bears;have hp:0<x.ae.pages:=by have:=(fS.1 h.bears).2.2.1;omega
 exact⟨ag0 k.toKd h.bears,by show(bP d).2.2=0;rw[e];exact h.roots,by
  show(bP d).1%d.pages<(ak d ((bP d).1/d.pages)).used;rw[e,ep,(k.r0 _ (Int.ediv_lt_of_lt_mul hp hr.2)).2];exact h.used,h.pl.kd k.toKd fun _ g=>g,by show(bP d).2.1.at_=_;rw[e];exact h.at_,by show(bP d).2.1.gen=_;rw[e];exact h.gen,by show(bP d).1/d.pages=_;rw[e,ep];exact h.last⟩
theorem U3{l:List Int}{n:Int}(h0:n≠0): ∀k,n∈l.take k-> ∃j,j<k/\j<l.length/\l.getD j 0=n/\ny l j=true
 |0,h=>by simp at h
 |k+1,h=>by
  by_cases hk:n∈l.take k
  ·
   obtain⟨j,h1,h2⟩:=U3 h0 k hk;exact⟨j,by omega,h2⟩
  rw[asC,asz]at h;rcases h with h|h
  ·
   exact absurd h hk
  have hx:l[k]? =some n:=by simpa[Option.mem_toList]using h
  refine⟨k,by omega,(ad2.1 hx).1,p6 hx,?_⟩;rw[ny,p6 hx,decide_eq_true h0,ath,att]
  cases hc:(l.take k).contains n with
  |false=>rfl
  |true=>exact absurd (atJ.1 hc) hk
theorem U4{pages:Int}{l:List Int}{i:Nat}(h:j9 pages l l.length i=0): ∀n∈l,n≠0->(n -1)/pages≠(i:Int)+2:=by
 intro n hn h0 hb;obtain⟨j,h1,h2,h3,h4⟩:=U3 h0 l.length (by rw[asP];exact hn);rw[j9,asI]at h;have hm:j∈(List.range l.length).filter fun j=>ny l j&&decide ((l.getD j 0 -1)/pages=(i:Int)+2):=asQ.2 ⟨List.mem_range.2 h2,by rw[h4,h3,decide_eq_true hb];rfl⟩;rw[h]at hm;cases hm
theorem ag1{c:CV}{fl:List Int}{i:Nat}{x:aA}(h:(aw c fl)[i]? =some x)(hb:x.bad=false)(hl:x.live=0):kJ fl c ((i:Int)+2):=by
 have hi:=(ad2.1 h).1;rw[lG]at hi;rw[KO hi]at h;have e:=aso h;intro n hn h0;refine U4 (l:=fl) ?_ n hn h0;rw[pe]at e;split at e
 ·
  rw[←e]at hb;cases hb
 rw[←e]at hl;simp only[ug]at hl;omega
def rW(c:CV)(fl:List Int)(l:List aA):Prop:= ∀(i:Nat) (x:aA),l[i]? =some x->x.bad=false->x.live=0->kJ fl c ((i:Int)+2)
theorem H2(c:CV)(fl:List Int):rW c fl (aw c fl):=fun _ _ h hb hl=>ag1 h hb hl
theorem rW.set{c:CV}{fl:List Int}{l:List aA}(h:rW c fl l)(i:Nat):rW c fl (l.set i bb):=by
 intro j x hx hb hl;rw[atb]at hx;split at hx
 ·
  split at hx
  ·
   obtain rfl:=aso hx;cases hb
  cases hx
 exact h j x hx hb hl
theorem H3{c:CV}{fl:List Int}{l:List aA}(h:rW c fl l){R:aA->Bool}{p:Int}(hd:(fG (bU R l) p).2=true):kJ fl c ((fG (bU R l) p).1+2)/\0<=(fG (bU R l) p).1:=by
 obtain⟨x,hx,h1,_,h3,h4,_⟩:=pf (fun x h=>(lI h).1) hd;have:=h _ x hx h1 (lI h3).2.1;refine⟨?_,h4⟩;change 0<=(fG (bU R l) p).1 at h4;change kJ fl c ((((fG (bU R l) p).1.toNat:Nat):Int)+2)at this;rwa [atC h4]at this
theorem U5{c:CV}{fl:List Int}(hk:ba c=true)(h2:3<=c.blocks.length)(hi:dQ (aw c fl)≠0)(hb: ¬(ke c fl).2=true):(fG (bU gA (aw c fl)) c.pages).2=true:=by
 have hd:=eY hk;have dW:=lG c fl;have hw:mg (bU gA (aw c fl)) c.pages=true:=sL.2 ⟨by rw[xq];omega,by rw[xq];omega,by omega,by omega,fun x hx=>by
  obtain⟨i,hi⟩:=asM hx;obtain⟨y,hy,rfl⟩:=KP hi;have t:=uo hk (anc hy);have qK:cX=1099511627776:=rfl;unfold iC;split
  ·
   exact rA.2 (by simp only[bb];omega)
  rename_i hn;have hl:y.live=0:=by
   cases hR:gA y with
   |true=>simpa[gA]using hR
   |false=>exact absurd (.inr hR) hn
  exact rA.2 ⟨by omega,by have:=t.Db;omega,t.AX,t.RO,t.RP⟩⟩
 have rC:(ke c fl).2=false:=by simpa using hb
 have KQ:=ui hw (show(fx _ _ _ _).2=false from rC);have AY:0<((aw c fl).filter fun x=> !x.bad&&decide (x.live=0)).length:=by rw[dQ]at hi;omega
 obtain⟨x,hx⟩:=List.exists_mem_of_length_pos AY;obtain⟨mi,fU⟩:=asQ.1 hx;simp only[alM,att,decide_eq_true_eq]at fU;have xr:iC gA x=x:=by
  unfold iC;rw[if_neg];rintro(g|g)
  ·
   rw[fU.1]at g;cases g
  rw[show gA x=true by simp[gA,fU.2]]at g;cases g
 have Dc:x∈bU gA (aw c fl):=by
  rw[←xr];exact asN mi
 have Dd:=KQ x Dc;have t:=uo hk mi;have mI:mf x=true:=by
  have: ¬x.used<c.pages:=fun h=>by
   rw[mH,fU.1,decide_eq_true h]at Dd;cases Dd
  simp only[mf,fU.1,auq,ath,alM,decide_eq_true_eq];omega
 cases hq:(fG (bU gA (aw c fl)) c.pages).2 with
 |true=>rfl
 |false=>have:=ui hw hq x Dc;rw[mI]at this;cases this
theorem ag2{c:CV}{fl:List Int}{aI:Bool}(hk:ba c=true)(h2:3<=c.blocks.length):Kp fl c (bg c fl aI).1/\((bg c fl aI).2.2=7->(bg c fl aI).1.off=true):=by
 rw[bg]
 by_cases h1:(mh c fl).2=true
 ·
  rw[if_pos h1];exact⟨.dk _ _,fun h=>absurd (show(0:Int)=7 from h) (by decide)⟩
 rw[if_neg h1]
 by_cases h3:dQ (aw c fl)=0\/(dQ (aw c fl)=1/\aI=false)
 ·
  rw[if_pos h3];exact⟨.dk _ _,fun h=>absurd (show(5:Int)=7 from h) (by decide)⟩
 rw[if_neg h3]
 by_cases h4:(ke c fl).2=true
 ·
  rw[if_pos h4];exact⟨.dk _ _,fun h=>absurd (show(0:Int)=7 from h) (by decide)⟩
 rw[if_neg h4];obtain⟨d1,d2⟩:=H3 (H2 c fl) (U5 hk h2 (fun e=>h3 (.inl e)) h4);exact⟨zy (by show 2<=jy c fl+2;change 0<=jy c fl at d2;omega) d1,D6⟩
theorem H4{L:List Int}{c:CV}{b:Int}{p:List UInt8}(h2:2<=b)(h:bx c b p=0):kV (bA c b p) (b*c.pages+(ak c b).used)=true/\bL (bA c b p) (b*c.pages+(ak c b).used)=p/\
  0<=b*c.pages+(ak c b).used/\kV c (b*c.pages+(ak c b).used)=false:=by
 obtain⟨h1,h3,h4,h5,e⟩:=p8 h;obtain⟨j1,j2,j3,j4,j5⟩:=jI.1 h1;obtain⟨k1,k2,k3⟩:=ic.1 j1;have hd:(b*c.pages+(ak c b).used)/c.pages=b:=by
  rw[aul,atE _ _ (by omega),atn j2 j3,aup]
 have hm:(b*c.pages+(ak c b).used)%c.pages=(ak c b).used:=by
  rw[aul,au5,avb j2 j3]
 have bW:=(fk.1 (qI j1)).1;rw[e];refine⟨mF.2 ?_,?_,?_,?_⟩
 ·
  show 2<=(b*c.pages+(ak c b).used)/c.pages/\(b*c.pages+(ak c b).used)/c.pages<((c.blocks.set b.toNat _).length:Int)/\(b*c.pages+(ak c b).used)%c.pages<(ak _ ((b*c.pages+(ak c b).used)/c.pages)).used;rw[hd,hm,iH,qJ j1,as1];exact⟨h2,k3,by simp only;omega⟩
 ·
  show(ak _ ((b*c.pages+(ak c b).used)/c.pages)).pages.getD ((b*c.pages+(ak c b).used)%c.pages).toNat []=p;rw[hd,hm,iH,qJ j1];simp only[List.getD];rw[asJ (by omega),oW,h5];rfl
 ·
  have:0<=b*c.pages:=aub (by omega) (by omega);omega
 ·
  cases hq:kV c (b*c.pages+(ak c b).used)with
  |false=>rfl
  |true=>
   obtain⟨p1,p2,p3⟩:=mF.1 hq;rw[hd,hm]at p3;omega
structure D9(fl:List Int)(c d:CV)(n:Int)(p:List UInt8):Prop where
 pos:1<=n
 ok:kV d (n -1)=true
 pg:bL d (n -1)=p
 new: ∀m∈fl,m≠0->kV c (m -1)=true->m≠n
theorem Na: ∀(n:Nat) {c:CV} {fl:List Int} {aI:Bool} {b:List UInt8},ba c=true->3<=c.blocks.length->(cX -c.ops).toNat<n->
  Kp fl c (iZ n c fl aI b).1/\((iZ n c fl aI b).2.2=0->D9 fl c (iZ n c fl aI b).1 (iZ n c fl aI b).2.1 b)/\((iZ n c fl aI b).2.2=7->(iZ n c fl aI b).1.off=true)
 |0,c,fl,aI,b,_,_,hn=>by omega
 |n+1,c,fl,aI,b,hk,h2,hn=>by
  obtain⟨f1,f2,f3,f4,f5⟩:=KR (fl:=fl) (aI:=aI) hk h2;obtain⟨k1,k2⟩:=ag2 (fl:=fl) (aI:=aI) hk h2;rw[iZ]
  by_cases h0:(bg c fl aI).2.2=0
  ·
   rw[if_pos h0];obtain⟨g1,g2,g3⟩:=f4 h0;have kp:=k1.trans (HX (c:=(bg c fl aI).1) (p:=b) (L:=fl) g1)
   by_cases h1:bx (bg c fl aI).1 (bg c fl aI).2.1 b=0
   ·
    rw[if_pos h1];refine⟨kp,fun _=>?_,fun h=>absurd (show(0:Int)=7 from h) (by decide)⟩;obtain⟨q1,q2,q3,q4⟩:=H4 (L:=fl) g1 h1;rw[f2.pages]at q1 q2 q3 q4;have e:(bg c fl aI).2.1*c.pages+(ak (bg c fl aI).1 (bg c fl aI).2.1).used+1 -1=(bg c fl aI).2.1*c.pages+(ak (bg c fl aI).1 (bg c fl aI).2.1).used:=by omega
    refine⟨by simp only;omega,by simp only;rw[e];exact q1,by simp only;rw[e];exact q2,fun m hm h0 hp he=>?_⟩;have:=(k1.nm m hm h0 hp).1;simp only at he;rw[he,e,q4]at this;cases this
   ·
    rw[if_neg h1]
    by_cases h9:bx (bg c fl aI).1 (bg c fl aI).2.1 b≠9
    ·
     rw[if_pos h9];exact⟨kp,fun h=>absurd h h1,HY⟩
    ·
     rw[if_neg h9];have ho:=uj g3 (p:=b) (.inl (by simpa using h9));have bB:=lF f1 (bg c fl aI).2.1 b;have hl:=f2.trans (iK (bg c fl aI).1 (bg c fl aI).2.1 b);have hle:=sO bB;obtain⟨t1,t2,t3⟩:=Na n (fl:=fl) (aI:=aI) (b:=b) bB (by rw[hl.len];exact h2) (by omega);refine⟨kp.trans t1,fun h=>?_,t3⟩;have g:=t2 h;exact⟨g.pos,g.ok,g.pg,fun m hm h0 hp=>g.new m hm h0 (kp.nm m hm h0 hp).1⟩
  ·
   rw[if_neg h0]
   by_cases h9:(bg c fl aI).2.2≠9
   ·
    rw[if_pos h9];exact⟨k1,fun h=>absurd h h0,k2⟩
   ·
    rw[if_neg h9];have ho:=f5 (by simpa using h9);have hle:=sO f1;obtain⟨t1,t2,t3⟩:=Na n (fl:=fl) (aI:=aI) (b:=b) f1 (by rw[f2.len];exact h2) (by omega);refine⟨k1.trans t1,fun h=>?_,t3⟩;have g:=t2 h;exact⟨g.pos,g.ok,g.pg,fun m hm h0 hp=>g.new m hm h0 (k1.nm m hm h0 hp).1⟩
theorem U6{c:CV}{fl:List Int}{aI:Bool}{p:PV}(hk:ba c=true)(h2:3<=c.blocks.length):
  Kp fl c (db c fl aI p).1/\((db c fl aI p).2.2=0->l8 p c.size=true/\D9 fl c (db c fl aI p).1 (db c fl aI p).2.1 (du p c.size).1)/\((db c fl aI p).2.2=7->(db c fl aI p).1.off=true):=by
 rw[db];split
 ·
  rename_i h;refine⟨.dk _ _,fun g=>absurd g h,fun g=>?_⟩;rcases AZ p c.size with e|e
  ·
   exact absurd e h
  ·
   simp only at g;rw[e]at g;cases g
 ·
  rename_i h;obtain⟨t1,t2,t3⟩:=Na ((cX -c.ops).toNat+1) (fl:=fl) (aI:=aI) (b:=(du p c.size).1) hk h2 (by omega);exact⟨t1,fun g=>⟨UR (by simpa using h),t2 g⟩,t3⟩
def uN(bs:List (List UInt8))(l:List (Int×List UInt8)):List (List UInt8):=l.foldl (fun b x=>b.set x.1.toNat x.2) bs
theorem Nb{α β:Type}{f:α->β}{l:List α}{i:Nat}{x:α}:(l.set i x).map f=(l.map f).set i (f x):=by rw[auP]
theorem Pl.zero{c:CV}{a:List Int}(h:Pl c a)(i:Nat):Pl c (a.set i 0):=by
 have hs: ∀(j:Nat) (y:Int),(a.set i 0)[j]? =some y->y≠0->a[j]? =some y:=fun j y hy h0=>by
  rw[atb]at hy;split at hy
  ·
   split at hy
   ·
    exact absurd (aso hy).symm h0
   cases hy
  exact hy
 exact⟨fun j y hy h0=>h.1 j y (hs j y hy h0) h0,fun j k y hj hk h0=>h.2 j k y (hs j y hj h0) (hs k y hk h0) h0⟩
theorem Pl.put{c d:CV}{a fl:List Int}{i:Nat}{n:Int}{p:PV}{pg:List UInt8}(h:Pl c a)(k:Kd fl c d)(hs: ∀m∈a,m∈fl)(g:D9 fl c d n pg)(hp:cI pg=(p,0))(hk:p.kind=1)(hi:p.id=(i:Int)):Pl d (a.set i n):=by
 have hd:=h.kd k hs;have hn: ∀m∈a,m≠n:=fun m hm e=>by
  have h0:m≠0:=by have:=g.pos;omega
  exact g.new m (hs m hm) h0 (h.place hm h0) e
 have Nc: ∀(j:Nat) (y:Int),(a.set i n)[j]? =some y->(j=i/\y=n)\/(a[j]? =some y/\y≠n):=fun j y hy=>by
  rw[atb]at hy;split at hy
  ·
   rename_i e;split at hy
   ·
    exact .inl ⟨e.symm,(aso hy).symm⟩
   cases hy
  exact .inr ⟨hy,hn y (anc hy)⟩
 refine⟨fun j y hy h0=>?_,fun j l y hj hl h0=>?_⟩
 ·
  rcases Nc j y hy with⟨rfl,rfl⟩|⟨e,_⟩
  ·
   exact agY g.ok (by rw[g.pg];exact hp) hk hi
  exact hd.1 j y e h0
 rcases Nc j y hj with⟨e1,e2⟩|⟨e1,e2⟩<;>rcases Nc l y hl with⟨e3,e4⟩|⟨e3,e4⟩
 ·
  rw[e1,e3]
 ·
  exact absurd e2 e4
 ·
  exact absurd e4 e2
 exact h.2 j l y e1 e3 h0
theorem U7{fl:List Int}{c d:CV}{n:Int}{p:PV}{pg:List UInt8}(g:D9 fl c d n pg)(hp:cI pg=(p,0)):eU d n=p.body:=by
 rw[eU,if_neg (by have:=g.pos;omega),ji,g.pg,hp,if_pos rfl]
theorem H5{v:VV}{aI:Bool}: ∀(l:List (Int×List UInt8)) {c:CV} {a:List Int},ba c=true->3<=c.blocks.length->Pl c v.at_->Pl c a->(∀x∈l,0<=x.1)->
  Kp v.at_ c (gQ v aI l c a).1/\((gQ v aI l c a).2.2=0->Pl (gQ v aI l c a).1 (gQ v aI l c a).2.1/\(gQ v aI l c a).2.1.map (eU (gQ v aI l c a).1)=uN (a.map (eU c)) l/\(gQ v aI l c a).2.1.length=a.length)/\((gQ v aI l c a).2.2=7->(gQ v aI l c a).1.off=true)
 |[],c,a,_,_,_,ha,_=>⟨.dk _ _,fun _=>⟨ha,rfl,rfl⟩,fun h=>absurd (show(0:Int)=7 from h) (by decide)⟩
 |x::r,c,a,hk,h2,hv,ha,hid=>by
  have U8: ∀y∈r,0<=y.1:=fun y hy=>hid y (asE _ hy);have vi:=hid x asv;rw[gQ]
  by_cases h0:x.2.length=0
  ·
   rw[if_pos h0];obtain⟨t1,t2,t3⟩:=H5 (v:=v) (aI:=aI) r hk h2 hv (ha.zero x.1.toNat) U8;refine⟨t1,fun h=>?_,t3⟩;obtain⟨g1,g2,g3⟩:=t2 h;refine⟨g1,?_,by rw[g3,as1]⟩;rw[g2,Nb,show eU c 0=x.2 from(asI.1 h0).symm];rfl
  ·
   rw[if_neg h0];obtain⟨k1,k2,k3⟩:=U6 (fl:=v.at_++a) (aI:=aI) (p:=iN v x) hk h2
   by_cases h1:(db c (v.at_++a) aI (iN v x)).2.2≠0
   ·
    rw[if_pos h1];exact⟨k1.sub fun n hn=>asX _ hn,fun h=>absurd h h1,k3⟩
   ·
    rw[if_neg h1];obtain⟨m1,m2⟩:=k2 (by simpa using h1);have hb:=M4 m1;have bW:=ha.put k1.toKd (fun n hn=>atO _ hn) m2 hb rfl (i:=x.1.toNat) (by show x.1=_;omega);have Bg:=hv.kd k1.toKd fun n hn=>asX _ hn;obtain⟨t1,t2,t3⟩:=H5 (v:=v) (aI:=aI) r (k1.ok hk) (by rw[k1.bV.len];exact h2) Bg bW U8;refine⟨(k1.sub fun n hn=>asX _ hn).trans t1,fun h=>?_,t3⟩;obtain⟨g1,g2,g3⟩:=t2 h;refine⟨g1,?_,by rw[g3,as1]⟩;rw[g2,Nb,U7 m2 hb,HZ ha k1.toKd fun n hn=>atO _ hn];rfl
theorem ag3{c:CV}{a0 a:List Int}{src tgt:Int}(h:(cn c a0 a src tgt).2=true)(hs:2<=src)(ht:0<=tgt->tgt≠src):(cn c a0 a src tgt).1≠src:=by
 rw[cn]at h⊢
 by_cases h1:tgt<0
 ·
  rw[if_pos h1]at h⊢
  by_cases h2:(fy ((aw c (a0++a)).set (src -2).toNat bb) c.pages).2=true
  ·
   rw[if_pos h2];obtain⟨f1,f2,f3,f4⟩:=AT h2;intro e;simp only at e;have e2:(fy ((aw c (a0++a)).set (src -2).toNat bb) c.pages).1.toNat=(src -2).toNat:=by omega
   change mH c.pages (((aw c (a0++a)).set (src -2).toNat bb).getD (fy ((aw c (a0++a)).set (src -2).toNat bb) c.pages).1.toNat eA)=true at f4;change(fy ((aw c (a0++a)).set (src -2).toNat bb) c.pages).1<_ at f3;change 0<=(fy ((aw c (a0++a)).set (src -2).toNat bb) c.pages).1 at f2;rw[as1]at f3;rw[e2]at f4;simp only[List.getD]at f4;rw[asJ (by omega)]at f4
   cases f4
  rw[if_neg h2]at h;cases h
 rw[if_neg h1];exact ht (by omega)
theorem H6{v:VV}{src tgt:Int}(nh:2<=src)(pB:0<=tgt->tgt≠src)(GG:1<=v.ae.pages): ∀(l:List Int) (id:Nat) {c:CV} {a:List Int},ba c=true->Pl v.ae v.at_->Kp v.at_ v.ae c->Pl c a->a.map (eU c)=v.at_.map (eU v.ae)->
  (0<=tgt->2<=tgt/\tgt<c.blocks.length/\(ak c tgt).bad=false)->v.at_.drop id=l->(∀j,id<=j->a[j]? =v.at_[j]?)->(∀j n,j<id->a[j]? =some n->n≠0->(n -1)/v.ae.pages≠src)->a.length=v.at_.length->
  Kp v.at_ v.ae (ca v src tgt l id c a).c/\((ca v src tgt l id c a).e=none->Pl (ca v src tgt l id c a).c (ca v src tgt l id c a).a/\(ca v src tgt l id c a).a.map (eU (ca v src tgt l id c a).c)=v.at_.map (eU v.ae)/\(ca v src tgt l id c a).a.length=v.at_.length/\
   kJ (ca v src tgt l id c a).a v.ae src)/\((ca v src tgt l id c a).e=some 7->(ca v src tgt l id c a).c.off=true)/\(ca v src tgt l id c a).e≠some 9
 |[],id,c,a,hk,hv,nS,ha,hb,ht,hl,ja,dJ,ei=>by
  refine⟨nS,fun _=>⟨ha,hb,ei,fun n hn h0=>?_⟩,fun h=>by simp[ca]at h,by simp[ca]⟩;obtain⟨j,hj⟩:=asM hn;have hlen:v.at_.length<=id:=List.drop_eq_nil_iff.1 hl;have:=(ad2.1 hj).1;exact dJ j n (by simp only[ca]at this;omega) hj h0
 |n::r,id,c,a,hk,hv,nS,ha,hb,ht,hl,ja,dJ,ei=>by
  have hn:v.at_[id]? =some n:=by
   have:=congrArg (fun l:List Int=>l[0]?) hl;simpa using this
  have hr:v.at_.drop (id+1)=r:=by
   rw[←at3,hl];rfl
  have hp:=nS.bV.pages;rw[ca]
  by_cases h1:n=0\/(n -1)/v.ae.pages≠src
  ·
   rw[if_pos h1];refine H6 nh pB GG r (id+1) hk hv nS ha hb ht hr (fun j hj=>ja j (by omega)) (fun j m hj hm h0=>?_) ei
   by_cases e:j=id
   ·
    rw[e,ja id (asu _),hn]at hm;obtain rfl:=aso hm;exact h1.resolve_left h0
   ·
    exact dJ j m (by omega) hm h0
  ·
   rw[if_neg h1];have h0:n≠0:=fun e=>h1 (.inl e)
   by_cases h2:(cn c v.at_ a src tgt).2=false
   ·
    rw[if_pos h2];exact⟨nS,fun h=>by simp at h,fun h=>by simp at h,by simp⟩
   ·
    rw[if_neg h2];have U9:(cn c v.at_ a src tgt).2=true:=by simpa using h2
    obtain⟨m1,m2,m3⟩:=R5 U9 ht;have mne:=ag3 U9 nh pB;generalize cn c v.at_ a src tgt=B at*
    by_cases h3:(eF c ((v.gen:Int)+1) id n).2≠0
    ·
     rw[if_pos h3];have A0:(eF c ((v.gen:Int)+1) id n).2=1:=(AZ _ _).resolve_left h3;exact⟨nS,fun h=>by simp at h,fun h=>absurd (A0.symm.trans (aso h)) (by decide),fun h=>absurd (A0.symm.trans (aso h)) (by decide)⟩
    ·
     rw[if_neg h3];have BO:=UR (p:=⟨1,id,((v.gen:Int)+1).toNat,ji c n⟩) (n:=c.size) (by simpa[eF]using h3);have Ea:=M4 BO;have Eb:=HX (L:=v.at_++a) (c:=c) (p:=(eF c ((v.gen:Int)+1) id n).1) m1
     by_cases h4:bx c B.1 (eF c ((v.gen:Int)+1) id n).1≠0
     ·
      rw[if_pos h4];refine⟨nS.trans (Eb.sub fun n hn=>asX _ hn),fun h=>by simp at h,fun h=>?_,fun h=>?_⟩
      ·
       have h:=aso h;rw[kb]at h;split at h
       ·
        cases h
       ·
        exact HY h
      ·
       have h:=aso h;rw[kb]at h;split at h
       ·
        cases h
       ·
        rename_i h9;exact h9 h
     ·
      rw[if_neg h4];have xw:bx c B.1 (eF c ((v.gen:Int)+1) id n).1=0:=by simpa using h4
      obtain⟨q1,q2,q3,q4⟩:=H4 (L:=v.at_++a) m1 xw;rw[hp]at q1 q2 q3 q4;have e1:B.1*v.ae.pages+(ak c B.1).used+1 -1=B.1*v.ae.pages+(ak c B.1).used:=by omega
      have Bv:D9 (v.at_++a) c (bA c B.1 (eF c ((v.gen:Int)+1) id n).1) (B.1*v.ae.pages+(ak c B.1).used+1) (eF c ((v.gen:Int)+1) id n).1:=
       ⟨by omega,by rw[e1];exact q1,by rw[e1];exact q2,fun m hm _ xX he=>by rw[he,e1,q4]at xX;cases xX⟩
      have bW:=ha.put Eb.toKd (fun n hn=>atO _ hn) Bv Ea rfl (i:=id) rfl;have rO:=U7 Bv Ea;have fT:=jI.1 (p8 xw).1;have hq:(B.1*v.ae.pages+(ak c B.1).used+1 -1)/v.ae.pages=B.1:=by
       rw[e1,aul,atE _ _ (by omega),atn fT.2.1 (by rw[←hp];exact fT.2.2.1),aup]
      have AH:eU c n=ji c n:=by
       rw[eU];split
       ·
        rename_i ag4;have TW:=hv.place (anc hn) h0;have arT:=(mF.1 TW).1;have:(n -1)/v.ae.pages<0:=au8 ag4 (by omega);omega
       ·
        rfl
      refine H6 nh pB GG r (id+1) (Eb.ok hk) hv (nS.trans (Eb.sub fun n hn=>asX _ hn)) bW ?_ (fun h=>?_) hr (fun j hj=>?_) (fun j m hj hm oq=>?_) (by rw[as1,ei])
      ·
       rw[Nb,rO,HZ ha Eb.toKd fun n hn=>atO _ hn,hb];refine xi ?_;have e3:=congrArg (fun l:List (List UInt8)=>l[id]?) hb;simp only[asB]at e3;rw[ja id (asu _),hn]at e3;rw[asB,hn];simp only[as7]at e3⊢;rw[←e3,AH]
      ·
       have:=ht h;rw[(iK c _ _).len,KZ xw];exact this
      ·
       rw[asS (by omega)];exact ja j (by omega)
      ·
       rw[atb]at hm;split at hm
       ·
        split at hm
        ·
         obtain rfl:=aso hm;rw[hq];exact mne
        ·
         cases hm
       ·
        exact dJ j m (by omega) hm oq
def iR(c:CV):Prop:= ∀f∈c.aV,f.mask=0\/f.mask=255
theorem iR.kd{L:List Int}{c d:CV}(h:iR c)(k:Kd L c d):iR d:=by unfold iR;rw[k.ox];exact h
theorem iR.Ec{c:CV}(h:iR c)(hs:(bn c).2=true):(bn c).1.mask=0\/(bn c).1.mask=255:=by
 rw[bn]at hs⊢
 cases hf:c.aV.find? fun f=>decide (f.op=c.ops)with
 |none=>rw[hf]at hs;cases hs
 |some x=>exact h x (auy hf)
theorem Va(p:List UInt8):cZ 0 p=p:=by
 rw[cZ]
 conv=>rhs;rw[←List.map_id p]
 exact atp fun x _=>by simp
theorem Vb(p:List UInt8):j8 (cZ 255 p)=true:=by
 refine C2.2 fun x hx=>?_;obtain⟨y,_,rfl⟩:=atw.1 hx;apply UInt8.eq_of_toBitVec_eq;show y.toBitVec|||255#8=255#8;exact BitVec.or_allOnes
theorem Nf{p:List UInt8}(h:j8 p=true):(bD p).2≠0:=by
 rw[bD]
 by_cases h1:n7 p.length=false
 ·
  rw[if_pos (by rw[cI,if_pos h1];decide)];rw[cI,if_pos h1];decide
 have e:cI p=(j7,0):=by rw[cI,if_neg h1,if_pos h]
 rw[e,if_neg (by decide),if_pos (show(j7,(0:Int)).1.kind=0 from rfl)];decide
theorem ag5(n:Int):j8 (ie n)=true:=C2.2 fun _ hx=>List.eq_of_mem_replicate hx
theorem uO{c:CV}(hb:gn c=true){k:Nat}(hk:(k:Int)<2*c.pages):((ak c 0).pages++(ak c 1).pages).getD k []=bL c k:=by
 obtain⟨l0,l1⟩:=D8 hb;have hp:2<=c.pages:=(fS.1 hb).2.2.1;rw[bL]
 by_cases h:(k:Int)<c.pages
 ·
  rw[atn (by omega) h,avb (by omega) h,atu];simp only[List.getD];rw[asG (by omega)]
 have e1:(k:Int)/c.pages=1:=by
  have:(k:Int)=(k -c.pages)+1*c.pages:=by omega
  rw[this,atE _ _ (by omega),atn (by omega) (by omega)];rfl
 have e2:(k:Int)%c.pages=k -c.pages:=by
  have:(k:Int)=(k -c.pages)+1*c.pages:=by omega
  rw[this,au5,avb (by omega) (by omega)];omega
 rw[e1,e2];simp only[List.getD];rw[asA (by omega)];congr 2;omega
theorem Vc{c:CV}(hb:gn c=true){i:Int}(h0:0<=i)(h1:i<2*c.pages)(hi:(bD (bL c i)).2=0)(iT: ∀k,0<=k->k<2*c.pages->(bD (bL c k)).2=0-> ¬((bD (bL c i)).1.gen<(bD (bL c k)).1.gen\/((bD (bL c k)).1.gen=(bD (bL c i)).1.gen/\i<k))):
  bP c=(i,(bD (bL c i)).1,0):=by
 obtain⟨l0,l1⟩:=D8 hb;obtain⟨n,rfl⟩: ∃n:Nat,i=n:=⟨i.toNat,by omega⟩;have hl:((ak c 0).pages++(ak c 1).pages).length=(ak c 0).pages.length+(ak c 1).pages.length:=af0;have hn:n<((ak c 0).pages++(ak c 1).pages).length:=by omega
 have:=Sg hn (GN.2 ⟨by rw[uO hb h1];exact hi,fun k hk hv=>by
  rw[uO hb h1,uO hb (by omega)];rw[uO hb (by omega)]at hv;have:=iT k (by omega) (by omega) hv;omega⟩)
 rw[bP,this,uO hb h1]
theorem Vd{c:CV}(hb:gn c=true)(h:(bP c).2.2=0):bD (bL c (bP c).1)=((bP c).2.1,0)/\ ∀k,0<=k->k<2*c.pages->(bD (bL c k)).2=0-> ¬((bP c).2.1.gen<(bD (bL c k)).1.gen\/((bD (bL c k)).1.gen=(bP c).2.1.gen/\(bP c).1<k)):=by
 obtain⟨l0,l1⟩:=D8 hb;have hl:((ak c 0).pages++(ak c 1).pages).length=(ak c 0).pages.length+(ak c 1).pages.length:=af0
 by_cases hex: ∃i,i<((ak c 0).pages++(ak c 1).pages).length/\yY ((ak c 0).pages++(ak c 1).pages) i=true
 ·
  obtain⟨i,hi,Ve⟩:=hex;have e:=Sg hi Ve;obtain⟨g1,g2⟩:=GN.1 Ve;rw[uO hb (by omega)]at e g1;rw[bP,e];refine⟨by rw[←g1],fun k k0 k1 hv=>?_⟩;obtain⟨n,rfl⟩: ∃n:Nat,k=n:=⟨k.toNat,by omega⟩;have:=g2 n (by omega) (by rw[uO hb k1];exact hv);rw[uO hb k1,uO hb (by omega)]at this;simp only;omega
 have:=ab9 (l:=(ak c 0).pages++(ak c 1).pages) fun i hi=>by
  cases hq:yY ((ak c 0).pages++(ak c 1).pages) i with
  |false=>rfl
  |true=>exact absurd ⟨i,hi,hq⟩ hex
 rw[bP,this]at h;simp only at h;split at h<;>cases h
structure Wv(g:Nat)(at_:List Int)(last:Int)(a:List Int)(c:CV):Prop where
 bears:gn c=true
 Bd: ∃i:Int,0<=i/\i<2*c.pages/\bD (bL c i)=(⟨g,at_⟩,0)/\i/c.pages=last/\i%c.pages<(ak c last).used/\
  ∀k,0<=k->k<2*c.pages->(bD (bL c k)).2=0->(bD (bL c k)).1.gen<g\/((bD (bL c k)).1.gen=g/\k<=i)\/(bD (bL c k)=(⟨g+1,a⟩,0)/\k%c.pages<(ak c (k/c.pages)).used)
theorem fA.wv{x:VV}(h:fA x)(a:List Int):Wv x.gen x.at_ x.last a x.ae:=by
 obtain⟨h1,h2⟩:=Vd h.bears h.roots;have hr:=U2 h.bears;refine⟨h.bears,(bP x.ae).1,hr.1,hr.2,?_,h.last,by rw[←h.last];exact h.used,fun k k0 k1 hv=>?_⟩
 ·
  rw[h1,←h.at_,←h.gen]
 have:=h2 k k0 k1 hv;rw[h.gen]at this;omega
theorem Wv.step{g:Nat}{at_ a:List Int}{last:Int}{c d:CV}(h:Wv g at_ last a c)(hb:gn d=true)(hP:d.pages=c.pages)
  (hl: ∀i,0<=i->i/c.pages=last->i%c.pages<(ak c last).used->bL d i=bL c i/\i%c.pages<(ak d last).used)
  (hk: ∀k,0<=k->k<2*c.pages->(bD (bL d k)).2=0->(bL d k=bL c k/\(k%c.pages<(ak c (k/c.pages)).used->k%c.pages<(ak d (k/c.pages)).used))\/(bD (bL d k)=(⟨g+1,a⟩,0)/\k%c.pages<(ak d (k/c.pages)).used)):Wv g at_ last a d:=by
 obtain⟨i,i0,i1,i2,i3,i4,i5⟩:=h.Bd;obtain⟨e1,e2⟩:=hl i i0 i3 i4;refine⟨hb,i,i0,by rw[hP];exact i1,by rw[e1];exact i2,by rw[hP];exact i3,by rw[hP];exact e2,fun k k0 k1 hv=>?_⟩;rw[hP]at k1⊢;rcases hk k k0 k1 hv with⟨q1,q2⟩|q
 ·
  rw[q1]at hv⊢;rcases i5 k k0 k1 hv with r|r|r
  ·
   exact .inl r
  ·
   exact .inr (.inl r)
  ·
   exact .inr (.inr ⟨r.1,q2 r.2⟩)
 ·
  exact .inr (.inr q)
theorem Wv.Vf{g:Nat}{at_ a:List Int}{last:Int}{c:CV}(h:Wv g at_ last a c)(hp:Pl c at_)(fP: ∀k,0<=k->k<2*c.pages->bD (bL c k)≠(⟨g+1,a⟩,0)):fA ⟨c,at_,g,last⟩:=by
 obtain⟨i,i0,i1,i2,i3,i4,i5⟩:=h.Bd;have e:=Vc h.bears i0 i1 (by rw[i2]) (fun k k0 k1 hv=>by
  rw[i2];rcases i5 k k0 k1 hv with r|r|r
  ·
   simp only;omega
  ·
   simp only;omega
  exact absurd r.1 (fP k k0 k1))
 rw[i2]at e;exact⟨h.bears,by show(bP c).2.2=0;rw[e],by show(bP c).1%c.pages<(ak c ((bP c).1/c.pages)).used;rw[e];simp only;rw[i3];exact i4,hp,by show(bP c).2.1.at_=at_;rw[e],by show(bP c).2.1.gen=g;rw[e],by show(bP c).1/c.pages=last;rw[e];exact i3⟩
theorem Vg{P:Int->Prop}{m:Int}: ∀(n:Nat),(∃k,0<=k/\k<m/\P k/\m -k<=n)-> ∃i,0<=i/\i<m/\P i/\ ∀k,k<m->P k->k<=i
 |0,⟨k,_,h1,_,h3⟩=>by omega
 |n+1,⟨k,h0,h1,h2,h3⟩=>by
  by_cases h: ∃j,0<=j/\j<m/\P j/\m -j<=n
  ·
   exact Vg n h
  refine⟨k,h0,h1,h2,fun j hj hP=>?_⟩;apply asH;intro bc;exact h ⟨j,by omega,hj,hP,by omega⟩
theorem Wv.Vh{g:Nat}{at_ a:List Int}{last:Int}{c:CV}(h:Wv g at_ last a c)(hp:Pl c a){k0:Int}(q0:0<=k0)(q1:k0<2*c.pages)(q2:bD (bL c k0)=(⟨g+1,a⟩,0)):
  ∃i,fA ⟨c,a,g+1,i/c.pages⟩/\0<=i/\i<2*c.pages/\bD (bL c i)=(⟨g+1,a⟩,0)/\ ∀k,k<2*c.pages->bD (bL c k)=(⟨g+1,a⟩,0)->k<=i:=by
 obtain⟨i,i0,i1,i2,i3⟩:=Vg (P:=fun k=>bD (bL c k)=(⟨g+1,a⟩,0)) (m:=2*c.pages) (2*c.pages -k0).toNat ⟨k0,q0,q1,q2,by omega⟩;obtain⟨j,j0,j1,j2,j3,j4,j5⟩:=h.Bd;have e:=Vc h.bears i0 i1 (by rw[i2]) (fun k k0 k1 hv=>by
  rw[i2];rcases j5 k k0 k1 hv with r|r|r
  ·
   simp only;omega
  ·
   simp only;omega
  ·
   have:=i3 k k1 r.1;rw[r.1];simp only;omega)
 rw[i2]at e;have hu:i%c.pages<(ak c (i/c.pages)).used:=by
  rcases j5 i i0 i1 (by rw[i2])with r|r|r
  ·
   rw[i2]at r;simp only at r;omega
  ·
   rw[i2]at r;simp only at r;omega
  ·
   exact r.2
 exact⟨i,⟨h.bears,by show(bP c).2.2=0;rw[e],by show(bP c).1%c.pages<(ak c ((bP c).1/c.pages)).used;rw[e];exact hu,hp,by show(bP c).2.1.at_=a;rw[e],by show(bP c).2.1.gen=g+1;rw[e],by show(bP c).1/c.pages=_;rw[e]⟩,i0,i1,i2,i3⟩
theorem Wv.some{g:Nat}{at_ a:List Int}{last:Int}{c:CV}(h:Wv g at_ last a c)(h1:Pl c at_)(h2:Pl c a): ∃u,fA u/\u.ae=c/\(u=⟨c,at_,g,last⟩\/(u.at_=a/\u.gen=g+1)):=by
 by_cases hex: ∃k,0<=k/\k<2*c.pages/\bD (bL c k)=(⟨g+1,a⟩,0)
 ·
  obtain⟨k,k0,k1,k2⟩:=hex;obtain⟨i,hi,_⟩:=h.Vh h2 k0 k1 k2;exact⟨_,hi,rfl, .inr ⟨rfl,rfl⟩⟩
 exact⟨_,h.Vf h1 fun k k0 k1 e=>hex ⟨k,k0,k1,e⟩,rfl, .inl rfl⟩
theorem wj{c:CV}{b e k:Int}:(ak (jk c b e) k).pages=(ak c k).pages/\(ak (jk c b e) k).used=(ak c k).used:=by
 rw[jk];split
 ·
  exact UT
 exact⟨rfl,rfl⟩
theorem H7{c:CV}{b e k:Int}:bL (jk c b e) k=bL c k:=by
 rw[bL,bL,(Gw c b e).pages,wj.1]
theorem Vi{c:CV}{b k:Int}(bW:iR c)(hk:0<=k)(hp:1<=c.pages)(qE:k/c.pages=b)(hv:(bD (bL (dv c b) k)).2=0):bL (dv c b) k=bL c k/\(k%c.pages<(ak c b).used->k%c.pages<(ak (dv c b) b).used):=by
 rw[dv,H7]at hv⊢;rw[wj.2]
 by_cases h:oX c b=true/\c.off=false/\(ak c b).bad=false
 ·
  have hh:=(pY.1 h.1).1;have e:gk c b=kU c b:=if_pos h;have eb:ak (kU c b) b={ak c b with used:=if(bn c).2=true then c.pages else 0,aR:=(ak c b).aR+1,pages:=sI c (ak c b).pages}:=qJ hh
  have oq:0<=k%c.pages:=auw _ (by omega);have qe:k%c.pages<c.pages:=auE _ (by omega);have Dw:=(fk.1 (qI hh)).1;have Ed:bL (kU c b) k=(sI c (ak c b).pages).getD (k%c.pages).toNat []:=by
   show(ak (kU c b) (k/c.pages)).pages.getD _ []=_;rw[qE,eb];rfl
  obtain⟨x,hx⟩: ∃x,(ak c b).pages[(k%c.pages).toNat]? =some x:=⟨_,asr (by omega)⟩;have ec:bL c k=x:=by rw[bL,qE];simp[List.getD,hx]
  rw[e]at hv⊢;rw[Ed,sI]at hv⊢
  by_cases hs:(bn c).2=true
  ·
   rw[if_pos hs]at hv⊢;have eg:((ak c b).pages.map (cZ (bn c).1.mask)).getD (k%c.pages).toNat []=cZ (bn c).1.mask x:=by simp[List.getD,hx]
   rw[eg]at hv⊢;rcases bW.Ec hs with m|m
   ·
    rw[m,Va,ec,eb];exact⟨rfl,fun _=>by simp only;rw[if_pos hs];exact qe⟩
   rw[m]at hv;exact absurd hv (Nf (Vb x))
  rw[if_neg hs]at hv;have eg:((ak c b).pages.map fun _=>ie c.size).getD (k%c.pages).toNat []=ie c.size:=by simp[List.getD,hx]
  rw[eg]at hv;exact absurd hv (Nf (ag5 _))
 rw[gk,if_neg h];exact⟨rfl,id⟩
theorem Wv.erase{g:Nat}{at_ a:List Int}{last:Int}{c:CV}(h:Wv g at_ last a c)(bW:iR c){b:Int}(hb:b≠last)(nF:0<=b)(mE:0<=last):Wv g at_ last a (dv c b):=by
 have hP:=(xo c b).pages;have hp:2<=c.pages:=(fS.1 h.bears).2.2.1;have pt:gn (dv c b)=true:=by
  obtain⟨h1,h2,h3,h4⟩:=fS.1 h.bears;exact fS.2 ⟨C8 h1 b,by rw[(xo c b).len];exact h2,by rw[hP];exact h3,by rw[(xo c b).size];exact h4⟩
 have tt: ∀k,0<=k->k≠b->(ak (dv c b) k).pages=(ak c k).pages/\(ak (dv c b) k).used=(ak c k).used:=fun k k0 hk=>by
  rw[dv,wj.1,wj.2,BM (by omega)];exact⟨rfl,rfl⟩
 refine h.step pt hP (fun i i0 i1 i2=>?_) fun k k0 k1 hv=> .inl ?_
 ·
  obtain⟨e1,e2⟩:=tt last mE (fun e=>hb e.symm);exact⟨by rw[bL,bL,hP,i1,e1],by rw[e2];exact i2⟩
 by_cases e:k/c.pages=b
 ·
  have:=Vi bW k0 (by omega) e hv;rw[e];exact this
 obtain⟨e1,e2⟩:=tt (k/c.pages) (auu k0 (by omega)) e;exact⟨by rw[bL,bL,hP,e1],by rw[e2];exact id⟩
theorem ag6{c:CV}{b k:Int}{p:List UInt8}(bW:iR c)(hk:0<=k)(hp:1<=c.pages)(qE:k/c.pages=b)(hv:(bD (bL (bA c b p) k)).2=0):
  (bL (bA c b p) k=bL c k/\(k%c.pages<(ak c b).used->k%c.pages<(ak (bA c b p) b).used))\/(bL (bA c b p) k=p/\k%c.pages<(ak (bA c b p) b).used):=by
 rw[bA,H7]at hv⊢;rw[wj.2]
 by_cases h:n0 c b (ak c b).used p=true/\c.off=false/\(ak c b).bad=false/\(ak c b).used=(ak c b).used
 ·
  obtain⟨hh,u0,u1,_,_⟩:=jI.1 h.1;have e:gN c b (ak c b).used p=iH c b (ak c b).used p:=if_pos h;have eb:ak (iH c b (ak c b).used p) b={ak c b with used:=(ak c b).used+1,pages:=(ak c b).pages.set (ak c b).used.toNat (oW c p)}:=qJ hh
  have oq:0<=k%c.pages:=auw _ (by omega);have qe:k%c.pages<c.pages:=auE _ (by omega);have Dw:=(fk.1 (qI hh)).1;have Ed:bL (iH c b (ak c b).used p) k=((ak c b).pages.set (ak c b).used.toNat (oW c p)).getD (k%c.pages).toNat []:=by
   show(ak (iH c b (ak c b).used p) (k/c.pages)).pages.getD _ []=_;rw[qE,eb];rfl
  rw[e]at hv⊢;rw[Ed]at hv⊢
  by_cases hj:k%c.pages=(ak c b).used
  ·
   have eg:((ak c b).pages.set (ak c b).used.toNat (oW c p)).getD (k%c.pages).toNat []=oW c p:=by
    rw[hj];simp only[List.getD];rw[asJ (by omega)];rfl
   rw[eg]at hv⊢;right;refine⟨?_,by rw[eb];simp only;omega⟩;rw[oW]at hv⊢;split
   ·
    rename_i hs;rw[if_pos hs]at hv;rcases bW.Ec hs with m|m
    ·
     rw[m]at hv;exact absurd hv (Nf (Vb p))
    ·
     rw[m];exact Va p
   ·
    rfl
  ·
   left;refine⟨?_,fun bc=>by rw[eb];simp only;omega⟩;simp only[List.getD];rw[asS (by omega),bL,qE];rfl
 ·
  left;rw[gN,if_neg h];exact⟨rfl,id⟩
theorem ag7{c:CV}{b k:Int}{p:List UInt8}(hp:1<=c.pages)(qE:k/c.pages=b)(hu:k%c.pages<(ak c b).used):bL (bA c b p) k=bL c k/\k%c.pages<(ak (bA c b p) b).used:=by
 rw[bA,H7,wj.2]
 by_cases h:n0 c b (ak c b).used p=true/\c.off=false/\(ak c b).bad=false/\(ak c b).used=(ak c b).used
 ·
  obtain⟨hh,u0,u1,_,_⟩:=jI.1 h.1;have e:gN c b (ak c b).used p=iH c b (ak c b).used p:=if_pos h;have eb:ak (iH c b (ak c b).used p) b={ak c b with used:=(ak c b).used+1,pages:=(ak c b).pages.set (ak c b).used.toNat (oW c p)}:=qJ hh
  have oq:0<=k%c.pages:=auw _ (by omega);have Ed:bL (iH c b (ak c b).used p) k=((ak c b).pages.set (ak c b).used.toNat (oW c p)).getD (k%c.pages).toNat []:=by
   show(ak (iH c b (ak c b).used p) (k/c.pages)).pages.getD _ []=_;rw[qE,eb];rfl
  rw[e,Ed,eb];refine⟨?_,by simp only;omega⟩;simp only[List.getD];rw[asS (by omega),bL,qE];rfl
 rw[gN,if_neg h];exact⟨rfl,hu⟩
theorem Wv.prog{g:Nat}{at_ a:List Int}{last:Int}{c:CV}{p:List UInt8}(h:Wv g at_ last a c)(bW:iR c){b:Int}(nF:0<=b)(mE:0<=last)(hr:bD p=(⟨g+1,a⟩,0)):Wv g at_ last a (bA c b p):=by
 have hP:=(iK c b p).pages;have hp:2<=c.pages:=(fS.1 h.bears).2.2.1;have pt:gn (bA c b p)=true:=by
  obtain⟨h1,h2,h3,h4⟩:=fS.1 h.bears;exact fS.2 ⟨lF h1 b p,by rw[(iK c b p).len];exact h2,by rw[hP];exact h3,by rw[(iK c b p).size];exact h4⟩
 have tt: ∀k,0<=k->k≠b->(ak (bA c b p) k).pages=(ak c k).pages/\(ak (bA c b p) k).used=(ak c k).used:=fun k k0 hk=>by
  rw[bA,wj.1,wj.2,UU (by omega)];exact⟨rfl,rfl⟩
 refine h.step pt hP (fun i i0 i1 i2=>?_) fun k k0 k1 hv=>?_
 ·
  by_cases e:last=b
  ·
   have:=ag7 (p:=p) (show 1<=c.pages by omega) (i1.trans e) (by rw[←e];exact i2);rw[e];exact this
  obtain⟨e1,e2⟩:=tt last mE e;exact⟨by rw[bL,bL,hP,i1,e1],by rw[e2];exact i2⟩
 by_cases e:k/c.pages=b
 ·
  rcases ag6 bW k0 (by omega) e hv with q|q
  ·
   left;rw[e];exact q
  right;rw[q.1,e];exact⟨hr,q.2⟩
 obtain⟨e1,e2⟩:=tt (k/c.pages) (auu k0 (by omega)) e;exact .inl ⟨by rw[bL,bL,hP,e1],by rw[e2];exact id⟩
def H8(c:CV):Prop:=cX<=c.ops\/ ∃b,cX<=(ak c b).aR
def tu(g:Nat)(a:List Int)(c:CV):Prop:= ∀k,0<=k->k<2*c.pages->bD (bL c k)≠(⟨g+1,a⟩,0)
theorem ag8{c:CV}(h:c.aV=[]):(bn c).2=false:=by rw[bn,h];rfl
theorem Vj{c:CV}{b:Int}{p:List UInt8}(h:c.aV=[])(he:bx c b p≠0):gN c b (ak c b).used p=c:=by
 rw[gN,if_neg];rintro⟨h1,h2,h3,h4⟩;apply he;rw[bx,kA,if_pos h1,if_neg (by rw[h2];simp),if_neg (by rw[h3];simp),if_neg (by rw[ag8 h];simp)]
theorem tu.erase{g:Nat}{a:List Int}{c:CV}(h:tu g a c)(hb:gn c=true)(bW:iR c){b:Int}(nF:0<=b):tu g a (dv c b):=by
 have hP:=(xo c b).pages;have hp:2<=c.pages:=(fS.1 hb).2.2.1;intro k k0 k1 he;rw[hP]at k1
 by_cases e:k/c.pages=b
 ·
  have:=(Vi bW k0 (by omega) e (by rw[he])).1;rw[this]at he;exact h k k0 k1 he
 have:bL (dv c b) k=bL c k:=by
  have hk:=auu k0 (show 0<=c.pages by omega);rw[bL,bL,hP,dv,wj.1,BM (by omega)]
 rw[this]at he;exact h k k0 k1 he
theorem ag9{c:CV}{b:Int}(q:ez c b=1):oX c b=false:=by
 cases ho:oX c b with
 |false=>rfl
 |true=>
  exfalso;rw[ez,if_pos ho]at q
  by_cases h1:c.off=true
  ·
   rw[if_pos h1]at q;cases q
  rw[if_neg h1]at q
  by_cases h2:(ak c b).bad=true
  ·
   rw[if_pos h2]at q;cases q
  rw[if_neg h2]at q
  by_cases h3:(bn c).2=true
  ·
   rw[if_pos h3,lY]at q;split at q<;>cases q
  rw[if_neg h3]at q;cases q
theorem aha{g:Nat}{at_ a:List Int}{last:Int}{c:CV}(h:Wv g at_ last a c)(bW:iR c)(hl:last=0\/last=1):
  (∀L,Kd L c (aY c last).1)/\Wv g at_ last a (aY c last).1/\(tu g a c->tu g a (aY c last).1)/\((aY c last).2.2=7->(aY c last).1.off=true)/\
   ((aY c last).2.2=0->((aY c last).2.1=0\/(aY c last).2.1=1)/\0<eC (aY c last).1 (aY c last).2.1)/\((aY c last).2.2≠0->(aY c last).2.2=7\/(aY c last).2.2=9\/((aY c last).2.2=1/\H8 (aY c last).1)):=by
 have hk:=(fS.1 h.bears).1;have h4:=(fS.1 h.bears).2.1;have z7: ∀{P:Prop},(0:Int)=7->P:=fun h=>absurd h (by decide);rw[aY]
 by_cases h1:0<eC c last
 ·
  rw[if_pos h1];exact⟨fun L=> .dk _ _,h,id,fun h=>z7 h,fun _=>⟨hl,h1⟩,fun h=>absurd rfl h⟩
 ·
  rw[if_neg h1]
  by_cases h2:0<eC c (1 -last)
  ·
   rw[if_pos h2];exact⟨fun L=> .dk _ _,h,id,fun h=>z7 h,fun _=>⟨by simp only;omega,h2⟩,fun h=>absurd rfl h⟩
  ·
   rw[if_neg h2]
   by_cases h3:(ak c (1 -last)).bad=true
   ·
    rw[if_pos h3];exact⟨fun L=> .dk _ _,h,id,fun h=>absurd (show(9:Int)=7 from h) (by decide),fun h=>absurd (show(9:Int)=0 from h) (by decide),fun _=> .inr (.inl rfl)⟩
   ·
    rw[if_neg h3];refine⟨fun L=>agU (by omega),h.erase bW (by omega) (by omega) (by omega),fun g=>g.erase h.bears bW (by omega),UZ,fun he=>⟨by simp only;omega,?_⟩,fun he=>?_⟩
    ·
     obtain⟨e1,e2,e3,e4,e5⟩:=De he;have hh:=(pY.1 e1).1;have hd:=eY hk;show 0<eC (dv c (1 -last)) (1 -last);rw[e5,eC,kU,qJ hh,e4,e3];simp only[as2,if_false];omega
    ·
     simp only at he;rcases K1 c (1 -last)with q|q|q|q
     ·
      exact absurd q he
     ·
      refine .inr (.inr ⟨q,?_⟩);simp only;have fP:=ag9 q;have ahb:dv c (1 -last)=c:=by rw[dv,q,jk,if_neg (by decide),gk,if_neg (by rw[fP];simp)]
      rw[ahb];have hh:ib c (1 -last)=true:=ic.2 ⟨hk,by omega,by omega⟩
      by_cases ho:c.ops<cX
      ·
       right;refine⟨1 -last,?_⟩;apply asH;intro hw;rw[pY.2 ⟨hh,ho,by omega⟩]at fP;cases fP
      ·
       exact .inl (by omega)
     ·
      exact .inl q
     ·
      exact .inr (.inl q)
theorem ahc{c:CV}{b:Int}{p:List UInt8}(hh:ib c b=true)(hf:0<eC c b)(hl:(p.length:Int)=c.size)(h:bx c b p=1):cX<=c.ops/\gN c b (ak c b).used p=c:=by
 have fP:n0 c b (ak c b).used p=false:=by
  cases ho:n0 c b (ak c b).used p with
  |false=>rfl
  |true=>
   rw[bx,kA,if_pos ho]at h;split at h
   ·
    cases h
   split at h
   ·
    cases h
   split at h
   ·
    rw[lY]at h;split at h<;>cases h
   cases h
 have hu:=(fk.1 (qI hh)).2.1;have hb:=GC hf;rw[eC,if_neg (by rw[hb];simp)]at hf;refine⟨?_,by rw[gN,if_neg (by rw[fP];simp)]⟩;apply asH;intro hw;rw[jI.2 ⟨hh,hu,by omega,hl,by omega⟩]at fP;cases fP
theorem tu.prog{g:Nat}{a:List Int}{c:CV}{b:Int}{p:List UInt8}(h:tu g a c)(hf:c.aV=[])(he:bx c b p≠0):tu g a (bA c b p):=by
 intro k k0 k1 e;rw[bA,H7,Vj hf he]at e;rw[bA,(Gw _ _ _).pages,Vj hf he]at k1;exact h k k0 k1 e
theorem Vk{p:List UInt8}: ∀(l:List (List UInt8)) (m:Nat),m<=l.foldl (fun m p=>max m (kW p)) m/\(p∈l->kW p<=l.foldl (fun m p=>max m (kW p)) m)
 |[],m=>⟨Nat.le_refl _,fun h=>by cases h⟩
 |q::r,m=>by
  obtain⟨h1,h2⟩:=Vk (p:=p) r (max m (kW q));refine⟨by rw[at4];omega,fun h=>?_⟩;rw[at4];rcases asw.1 h with rfl|h
  ·
   omega
  exact h2 h
theorem Ng{M:Nat}: ∀(l:List (List UInt8)) (m:Nat),m<=M->(∀p∈l,kW p<=M)->l.foldl (fun m p=>max m (kW p)) m<=M
 |[],m,h,_=>h
 |q::r,m,h,hp=>by
  rw[at4];exact Ng r _ (by have:=hp q asv;omega) fun p fE=>hp p (asE _ fE)
theorem Wv.last{g:Nat}{at_ a:List Int}{last:Int}{c:CV}(h:Wv g at_ last a c)(hp:Pl c a){b:Int}(hb:b=0\/b=1){k0:Int}(q0:0<=k0)(q1:k0/c.pages=b)(q2:bD (bL c k0)=(⟨g+1,a⟩,0)):
  fA ⟨c,a,g+1,if lH c 1=g+1 then 1 else b⟩:=by
 have gy:2<=c.pages:=(fS.1 h.bears).2.2.1;obtain⟨l0,l1⟩:=D8 h.bears;have bc: ∀k:Int,k/c.pages<2->k<2*c.pages:=fun k hk=>by
  apply asH;intro hn;have:2<=k/c.pages:=by
   have:=Int.ediv_le_ediv (show 0<c.pages by omega) (show 2*c.pages<=k by omega);rwa [Int.mul_ediv_cancel _ (by omega)]at this
  omega
 obtain⟨i,hR,i0,i1,i2,i3⟩:=h.Vh hp q0 (bc k0 (by omega)) q2;have L8:i/c.pages=0\/i/c.pages=1:=by
  have h1:=auu i0 (show 0<=c.pages by omega);have h2:i/c.pages<2:=Int.ediv_lt_of_lt_mul (by omega) i1;omega
 have hle: ∀k,0<=k->k<2*c.pages->kW (bL c k)<=g+1:=fun k k0 k1=>by
  rw[kW];split
  ·
   rename_i hv;obtain⟨j,_,_,_,_,_,j5⟩:=h.Bd;rcases j5 k k0 k1 hv with r|r|r
   ·
    omega
   ·
    omega
   ·
    rw[r.1];exact asu _
  ·
   omega
 have Vl: ∀p∈(ak c 1).pages,∃k,c.pages<=k/\k<2*c.pages/\bL c k=p:=fun p xX=>by
  obtain⟨j,hj⟩:=asM xX;have iu:=(ad2.1 hj).1;refine⟨c.pages+j,by omega,by omega,?_⟩;have:=uO h.bears (k:=(ak c 0).pages.length+j) (by omega);rw[show(((ak c 0).pages.length+j:Nat):Int)=c.pages+j by omega]at this;rw[←this];simp only[List.getD];rw[asA (by omega),atG,hj];rfl
 have ahd:i/c.pages=(if lH c 1=g+1 then 1 else b):=by
  rcases L8 with e|e
  ·
   have dK:i<c.pages:=by
    apply asH;intro hn;have:=Int.ediv_le_ediv (show 0<c.pages by omega) (show c.pages<=i by omega);rw[Int.ediv_self (by omega)]at this;omega
   have hg:lH c 1<=g:=by
    refine Ng _ 0 (asO _) fun p xX=>?_;obtain⟨k,xG,oJ,rfl⟩:=Vl p xX;rw[kW];split
    ·
     rename_i hv;obtain⟨j,_,_,_,_,_,j5⟩:=h.Bd;rcases j5 k (by omega) oJ hv with r|r|r
     ·
      omega
     ·
      omega
     ·
      have:=i3 k oJ r.1;omega
    ·
     omega
   rw[if_neg (by omega),e];have arU:=i3 k0 (bc k0 (by omega)) q2;have:k0/c.pages=0:=atn q0 (by omega);omega
  ·
   have dK:c.pages<=i:=by
    apply asH;intro hn;have:i/c.pages=0:=atn i0 (by omega);omega
   have hg:lH c 1=g+1:=by
    have h1:lH c 1<=g+1:=Ng _ 0 (asO _) fun p xX=>by
     obtain⟨k,xG,oJ,rfl⟩:=Vl p xX;exact hle k (by omega) oJ
    have h2:bL c i∈(ak c 1).pages:=by
     rw[bL,e];have oq:0<=i%c.pages:=auw _ (by omega);have qe:i%c.pages<c.pages:=auE _ (by omega);have hj:(i%c.pages).toNat<(ak c 1).pages.length:=by omega
     simp only[List.getD];rw[asr hj];exact auf hj
    have h3:=(Vk (p:=bL c i) (ak c 1).pages 0).2 h2;have h4:kW (bL c i)=g+1:=by rw[kW,if_pos (by rw[i2]),i2]
    have h5:lH c 1=(ak c 1).pages.foldl (fun m p=>max m (kW p)) 0:=rfl;omega
   rw[if_pos hg,e]
 rw[←ahd];exact hR
theorem Vm: ∀(n:Nat) {x:WV} {a:List Int} {b:List UInt8},cY x->Wv x.v.gen x.v.at_ x.v.last a x.v.ae->Pl x.v.ae a->iR x.v.ae->bD b=(⟨x.v.gen+1,a⟩,0)->(b.length:Int)=x.v.ae.size->(cX -x.v.ae.ops).toNat<n->
  (∀L,Kd L x.v.ae (gV n x a b).1.v.ae)/\((gV n x a b).2=0->fA (gV n x a b).1.v/\(gV n x a b).1.v.at_=a)/\
  ((gV n x a b).2≠0->(gV n x a b).1=x.on (gV n x a b).1.v.ae/\Wv x.v.gen x.v.at_ x.v.last a (gV n x a b).1.v.ae/\(x.v.ae.aV=[]->tu x.v.gen a x.v.ae->tu x.v.gen a (gV n x a b).1.v.ae)/\
   ((gV n x a b).2=7\/(gV n x a b).2=9\/((gV n x a b).2=1/\H8 (gV n x a b).1.v.ae)))/\((gV n x a b).2=7->(gV n x a b).1.v.ae.off=true)
 |0,x,a,b,_,_,_,_,_,_,hn=>by omega
 |n+1,x,a,b,hx,hw,ha,bW,hr,dW,hn=>by
  have hl:=hx.last;obtain⟨k1,k2,k3,k4,k5,k6⟩:=aha hw bW hl;obtain⟨o1,o2,o3,o4⟩:=GD (last:=x.v.last) hx.ae hl;have mE:0<=x.v.last:=by omega
  rw[gV]
  by_cases h0:(aY x.v.ae x.v.last).2.2≠0
  ·
   rw[if_pos h0];exact⟨k1,fun h=>absurd h h0,fun _=>⟨rfl,k2,fun _ g=>k3 g,k6 h0⟩,k4⟩
  ·
   rw[if_neg h0];obtain⟨g1,g2⟩:=k5 (by simpa using h0);have ahe:iR (aY x.v.ae x.v.last).1:=bW.kd (k1 []);have hh:ib (aY x.v.ae x.v.last).1 (aY x.v.ae x.v.last).2.1=true:=by
    have:=(fS.1 k2.bears).2.1;exact ic.2 ⟨o1,by omega,by omega⟩
   have nF:0<=(aY x.v.ae x.v.last).2.1:=by omega
   have dX:=k2.prog ahe nF mE hr;have wm: ∀L,Kd L x.v.ae (bA (aY x.v.ae x.v.last).1 (aY x.v.ae x.v.last).2.1 b):=fun L=>(k1 L).trans HW
   by_cases h1:bx (aY x.v.ae x.v.last).1 (aY x.v.ae x.v.last).2.1 b=0
   ·
    rw[if_pos h1];refine⟨wm,fun _=>⟨?_,rfl⟩,fun h=>absurd rfl h,fun h=>absurd (show(0:Int)=7 from h) (by decide)⟩;have hz:=p8 h1;obtain⟨j1,j2,j3,j4,j5⟩:=jI.1 hz.1;have hP:=(iK (aY x.v.ae x.v.last).1 (aY x.v.ae x.v.last).2.1 b).pages;generalize(aY x.v.ae x.v.last).1=c at*;generalize(aY x.v.ae x.v.last).2.1=B at*;have hd:(B*c.pages+(ak c B).used)/c.pages=B:=by
     rw[aul,atE _ _ (by omega),atn j2 j3,aup]
    have hm:(B*c.pages+(ak c B).used)%c.pages=(ak c B).used:=by
     rw[aul,au5,avb j2 j3]
    have Dw:=(fk.1 (qI j1)).1;have qg:bL (bA c B b) (B*c.pages+(ak c B).used)=b:=by
     rw[hz.2.2.2.2];show(ak _ ((B*c.pages+(ak c B).used)/c.pages)).pages.getD ((B*c.pages+(ak c B).used)%c.pages).toNat []=b;rw[hd,hm,iH,qJ j1];simp only[List.getD];rw[asJ (by omega),oW,hz.2.2.2.1];rfl
    have:0<=B*c.pages:=aub nF (by omega);exact dX.last (k0:=B*c.pages+(ak c B).used) (ha.kd (wm a) fun _ g=>g) g1 (by omega) (by rw[hP,hd]) (by rw[qg];exact hr)
   ·
    rw[if_neg h1]
    by_cases h9:bx (aY x.v.ae x.v.last).1 (aY x.v.ae x.v.last).2.1 b≠9
    ·
     rw[if_pos h9];refine⟨wm,fun h=>absurd h h1,fun _=>⟨rfl,dX,fun hf fP=>(k3 fP).prog (by rw[(k1 []).ox];exact hf) h1,?_⟩,HY⟩;rcases Df (aY x.v.ae x.v.last).1 (aY x.v.ae x.v.last).2.1 (ak (aY x.v.ae x.v.last).1 (aY x.v.ae x.v.last).2.1).used b with q|q|q|q
     ·
      exact absurd q h1
     ·
      obtain⟨t1,t2⟩:=ahc hh g2 (by rw[dW,o2.size]) q;refine .inr (.inr ⟨q, .inl ?_⟩);simp only[WV.on];rw[bA,C9,t2];exact t1
     ·
      exact .inl q
     ·
      exact absurd q h9
    ·
     rw[if_neg h9];have e9:bx (aY x.v.ae x.v.last).1 (aY x.v.ae x.v.last).2.1 b=9:=by simpa using h9
     have ho:=uj (GC g2) (p:=b) (.inl e9);have bB:=lF o1 (aY x.v.ae x.v.last).2.1 b;have fv:=o2.trans (iK (aY x.v.ae x.v.last).1 (aY x.v.ae x.v.last).2.1 b);have hle:=sO bB;have fQ:=hx.on bB fv;obtain⟨t1,t2,t3,t4⟩:=Vm n (x:=x.on (bA (aY x.v.ae x.v.last).1 (aY x.v.ae x.v.last).2.1 b)) (a:=a) (b:=b) fQ dX (ha.kd (wm a) fun _ g=>g) (bW.kd (wm [])) hr (by rw[dW];exact fv.size.symm) (by simp only[WV.on];omega);refine⟨fun L=>(wm L).trans (t1 L),t2,fun h=>?_,t4⟩;obtain⟨s1,s2,s3,s4⟩:=t3 h;refine⟨by rw[s1,RZ];rfl,s2,fun hf fP=>s3 (by rw[←hf];exact(wm []).ox) ((k3 fP).prog (by rw[(k1 []).ox];exact hf) h1),s4⟩
structure Sf(x:WV)(bs:List (List UInt8))(y:WV)(e:Int):Prop where
 kd:Kd [] x.v.ae y.v.ae
 len:y.v.at_.length=x.v.at_.length
 cH:e=0->fA y.v/\cy y.v=bs
 err:e≠0->(e=7\/e=9\/(e=1/\H8 y.v.ae))\/(fA y.v/\cy y.v=cy x.v)
 zA:e≠0->x.v.ae.aV=[]->fA y.v/\cy y.v=cy x.v
 any: ∃u:VV,fA u/\u.ae=y.v.ae/\u.at_.length=x.v.at_.length/\(cy u=cy x.v\/cy u=bs)
 off:e=7->y.v.ae.off=true
theorem Vn{v:VV}{c:CV}(hp:Pl v.ae v.at_)(k:Kd v.at_ v.ae c):cy {v with ae:=c}=cy v:=HZ hp k fun _ h=>h
theorem Sf.data{x:WV}(h:fA x.v){c:CV}(k:Kp x.v.at_ x.v.ae c){e:Int}{bs:List (List UInt8)}(zB:e=0->bs=cy x.v)(ho:e=7->c.off=true):Sf x bs (x.on c) e:=by
 have h2:fA (x.on c).v/\cy (x.on c).v=cy x.v:=⟨h.kp k,Vn h.pl k.toKd⟩;exact⟨k.toKd.sub fun _ h=>absurd h aui,rfl,fun g=>⟨h2.1,by rw[zB g];exact h2.2⟩,fun _=> .inr h2,fun _ _=>h2,⟨_,h2.1,rfl,rfl, .inl h2.2⟩,ho⟩
theorem Sf.trans{x y z:WV}{bs:List (List UInt8)}{e:Int}(h:Sf x (cy x.v) y 0)(g:Sf y bs z e):Sf x bs z e:=by
 have hb:=(h.cH rfl).2;refine⟨h.kd.trans g.kd,g.len.trans h.len,g.cH,fun he=>?_,fun he hf=>?_,?_,g.off⟩
 ·
  rw[←hb];exact g.err he
 ·
  rw[←hb];exact g.zA he (by rw[h.kd.ox];exact hf)
 rw[←hb,←h.len];exact g.any
theorem Nh{x:WV}{a:List Int}(hx:cY x)(h:fA x.v)(bW:iR x.v.ae)(ha:Pl x.v.ae a)(ei:a.length=x.v.at_.length):Sf x (a.map (eU x.v.ae)) (eE x a).1 (eE x a).2/\((eE x a).2=0->(eE x a).1.v.at_=a):=by
 rw[eE]
 by_cases h0:(c0 ⟨x.v.gen+1,a⟩ x.v.ae.size).2≠0
 ·
  rw[if_pos h0];refine⟨?_,fun g=>absurd g h0⟩;have:=Sf.data (x:=x) h (.dk _ _) (e:=(c0 ⟨x.v.gen+1,a⟩ x.v.ae.size).2) (bs:=a.map (eU x.v.ae)) (fun g=>absurd g h0) (fun g=>by
   rw[c0]at g;split at g
   ·
    rcases AZ ⟨2,max 0 ((a.length:Int) -1),x.v.gen+1,gU a⟩ x.v.ae.size with q|q
    ·
     rw[q]at g;cases g
    rw[q]at g;cases g
   cases g)
  rw[RY]at this;exact this
 rw[if_neg h0];have hm:=agP (by simpa using h0);obtain⟨t1,t2,t3,t4⟩:=Vm ((cX -x.v.ae.ops).toNat+1) (b:=(c0 ⟨x.v.gen+1,a⟩ x.v.ae.size).1) hx (h.wv a) ha bW (agO hm) (UQ hm) (by omega);generalize gV ((cX -x.v.ae.ops).toNat+1) x a (c0 ⟨x.v.gen+1,a⟩ x.v.ae.size).1=W at*;have rO:cy ⟨W.1.v.ae,a,x.v.gen+1,0⟩=a.map (eU x.v.ae):=HZ ha (t1 a) fun _ g=>g;have oy:cy ⟨W.1.v.ae,x.v.at_,x.v.gen,x.v.last⟩=cy x.v:=Vn h.pl (t1 x.v.at_);have fT:=h.pl.kd (t1 x.v.at_) fun _ g=>g;have qN:=ha.kd (t1 a) fun _ g=>g;have ahf:tu x.v.gen a x.v.ae:=fun k k0 k1 e=>by
  have:=(Vd h.bears h.roots).2 k k0 k1 (by rw[e]);rw[e,h.gen]at this;simp only at this;omega
 refine⟨⟨t1 [],?_,fun g=>?_,fun g=>?_,fun g hf=>?_,?_,t4⟩,fun g=>(t2 g).2⟩
 ·
  by_cases g:W.2=0
  ·
   rw[(t2 g).2,ei]
  rw[(t3 g).1];rfl
 ·
  obtain⟨q1,q2⟩:=t2 g;refine⟨q1,?_⟩;show W.1.v.at_.map (eU W.1.v.ae)=_;rw[q2];exact rO
 ·
  exact .inl (t3 g).2.2.2
 ·
  obtain⟨q1,q2,q3,_⟩:=t3 g;have:=q2.Vf fT (q3 hf ahf);rw[q1];exact⟨this,oy⟩
 by_cases g:W.2=0
 ·
  obtain⟨q1,q2⟩:=t2 g;refine⟨W.1.v,q1,rfl,by rw[q2,ei], .inr ?_⟩;show W.1.v.at_.map (eU W.1.v.ae)=_;rw[q2];exact rO
 obtain⟨q1,q2,_⟩:=t3 g;obtain⟨u,hu,hc,H9⟩:=q2.some fT qN;rcases H9 with rfl|⟨e1,e2⟩
 ·
  exact⟨_,hu,rfl,rfl, .inl oy⟩
 refine⟨u,hu,hc,by rw[e1,ei], .inr ?_⟩;show u.at_.map (eU u.ae)=_;rw[e1,hc];exact rO
theorem Sf.by{x y:WV}{bs:List (List UInt8)}{e:Int}(h:Sf x bs y e)(b:Bool):Sf x bs {y with beyond:=b} e:=⟨h.kd,h.len,h.cH,h.err,h.zA,h.any,h.off⟩
theorem Sf.cM{x y:WV}{bs:List (List UInt8)}{e:Int}{b:Bool}(h:Sf {x with beyond:=b} bs y e):Sf x bs y e:=⟨h.kd,h.len,h.cH,h.err,h.zA,h.any,h.off⟩
theorem Sf.ne{x y:WV}{bs:List (List UInt8)}{e:Int}(h:Sf x (cy x.v) y e)(he:e≠0):Sf x bs y e:=
 ⟨h.kd,h.len,fun g=>absurd g he,h.err,h.zA,by
  obtain⟨u,h1,h2,h3,h4⟩:=h.any;exact⟨u,h1,h2,h3, .inl (h4.elim id id)⟩,h.off⟩
theorem Sf.stay{x:WV}(h:fA x.v){e:Int}(he:e≠7):Sf x (cy x.v) x e:=by
 have:=Sf.data (x:=x) h (.dk _ _) (e:=e) (bs:=cy x.v) (fun _=>rfl) (fun g=>absurd g he);rw[RY]at this;exact this
theorem Sf.zero{x y:WV}{bs:List (List UInt8)}{e:Int}(h:Sf x bs y e)(h0:e≠0)(h7:e≠7)(h9:e≠9)(h1:e≠1):Sf x (cy x.v) y 0:=by
 have hr:fA y.v/\cy y.v=cy x.v:=(h.err h0).resolve_left fun g=>by
  rcases g with g|g|g
  ·
   exact h7 g
  ·
   exact h9 g
  exact h1 g.1
 exact⟨h.kd,h.len,fun _=>hr,fun g=>absurd rfl g,fun g=>absurd rfl g,⟨y.v,hr.1,rfl,h.len, .inl hr.2⟩,fun g=>absurd g (by decide)⟩
theorem ahg{x:WV}{src tgt:Int}(hx:cY x)(h:fA x.v)(bW:iR x.v.ae)(nh:2<=src)(pB:0<=tgt->tgt≠src)(ht:0<=tgt->2<=tgt/\tgt<x.v.ae.blocks.length/\(ak x.v.ae tgt).bad=false):
  Sf x (cy x.v) (df x src tgt).1 (df x src tgt).2.2/\((df x src tgt).2.1=true->(df x src tgt).2.2=0/\kJ (df x src tgt).1.v.at_ x.v.ae src)/\((df x src tgt).2.2=6->(df x src tgt).1=x.on (df x src tgt).1.v.ae):=by
 have hp:1<=x.v.ae.pages:=by have:=hx.pages;omega
 obtain⟨t1,t2,t3,t4⟩:=H6 nh pB hp x.v.at_ 0 (c:=x.v.ae) (a:=x.v.at_) hx.ae h.pl (.dk _ _) h.pl rfl ht rfl (fun _ _=>rfl) (fun j n hj=>by omega) rfl;rw[df];split
 ·
  rename_i e he;exact⟨Sf.data h t1 (fun _=>rfl) (fun g=>t3 (by rw[he];exact congrArg some g)),fun g=>absurd (show false=true from g) (by simp),fun _=>rfl⟩
 ·
  rename_i he;obtain⟨g1,g2,g3,g4⟩:=t2 he;have fQ:=hx.on (t1.ok hx.ae) t1.bV;have hw:=Nh fQ (h.kp t1) (bW.kd t1.toKd) g1 g3;have hs:=Sf.data h t1 (e:=0) (bs:=cy x.v) (fun _=>rfl) (fun g=>absurd g (by decide));have nL:=hw.1;rw[show List.map (eU (x.on (ca x.v src tgt x.v.at_ 0 x.v.ae x.v.at_).c).v.ae) (ca x.v src tgt x.v.at_ 0 x.v.ae x.v.at_).a=cy x.v from g2]at nL;refine⟨hs.trans nL,fun g=>?_,fun g=>absurd g (K2 _ _)⟩;simp only[decide_eq_true_eq]at g;refine⟨g,?_⟩;rw[hw.2 g];exact g4
theorem ahh{c:CV}{l:List aA}{fl:List Int}(hd:rW c fl l):Kp fl c (bX c l).1/\((bX c l).2.2=7->(bX c l).1.off=true)/\((bX c l).2.2=0-> ∃(j:Nat) (x:aA),(bX c l).2.1=(j:Int)+2/\l[j]? =some x/\x.bad=false):=by
 rw[bX]
 by_cases h1:(mj c l).2=true
 ·
  rw[if_pos h1];obtain⟨x,hx,k1,_,_,k4,_⟩:=pf (fun x h=>(sN h).1) h1;exact⟨.dk _ _,fun h=>absurd (show(0:Int)=7 from h) (by decide),fun _=>⟨_,x,by show(mj c l).1+2=(((mj c l).1.toNat:Nat):Int)+2;rw[atC (show 0<=(mj c l).1 from k4)],hx,k1⟩⟩
 rw[if_neg h1]
 by_cases h2:(jL c l).2=true
 ·
  rw[if_pos h2];obtain⟨x,hx,k1,_,_,k4,_⟩:=pf (fun x h=>(lI h).1) h2;obtain⟨d1,d2⟩:=H3 hd h2;exact⟨zy (by show 2<=(jL c l).1+2;change 0<=(jL c l).1 at d2;omega) d1,D6,fun _=>⟨_,x,by show(jL c l).1+2=(((jL c l).1.toNat:Nat):Int)+2;rw[atC (show 0<=(jL c l).1 from k4)],hx,k1⟩⟩
 rw[if_neg h2]
 by_cases h3:(jM c l).2=true
 ·
  rw[if_pos h3];obtain⟨x,hx,k1,_,_,k4,_⟩:=pf (fun x h=>(lI h).1) h3;obtain⟨d1,d2⟩:=H3 hd h3;exact⟨zy (by show 2<=(jM c l).1+2;change 0<=(jM c l).1 at d2;omega) d1,D6,fun _=>⟨_,x,by show(jM c l).1+2=(((jM c l).1.toNat:Nat):Int)+2;rw[atC (show 0<=(jM c l).1 from k4)],hx,k1⟩⟩
 rw[if_neg h3];exact⟨.dk _ _,fun h=>absurd (show(6:Int)=7 from h) (by decide),fun h=>absurd (show(6:Int)=0 from h) (by decide)⟩
theorem Ni{e:Int}(h:kb e=7):e=7:=by rw[kb]at h;split at h<;>omega
theorem Vo{x:WV}{l:List aA}{i:Int}(hx:cY x)(h:fA x.v)(bW:iR x.v.ae)(ht:kZ x.v.ae l)(hd:rW x.v.ae x.v.at_ l)(h0:0<=i)(hi:i<l.length):
  Sf x (cy x.v) (fI x l i).1 (fI x l i).2/\((fI x l i).2=6->(fI x l i).1=x.on (fI x l i).1.v.ae):=by
 obtain⟨k1,k2,k3⟩:=ahh (hd.set i.toNat);have gE: ∀{e:Int},(e=7->(bX x.v.ae (l.set i.toNat bb)).1.off=true)->Sf x (cy x.v) (x.on (bX x.v.ae (l.set i.toNat bb)).1) e:=fun ho=>Sf.data h k1 (fun _=>rfl) ho;rw[fI]
 by_cases ql:(cS x.v.ae l i).2≠0
 ·
  rw[if_pos ql];refine⟨gE fun g=>k2 ?_,fun _=>rfl⟩;have g:=Ni g;rw[cS]at g;split at g
  ·
   cases g
  ·
   exact g
 ·
  rw[if_neg ql];have Nj:(cS x.v.ae l i).2=0:=by simpa using ql
  have ni:=GJ (i:=i) hx.ae ht Nj;have fQ:=hx.on (k1.ok hx.ae) k1.bV;have bO:0<=(cS x.v.ae l i).1->(cS x.v.ae l i).1≠i+2:=fun hn e=>by
   have ea:qL x.v.ae l i=false:=by
    cases hq:qL x.v.ae l i with
    |false=>rfl
    |true=>rw[cS,if_pos hq]at hn;exact absurd (show(0:Int)<= -1 from hn) (by decide)
   rw[cS,if_neg (by rw[ea];simp)]at e Nj;obtain⟨j,z,e1,e2,e3⟩:=k3 Nj;have:j=i.toNat:=by omega
   rw[this,asJ (by omega)]at e2;obtain rfl:=aso e2;cases e3
  obtain⟨m1,m2,m3⟩:=ahg (x:=x.on (bX x.v.ae (l.set i.toNat bb)).1) (src:=i+2) (tgt:=(cS x.v.ae l i).1) fQ (h.kp k1) (bW.kd k1.toKd) (by omega) bO (fun hn=>by
   have:=ni hn;exact⟨this.1,by simp only[WV.on];rw[k1.bV.len];exact this.2.1,this.2.2⟩)
  have mok:=GH (x:=x.on (bX x.v.ae (l.set i.toNat bb)).1) (src:=i+2) (tgt:=(cS x.v.ae l i).1) fQ (fun hn=>by
   have:=ni hn;exact⟨this.1,by simp only[WV.on];rw[k1.bV.len];exact this.2.1,this.2.2⟩)
  have HR:Sf x (cy x.v) (x.on (bX x.v.ae (l.set i.toNat bb)).1) 0:=gE fun g=>absurd g (by decide);rw[(HR.cH rfl).2]at m1;generalize df (x.on (bX x.v.ae (l.set i.toNat bb)).1) (i+2) (cS x.v.ae l i).1=M at*
  by_cases h1:M.2.1=false\/(l.getD i.toNat eA).used=x.v.ae.pages
  ·
   rw[if_pos h1];exact⟨HR.trans m1,fun g=>by rw[m3 g,RZ];rfl⟩
  ·
   rw[if_neg h1];have hdn:M.2.1=true:=by
    cases hq:M.2.1 with
    |true=>rfl
    |false=>exact absurd (.inl hq) h1
   obtain⟨e0,hdd⟩:=m2 hdn;rw[e0]at m1;have hR:=m1.cH rfl;have ahi:kJ M.1.v.at_ M.1.v.ae (i+2):=hdd.bV m1.kd.bV;have hc:=zy (c:=M.1.v.ae) (by omega) ahi;have Vp:=Sf.data (x:=M.1) hR.1 hc (e:=kb (cF M.1.v.ae (i+2)).2) (bs:=cy M.1.v) (fun _=>rfl) (fun g=>D6 (Ni g));have ahj:=HR.trans m1;rw[hR.2]at Vp;exact⟨ahj.trans Vp,fun g=>absurd (GI g) (R8 _ _)⟩
theorem Nk{x:WV}{l:List aA}(h:fA x.v)(hd:rW x.v.ae x.v.at_ l):Sf x (cy x.v) (kD x l).1 (kD x l).2:=by
 rw[kD];split
 ·
  exact Sf.stay h (e:=6) (by decide)
 rename_i hq;obtain⟨d1,d2⟩:=H3 hd (show(od x.v.ae l).2=true by simpa using hq);exact Sf.data h (zy (by show 2<=(od x.v.ae l).1+2;change 0<=(od x.v.ae l).1 at d2;omega) d1) (fun _=>rfl) (fun g=>D6 (Ni g))
theorem rW.bV{c d:CV}{fl:List Int}{l:List aA}(h:rW c fl l)(g:dP c d):rW d fl l:=fun i x hx hb hl=>(h i x hx hb hl).bV g
theorem ahk{x:WV}(hx:cY x)(h:fA x.v)(bW:iR x.v.ae):Sf x (cy x.v) (eZ x).1 (eZ x).2:=by
 have ht:kZ x.v.ae (dh x):=yX _ _;have hd:rW x.v.ae x.v.at_ (dh x):=H2 _ _;rw[eZ];split
 ·
  rename_i hv;have Ia:=KW (l:=dh x) hv.1;obtain⟨r1,r2⟩:=Vo (i:=(sU x).1) hx h bW ht hd Ia.1 Ia.2;split
  ·
   exact r1
  rename_i h6;have A1:(fI x (dh x) (sU x).1).2=6:=by simpa using h6
  have hz:=r1.zero (by omega) (by omega) (by omega) (by omega);have e:=r2 A1;have hR:=hz.cH rfl;have k7:(fI x (dh x) (sU x).1).1.v.at_=x.v.at_:=by rw[e];rfl
  have:=Nk hR.1 (l:=dh x) (by rw[k7];exact hd.bV hz.kd.bV);rw[hR.2]at this;exact hz.trans this
 exact Nk h hd
theorem Vq: ∀(n:Nat) {x:WV} {need:Int},cY x->fA x.v->iR x.v.ae->Sf x (cy x.v) (nC n x need).1 (nC n x need).2
 |0,x,need,hx,h,bW=>Sf.stay h (e:=0) (by decide)
 |n+1,x,need,hx,h,bW=>by
  have hc:=ahk hx h bW;have E8:=GK hx;rw[nC];split
  ·
   exact Sf.stay h (e:=0) (by decide)
  split
  ·
   exact(Sf.stay h (e:=0) (by decide)).by true
  split
  ·
   rename_i h0;rw[h0]at hc;have hR:=hc.cH rfl;have:=Vq n (need:=need) E8.1.ok hR.1 (bW.kd hc.kd);rw[hR.2]at this;exact hc.trans this
  split
  ·
   exact hc
  rename_i h6;have A1:(eZ x).2=6:=by simpa using h6
  have hz:=hc.zero (by omega) (by omega) (by omega) (by omega);have hR:=hz.cH rfl;split
  ·
   exact hz.by true
  have:=Sf.stay (x:=(eZ x).1) hR.1 (e:=5) (by decide);rw[hR.2]at this;exact hz.trans this
theorem Vr{x:WV}{need:Int}(hx:cY x)(h:fA x.v)(bW:iR x.v.ae):Sf x (cy x.v) (kE x need).1 (kE x need).2:=Vq _ hx h bW
theorem Vs{x:WV}{l:List (Int×List UInt8)}(hx:cY x)(h:fA x.v)(bW:iR x.v.ae)(hid: ∀y∈l,0<=y.1):Sf x (uN (cy x.v) l) (ij x l).1 (ij x l).2:=by
 have hs:Sf x (cy x.v) (cK x l).1 (cK x l).2:=(Vr (x:={x with beyond:=false}) (need:=mn l) (hx.by false) h bW).cM
 have ho:=GL (l:=l) hx;rw[ij]
 by_cases h0:(cK x l).2≠0
 ·
  rw[if_pos h0];exact hs.ne h0
 rw[if_neg h0];rw[show(cK x l).2=0 by simpa using h0]at hs;have hR:=hs.cH rfl;obtain⟨t1,t2,t3⟩:=H5 (v:=(cK x l).1.v) (aI:=(cK x l).1.beyond) l (c:=(cK x l).1.v.ae) (a:=(cK x l).1.v.at_) ho.ok.ae (by have:=ho.ok.sQ;omega) hR.1.pl hR.1.pl hid
 by_cases h1:(gp x l).2.2≠0
 ·
  rw[if_pos h1];exact hs.trans (Sf.data hR.1 t1 (fun g=>absurd g h1) t3)
 rw[if_neg h1];obtain⟨g1,g2,g3⟩:=t2 (Classical.not_not.1 h1);have fQ:=ho.ok.on (t1.ok ho.ok.ae) t1.bV;have hw:=(Nh fQ (hR.1.kp t1) ((bW.kd hs.kd).kd t1.toKd) g1 g3).1;have e:List.map (eU (gp x l).1) (gp x l).2.1=uN (cy x.v) l:=by rw[←hR.2];exact g2
 have hd:=Sf.data (x:=(cK x l).1) hR.1 t1 (e:=0) (bs:=cy (cK x l).1.v) (fun _=>rfl) (fun g=>absurd g (by decide));have dX:Sf ((cK x l).1.on (gp x l).1) (uN (cy x.v) l) (eE ((cK x l).1.on (gp x l).1) (gp x l).2.1).1 (eE ((cK x l).1.on (gp x l).1) (gp x l).2.1).2:=by rw[←e];exact hw
 exact hs.trans (Sf.trans hd dX)
theorem Vt{l:List (Int×List UInt8)}(hid: ∀y∈l,0<=y.1): ∀(n:Nat) {x:WV},cY x->fA x.v->iR x.v.ae->x.v.ae.blocks.length<n+nz x.v.ae->Sf x (uN (cy x.v) l) (pj n x l).1 (pj n x l).2
 |0,x,hx,h,bW,hn=>by have:=Sb x.v.ae;omega
 |n+1,x,hx,h,bW,hn=>by
  have hb:=Vs (l:=l) hx h bW hid;have ho:=K6 (l:=l) hx;rw[pj];split
  ·
   rename_i h5;rw[h5.1]at hb;have hz:=hb.zero (by decide) (by decide) (by decide) (by decide);have hR:=hz.cH rfl;have:=Vt hid n ho.ok hR.1 (bW.kd hz.kd) (by have:=ho.bV.len;omega);rw[hR.2]at this;exact hz.trans this
  exact hb
theorem Vu{v:VV}{l:List (Int×List UInt8)}(h:fA v)(bW:iR v.ae):Sf ⟨v,false⟩ (uN (cy v) l) ⟨(fV v l).1,false⟩ (fV v l).2:=by
 rw[fV];split
 ·
  exact(Sf.stay (x:=⟨v,false⟩) h (e:=1) (by decide)).ne (by decide)
 rename_i h1;have FP:=Classical.not_not.1 h1;split
 ·
  rename_i ho;have:=Sf.data (x:=⟨v,false⟩) h (.dk _ _) (e:=7) (bs:=uN (cy v) l) (fun g=>absurd g (by decide)) (fun _=>ho);exact this
 have hid: ∀y∈l,0<=y.1:=fun y hy=>by
  obtain⟨j,hj⟩:=asM hy;have:=Dg.1 FP.2.2 j (ad2.1 hj).1;rw[ur,show l.getD j (0,[])=y by simp[List.getD,hj],alM,uq,alM,alM,decide_eq_true_eq]at this;exact this.1.1.1
 have:=Vt hid (v.ae.blocks.length+1) (x:=⟨v,false⟩) (GM FP.1) h bW (by show v.ae.blocks.length<_;omega);exact this.by false
theorem ahl{t:List Rt}(h:bF t=true): ∀l:List Ch,bF (gY t l).1=true:=by
 intro l
 induction l generalizing t with
 |nil=>exact h
 |cons c r ih=>
  rw[gY];split
  ·
   exact ih (D0 h c)
  exact h
theorem ahm{t:List Rt}(h:bF t=true)(l:List Ch):bF (bM t l)=true:=by
 rw[bM];split
 ·
  exact ahl h l
 exact h
def powC(c:CV):CV:={c with off:=false}
theorem fA.on{v:VV}(h:fA v)(b:Bool):fA {v with ae:={v.ae with off:=b}}:=by
 obtain⟨h1,h2,h3,h4,h5,h6,h7⟩:=h;exact⟨h1,h2,h3,h4,h5,h6,h7⟩
theorem Vv{v:VV}(h:fA v):bG (powC v.ae)=(⟨powC v.ae,v.at_,v.gen,v.last⟩,0):=by
 have h2:=BN.2 (h.on false);rw[me]at h2;simp only[alM,decide_eq_true_eq]at h2;obtain⟨⟨⟨g1,g2⟩,g3⟩,g4⟩:=h2;have hc:=S2 g1;change(bG (powC v.ae)).2=0 at g1;change(bG (powC v.ae)).1.gen=v.gen at g2;change(bG (powC v.ae)).1.last=v.last at g3;change(bG (powC v.ae)).1.at_=v.at_ at g4;change(bG (powC v.ae)).1.ae=powC v.ae at hc;generalize bG (powC v.ae)=F at*;obtain⟨⟨f1,f2,f3,f4⟩,f5⟩:=F;simp only at g1 g2 g3 g4 hc;subst g1 g2 g3 g4 hc;rfl
structure jD(f:FV):Prop where
 rt:fA f.aq
 jA:eG f.aq.ae≠0
 ids:(f.aq.at_.length:Int)=eK f.aq.ae
 Nl:lf (cy f.aq)=0
 eq:f.table=jN (cy f.aq)
theorem Vw{v:VV}(h:fA v)(hm:eG v.ae≠0)(hi:(v.at_.length:Int)=eK v.ae)(ht:lf (cy v)=0):dz (powC v.ae)=(⟨⟨powC v.ae,v.at_,v.gen,v.last⟩,jN (cy v)⟩,0)/\lj (powC v.ae)=cy v:=by
 have hf:=Vv h;have:=GZ (c:=powC v.ae) hm (by rw[hf]) (by rw[hf];exact hi) (by rw[hf];exact ht);rw[hf]at this;exact this
theorem jD.load{f:FV}(h:jD f):dz (powC f.aq.ae)=(⟨⟨powC f.aq.ae,f.aq.at_,f.aq.gen,f.aq.last⟩,f.table⟩,0)/\lj (powC f.aq.ae)=cy f.aq:=by
 rw[h.eq];exact Vw h.rt h.jA h.ids h.Nl
theorem zC{f:FV}:ll f=true↔jD f:=by
 constructor
 ·
  intro h;rw[ac6]at h;simp only[alM,decide_eq_true_eq]at h;obtain⟨⟨h1,h2⟩,h3⟩:=h;obtain⟨g0,g1,g2,g3⟩:=G0 h1;have hr:=BN.1 h2;have hf:=Vv hr;change(bG (powC f.aq.ae)).2=0 at g1;change(((bG (powC f.aq.ae)).1.at_.length:Nat):Int)=_ at g2;change lf (cy (bG (powC f.aq.ae)).1)=0 at g3;rw[hf]at g2 g3;refine⟨hr,g0,g2,g3,?_⟩;rw[←h3];exact congrArg (fun z:FV×Int=>z.1.table) (Vw hr g0 g2 g3).1
 intro h;rw[Lr];change(dz (powC f.aq.ae)).2=0/\f.aq.gen=(dz (powC f.aq.ae)).1.aq.gen/\f.aq.last=(dz (powC f.aq.ae)).1.aq.last/\f.aq.at_=(dz (powC f.aq.ae)).1.aq.at_/\f.table=(dz (powC f.aq.ae)).1.table;rw[h.load.1];exact⟨rfl,rfl,rfl,rfl,rfl⟩
theorem jD.right{f:FV}(h:jD f):bF f.table=true:=by rw[h.eq];exact ac7 h.Nl
theorem Nn{c d:CV}(h:dP c d):eG d=eG c/\eK d=eK c:=by
 rw[eG,eG,eK,eK,h.len,h.pages,h.size];exact⟨rfl,rfl⟩
theorem Vx: ∀(l:List (Int×List UInt8)) (bs:List (List UInt8)) (i:Nat),l.Pairwise (fun p q=>p.1≠q.1)->(∀p∈l,0<=p.1)->(uN bs l)[i]? =match l.find? fun p=>decide (p.1=(i:Int))with
  |some p=>if i<bs.length then some p.2 else none
  |none=>bs[i]?
 |[],bs,i,_,_=>rfl
 |p::r,bs,i,hw,h0=>by
  obtain⟨nL,dX⟩:=asT.1 hw;have ih:=Vx r (bs.set p.1.toNat p.2) i dX fun q hq=>h0 q (asE _ hq);have hp0:=h0 p asv;show(uN (bs.set p.1.toNat p.2) r)[i]? =_;rw[ih,List.find?_cons]
  by_cases e:p.1=(i:Int)
  ·
   have hn:(r.find? fun q=>decide (q.1=(i:Int)))=none:=auV.2 fun q hq=>by
    rw[decide_eq_true_eq];intro e2;exact nL q hq (by rw[e,e2])
   rw[hn,decide_eq_true e];simp only;rw[atb,if_pos (by omega)]
   by_cases hl:i<bs.length
   ·
    rw[if_pos (by omega),if_pos hl]
   ·
    rw[if_neg (by omega),if_neg hl]
  ·
   rw[decide_eq_false e];simp only
   cases hf:r.find? fun q=>decide (q.1=(i:Int))with
   |some q=>simp only;rw[as1]
   |none=>simp only;rw[asS (by omega)]
theorem Vy{a b:List (List UInt8)}(hl:a.length=b.length):uN a (fe a b)=b:=by
 have hs:=Hy a b (max a.length b.length);have hpw:(fe a b).Pairwise fun p q=>p.1≠q.1:=hs.imp fun h=>by omega
 have hm: ∀p∈fe a b,∃i:Nat,i<max a.length b.length/\p=((i:Int),b.getD i [])/\ ¬a.getD i []=b.getD i []:=fun p hp=>MC hp;refine atj fun i=>?_;rw[Vx (fe a b) a i hpw fun p hp=>by obtain⟨j,_,rfl,_⟩:=hm p hp;exact Int.natCast_nonneg _]
 cases hf:(fe a b).find? fun p=>decide (p.1=(i:Int))with
 |some p=>
  obtain⟨j,h1,h2,h3⟩:=hm p (auy hf);have e:=List.find?_some hf;rw[decide_eq_true_eq,h2]at e;simp only at e;have e':j=i:=by omega
  subst e';simp only
  by_cases hi:j<a.length
  ·
   rw[if_pos hi,h2,asr (by omega)];simp[List.getD,show j<b.length by omega]
  rw[if_neg hi,ast (by omega)]
 |none=>
  simp only;rcases asx i a.length with hi|hi
  ·
   have fP:=auV.1 hf;have hq:a.getD i []=b.getD i []:=by
    apply asH;intro bO;have kx:((i:Int),b.getD i [])∈fe a b:=by
     rw[fe,oh];exact List.mem_filterMap.2 ⟨i,asU.2 (by omega),by rw[uw,if_neg bO]⟩
    have:=fP _ kx;simp at this
   simp only[List.getD,asr hi,asr (show i<b.length by omega),auC]at hq;rw[asr hi,asr (show i<b.length by omega),hq]
  rw[ast hi,ast (by omega)]
structure Af(f:FV)(t:List Rt)(o:FV)(e:Int):Prop where
 kd:Kd [] f.aq.ae o.aq.ae
 cH:e=0->jD o/\o.table=t
 bad:e≠0->o.table=f.table
 err:e≠0->(e=7\/e=9\/(e=1/\H8 o.aq.ae))\/jD o
 zA:e≠0->f.aq.ae.aV=[]->jD o
 any: ∃g:FV,jD g/\g.aq.ae=o.aq.ae/\(g.table=f.table\/g.table=t)
 off:e=7->o.aq.ae.off=true
theorem BP{f:FV}{l:List Ch}(h:jD f):xA f l=if eG f.aq.ae<(bM f.table l).length then 5 else 0:=by
 have hr:=ahm h.right l;have hm:jA (eK f.aq.ae) (dV f.aq.ae.size)=eG f.aq.ae:=rfl;rw[xA,kf,if_neg,hm];rintro(g|g)
 ·
  rw[hr]at g;cases g
 exact h.jA g
theorem No{f:FV}{l:List Ch}(h:jD f)(he:cx f.table l≠0):cG f l=(f,cx f.table l):=S3 (zC.2 h) he
theorem Np{f:FV}{l:List Ch}(h:jD f)(he:cx f.table l=0)(hm:eG f.aq.ae<(bM f.table l).length):cG f l=(f,5):=by
 have:=BP (l:=l) h;rw[if_pos hm]at this;rw[S4 (zC.2 h) he (by rw[this];decide),this]
theorem tv{f:FV}(h:jD f):eV f=cy f.aq:=h.load.2
theorem Ib{f:FV}{l:List Ch}(h:jD f)(he:cx f.table l=0)(hm: ¬eG f.aq.ae<(bM f.table l).length)(hc:fe (eV f) (dF f l)=[]):cG f l=(f,0)/\bM f.table l=f.table:=by
 have hE:=BP (l:=l) h;rw[if_neg hm]at hE;have hlen:(eV f).length=(dF f l).length:=by
  have:=(DU hE).1;have h2:=h.ids;rw[tv h,A6];have:((dF f l).length:Int)=eK f.aq.ae:=this;omega
 have heq:=(ae7 hlen).1 hc;have ht:jN (dF f l)=bM f.table l:=(Ud hE).1;have e:bM f.table l=f.table:=by
  rw[←ht,←heq,tv h];exact h.eq.symm
 rw[S5 (zC.2 h) he hE hc,e];exact⟨rfl,rfl⟩
theorem Vz{f:FV}{l:List Ch}(h:jD f)(bW:iR f.aq.ae)(he:cx f.table l=0)(hm: ¬eG f.aq.ae<(bM f.table l).length):Af f (bM f.table l) (cG f l).1 (cG f l).2:=by
 have hE:=BP (l:=l) h;rw[if_neg hm]at hE
 by_cases hc:fe (eV f) (dF f l)=[]
 ·
  obtain⟨e1,e2⟩:=Ib h he hm hc;rw[e1,e2];exact⟨.dk _ _,fun _=>⟨h,rfl⟩,fun g=>absurd rfl g,fun g=>absurd rfl g,fun g=>absurd rfl g,⟨f,h,rfl, .inl rfl⟩,fun g=>absurd (show(0:Int)=7 from g) (by decide)⟩
 have hlen:(eV f).length=(dF f l).length:=by
  have:=(DU hE).1;have h2:=h.ids;rw[tv h,A6];have:((dF f l).length:Int)=eK f.aq.ae:=this;omega
 have hs:=Vu (l:=fe (eV f) (dF f l)) h.rt bW;rw[←tv h,Vy hlen]at hs;have ht:=Ud hE;rw[G4 (zC.2 h) he hE hc];generalize fV f.aq (fe (eV f) (dF f l))=W at*;have fv:=Nn hs.kd.bV;change eG W.1.ae=eG f.aq.ae/\eK W.1.ae=eK f.aq.ae at fv;have Nq:W.1.at_.length=f.aq.at_.length:=hs.len;have oy:cy (⟨f.aq,false⟩:WV).v=eV f:=(tv h).symm;have mk: ∀{u:VV} {t:List Rt},fA u->dP f.aq.ae u.ae->u.at_.length=f.aq.at_.length->lf (cy u)=0->t=jN (cy u)->jD ⟨u,t⟩:=fun hu hk hl hte ahn=>by
  have:=Nn hk;exact⟨hu,by show eG _≠0;rw[this.1];exact h.jA,by show(_:Int)=eK _;rw[this.2,hl];exact h.ids,hte,ahn⟩
 have hold:lf (eV f)=0/\f.table=jN (eV f):=by rw[tv h];exact⟨h.Nl,h.eq⟩
 refine⟨hs.kd,fun g=>?_,fun g=>?_,fun g=>?_,fun g hf=>?_,?_,hs.off⟩
 ·
  obtain⟨q1,q2⟩:=hs.cH g;change fA W.1 at q1;change cy W.1=dF f l at q2;simp only at g;refine⟨mk q1 hs.kd.bV Nq (by rw[q2];exact ht.2) (by rw[if_neg (fun k=>k g),q2];exact ht.1.symm),by rw[if_neg (fun k=>k g)]⟩
 ·
  simp only at g⊢;rw[if_pos g]
 ·
  simp only at g;refine(hs.err g).imp id fun q=>?_;rw[oy]at q;exact mk q.1 hs.kd.bV Nq (by rw[show cy W.1=eV f from q.2];exact hold.1) (by rw[if_pos g,show cy W.1=eV f from q.2];exact hold.2)
 ·
  simp only at g;have q:=hs.zA g hf;rw[oy]at q;exact mk q.1 hs.kd.bV Nq (by rw[show cy W.1=eV f from q.2];exact hold.1) (by rw[if_pos g,show cy W.1=eV f from q.2];exact hold.2)
 obtain⟨u,q1,q2,q3,q4⟩:=hs.any;change u.ae=W.1.ae at q2;have pC:dP f.aq.ae u.ae:=by rw[q2];exact hs.kd.bV
 rw[oy]at q4;rcases q4 with q4|q4
 ·
  exact⟨⟨u,f.table⟩,mk q1 pC q3 (by rw[q4];exact hold.1) (by rw[q4];exact hold.2),q2, .inl rfl⟩
 exact⟨⟨u,bM f.table l⟩,mk q1 pC q3 (by rw[q4];exact ht.2) (by rw[q4];exact ht.1.symm),q2, .inr rfl⟩
theorem iR.nil{c:CV}(h:c.aV=[]):iR c:=fun f hf=>by rw[h]at hf;cases hf
theorem jD.aho{f:FV}(h:jD f)(ho:f.aq.ae.off=false):dz f.aq.ae=(f,0):=by
 have e:powC f.aq.ae=f.aq.ae:=by rw[powC,←ho]
 have:=h.load.1;rw[e]at this;exact this
theorem jD.small{f:dx}(h:jD (cg f)):gO f.aq.ae/\f.aq.at_.xs.length<=1000000/\f.table.xs.length<=1000000:=by
 have hk:=(fS.1 h.rt.bears).1;have hw:=(GM (b:=false) (BN.2 h.rt)).jK;have ht:=xe h.right;change f.aq.at_.xs.length<=64 at hw;change f.table.xs.length<=256 at ht;exact⟨rr hk,by omega,by omega⟩
theorem ahp(t:List Rt)(c:List Ch):(gY t c).2=0\/(gY t c).2=1\/(gY t c).2=5\/(gY t c).2=6:=by
 induction c generalizing t with
 |nil=>exact .inl rfl
 |cons x r ih=>
  rw[gY];split
  ·
   exact ih _
  show eo t x=0\/eo t x=1\/eo t x=5\/eo t x=6;rw[eo];repeat' split
  all_goals decide
theorem ahq(t:List Rt)(l:List Ch):cx t l=0\/cx t l=1\/cx t l=5\/cx t l=6:=by
 rw[cx];split
 ·
  exact ahp t l
 exact .inr (.inl rfl)
theorem ahr(t:List Rt)(l:List Ch):cx t l≠7:=by have:=ahq t l;omega
theorem ahs{f:FV}(h:jD f)(hf:f.aq.ae.aV=[])(ho:f.aq.ae.off=false)(l:List Ch):
  jD (cG f l).1/\(cG f l).1.aq.ae.aV=[]/\(cG f l).1.aq.ae.off=false/\((cG f l).2=0->cx f.table l=0/\(cG f l).1.table=bM f.table l)/\((cG f l).2≠0->(cG f l).1.table=f.table)/\
   ((cG f l).2≠7)/\(cx f.table l≠0->cG f l=(f,cx f.table l)):=by
 have hE7:=ahr f.table l
 by_cases he:cx f.table l=0
 ·
  by_cases hm:eG f.aq.ae<(bM f.table l).length
  ·
   rw[Np h he hm];exact⟨h,hf,ho,fun g=>absurd (show(5:Int)=0 from g) (by decide),fun _=>rfl,show(5:Int)≠7 by decide,fun g=>absurd he g⟩
  ·
   have ha:=Vz h (.nil hf) he hm;have mT:=ha.kd.on ho (by rw[hf];intro x hx;cases hx);refine⟨?_,ha.kd.ox.trans hf,mT,fun g=>⟨he,(ha.cH g).2⟩,ha.bad,fun g=>?_,fun g=>absurd he g⟩
   ·
    by_cases g:(cG f l).2=0
    ·
     exact(ha.cH g).1
    ·
     exact ha.zA g hf
   ·
    have:=ha.off g;rw[mT]at this;cases this
 ·
  rw[No h he];exact⟨h,hf,ho,fun g=>absurd g he,fun _=>rfl,hE7,fun _=>rfl⟩
theorem VA{P Q:Nat->Bool}{j0:Nat}(hp:P j0=false)(hq: ∀j,Q j=(P j||decide (j=j0))): ∀n,((List.range n).filter Q).length=((List.range n).filter P).length+(if j0<n then 1 else 0)
 |0=>by simp
 |n+1=>by
  have ih:=VA hp hq n;rw[atq,atH,atH,af0,af0,ih]
  by_cases e:n=j0
  ·
   have h1:Q n=true:=by rw[hq n,decide_eq_true e,Bool.or_true]
   have h2:P n=false:=by rw[e];exact hp
   rw[List.filter_cons_of_pos h1,List.filter_cons_of_neg (by rw[h2];simp),if_neg (by omega),if_pos (by omega)];simp
  have h1:Q n=P n:=by rw[hq n,decide_eq_false e,Bool.or_false]
  have h2:([n].filter Q).length=([n].filter P).length:=by simp[atf,h1]
  rw[h2]
  by_cases h:j0<n
  ·
   rw[if_pos h,if_pos (by omega)];omega
  rw[if_neg h,if_neg (by omega)];omega
def cU(pages:Int)(fl:List Int)(i:Nat):Nat:=((List.range pages.toNat).filter fun j:Nat=>fl.contains (((i:Int)+2)*pages+j+1)).length
theorem xY{pages:Int}{fl gl:List Int}{i:Nat}(h: ∀n:Int,(n -1)/pages=(i:Int)+2->(n∈fl↔n∈gl))(hp:1<=pages):cU pages fl i=cU pages gl i:=by
 rw[cU,cU];congr 1;refine List.filter_congr fun j hj=>?_;have jd:=asU.1 hj;have hd:(((i:Int)+2)*pages+j+1 -1)/pages=(i:Int)+2:=by
  rw[atX,aul,atE _ _ (by omega),atn (by omega) (by omega),aup]
 rw[avo,atJ,atJ];exact h _ hd
theorem aht{pages n:Int}(hp:1<=pages){i:Nat}(hb:(n -1)/pages=(i:Int)+2): ∃j:Nat,j<pages.toNat/\n=((i:Int)+2)*pages+j+1/\(n -1)%pages=j:=by
 have h0:0<=(n -1)%pages:=auw _ (by omega);have h1:(n -1)%pages<pages:=auE _ (by omega);have h2:=Int.mul_ediv_add_emod (n -1) pages;rw[hb,Int.mul_comm]at h2;exact⟨((n -1)%pages).toNat,by omega,by omega,by omega⟩
theorem Nr{pages n:Int}{fl gl:List Int}{i0:Nat}(hp:1<=pages)(hb:(n -1)/pages=(i0:Int)+2)(hn:n∉fl)(h: ∀m,m∈gl↔m∈fl\/m=n)(i:Nat):cU pages gl i=cU pages fl i+(if i=i0 then 1 else 0):=by
 by_cases e:i=i0
 ·
  subst e;obtain⟨j0,Ic,en,_⟩:=aht hp hb;rw[if_pos rfl,cU,cU];have:=VA (P:=fun j:Nat=>fl.contains (((i:Int)+2)*pages+j+1)) (Q:=fun j:Nat=>gl.contains (((i:Int)+2)*pages+j+1)) (j0:=j0) (by
   rw[←en]
   cases hc:fl.contains n with
   |false=>rfl
   |true=>exact absurd (atJ.1 hc) hn) (fun j=>by
   rw[avo,atF,atJ,atJ,decide_eq_true_eq,h,en];constructor
   ·
    rintro(g|g)
    ·
     exact .inl g
    exact .inr (by omega)
   rintro(g|g)
   ·
    exact .inl g
   exact .inr (by rw[g])) pages.toNat
  rw[if_pos Ic]at this;exact this
 rw[if_neg e,atl];refine xY (fun m hm=>?_) hp;rw[h];constructor
 ·
  rintro(g|g)
  ·
   exact g
  rw[g,hb]at hm;omega
 exact .inl
theorem VB{pages:Int}{l:List Int}(hp:1<=pages)(i:Nat)(h: ∀n∈l,n=0\/1<=n): ∀k,k<=l.length->j9 pages l k i=cU pages (l.take k) i
 |0,_=>by
  rw[cU,auQ.2 (fun j _=>by simp)];simp[j9]
 |k+1,hk=>by
  have ih:=VB hp i h k (by omega);obtain⟨y,hy⟩: ∃y,l[k]? =some y:=⟨_,asr (by omega)⟩;have kx: ∀m,m∈l.take (k+1)↔m∈l.take k\/m=y:=fun m=>by
   rw[asC,hy,asz];simp
  rw[C7,ih,p6 hy];have uC:ny l k=(decide (y≠0)&& !(l.take k).contains y):=by rw[ny,p6 hy]
  by_cases h0:y=0
  ·
   rw[uC,decide_eq_false (fun g=>g h0),auG,auG,if_neg (by simp),atl];refine xY (fun m hm=>?_) hp;rw[kx];refine⟨.inl,fun g=>g.elim id fun g=>?_⟩;exfalso;rw[g,h0]at hm;have:((0:Int) -1)/pages<0:=au8 (by decide) (by omega);omega
  by_cases hc:(l.take k).contains y=true
  ·
   rw[uC,hc,Bool.not_true,Bool.and_false,auG,if_neg (by simp),atl];refine xY (fun m _=>?_) hp;rw[kx];exact⟨.inl,fun g=>g.elim id fun g=>by rw[g];exact atJ.1 hc⟩
  have hn:y∉l.take k:=fun g=>hc (atJ.2 g);have hcf:(l.take k).contains y=false:=by simpa using hc
  rw[uC,hcf,decide_eq_true h0,auq,at7,ath]
  by_cases hb:(y -1)/pages=(i:Int)+2
  ·
   rw[decide_eq_true hb,if_pos rfl,Nr hp hb hn kx i,if_pos rfl]
  rw[decide_eq_false hb,if_neg (by simp),atl];refine xY (fun m hm=>?_) hp;rw[kx];exact⟨.inl,fun g=>g.elim id fun g=>by rw[g]at hm;exact absurd hm hb⟩
theorem Ie{pages:Int}{l:List Int}(hp:1<=pages)(i:Nat)(h: ∀n∈l,n=0\/1<=n):j9 pages l l.length i=cU pages l i:=by
 have:=VB hp i h l.length (asu _);rwa [asP]at this
def Std(c:CV)(fl:List Int):Prop:= ∀n∈fl,n≠0->kV c (n -1)=true
theorem Pl.mX{c:CV}{a:List Int}(h:Pl c a):Std c a:=fun _ hn h0=>h.place hn h0
theorem Std.append{c:CV}{a b:List Int}(h:Std c a)(g:Std c b):Std c (a++b):=fun n hn=>(asz.1 hn).elim (h n) (g n)
theorem Std.pos{c:CV}{fl:List Int}(h:Std c fl)(hp:1<=c.pages): ∀n∈fl,n=0\/1<=n:=fun n hn=>by
 by_cases h0:n=0
 ·
  exact .inl h0
 right;have:=(mF.1 (h n hn h0)).1;apply asH;intro bc;have:(n -1)/c.pages<0:=au8 (by omega) (by omega);omega
theorem Std.kd{c d:CV}{fl L:List Int}(h:Std c fl)(k:Kd L c d)(hs: ∀n∈fl,n∈L):Std d fl:=fun n hn h0=>(k.nm n (hs n hn) h0 (h n hn h0)).1
def pD(c:CV)(fl:List Int)(i:Nat):aA:=if(ak c ((i:Int)+2)).bad=true then bb else⟨cU c.pages fl i,(ak c ((i:Int)+2)).used,(ak c ((i:Int)+2)).aR,false⟩
theorem zD{c:CV}{fl:List Int}(hp:1<=c.pages)(h:Std c fl):aw c fl=(List.range (c.blocks.length -2)).map (pD c fl):=by
 rw[aw,jj,ka,List.map_map];refine atp fun i _=>?_;simp only[Function.comp];rw[Ie hp i (h.pos hp),pe,pD,ug];split
 ·
  rfl
 rename_i hb;have:(ak c ((i:Int)+2)).bad=false:=by simpa using hb
 rw[this]
theorem VC{c:CV}{fl:List Int}(hp:1<=c.pages)(h:Std c fl)(i:Nat)(hu:0<=(ak c ((i:Int)+2)).used):(cU c.pages fl i:Int)<=(ak c ((i:Int)+2)).used:=by
 have nf: ∀j,j∈(List.range c.pages.toNat).filter (fun j:Nat=>fl.contains (((i:Int)+2)*c.pages+j+1))->j<(ak c ((i:Int)+2)).used.toNat:=fun j hj=>by
  obtain⟨h1,h2⟩:=asQ.1 hj;have jd:=asU.1 h1;have hm:=atJ.1 h2;have h0:0<=((i:Int)+2)*c.pages:=aub (by omega) (by omega);have bW:=mF.1 (h _ hm (by omega));have hd:(((i:Int)+2)*c.pages+j+1 -1)/c.pages=(i:Int)+2:=by
   rw[atX,aul,atE _ _ (by omega),atn (by omega) (by omega),aup]
  have vl:(((i:Int)+2)*c.pages+j+1 -1)%c.pages=j:=by
   rw[atX,aul,au5,avb (by omega) (by omega)]
  rw[hd,vl]at bW;omega
 have key: ∀(n m:Nat) (P:Nat->Bool),(∀j,j∈(List.range n).filter P->j<m)->((List.range n).filter P).length<=m:=by
  intro n m P
  induction n generalizing m with
  |zero=>intro _;simp
  |succ n ih=>
   intro hs;rw[atq,atH,af0]
   by_cases hP:P n=true
   ·
    have hm:n<m:=hs n (asQ.2 ⟨List.mem_range.2 (by omega),hP⟩);have:=ih n fun j hj=>asU.1 (asQ.1 hj).1;simp only[atf,auL,hP,if_true,asm,asn];omega
   have:=ih m fun j hj=>hs j (by rw[atq,atH];exact asX _ hj);simp only[atf,auL,hP];simpa using this
 have:=key c.pages.toNat (ak c ((i:Int)+2)).used.toNat _ nf;rw[cU];omega
theorem uP{c:CV}{fl:List Int}(hp:1<=c.pages)(h:Std c fl)(i:Nat):cU c.pages fl i=0↔kJ fl c ((i:Int)+2):=by
 constructor
 ·
  intro h0;rw[←Ie hp i (h.pos hp)]at h0;exact U4 h0
 intro hd;rw[cU,asI,auQ];intro j hj hc;have jd:=asU.1 hj;have hm:=atJ.1 hc;have h0:0<=((i:Int)+2)*c.pages:=aub (by omega) (by omega);refine hd _ hm (by omega) ?_;rw[atX,aul,atE _ _ (by omega),atn (by omega) (by omega),aup]
theorem Ns{c d:CV}{fl gl:List Int}{i0:Nat}{x:aA}(hp:1<=c.pages)(h:Std c fl)(hg:Std d gl)(hk:dP c d)(ho: ∀i:Nat,i≠i0->ak d ((i:Int)+2)=ak c ((i:Int)+2)/\cU c.pages gl i=cU c.pages fl i)(hx:pD d gl i0=x):aw d gl=(aw c fl).set i0 x:=by
 rw[zD (by rw[hk.pages];exact hp) hg,zD hp h,hk.len];refine atj fun i=>?_;rw[atb]
 by_cases e:i0=i
 ·
  subst e;rw[if_pos rfl,as8,avr,asB]
  by_cases hi:i0<c.blocks.length -2
  ·
   rw[atQ hi,if_pos hi,as7,hx]
  rw[if_neg hi,ast (by simpa using hi)];rfl
 rw[if_neg e,asB,asB]
 by_cases hi:i<c.blocks.length -2
 ·
  rw[atQ hi,as7,as7];obtain⟨o1,o2⟩:=ho i (fun g=>e g.symm);rw[pD,pD,o1,hk.pages,o2]
 rw[ast (by simpa using hi)];rfl
theorem Nt{c d:CV}{fl gl:List Int}(hp:1<=c.pages)(h:Std c fl)(hg:Std d gl)(hk:dP c d)(ho: ∀i:Nat,(ak d ((i:Int)+2)).bad=(ak c ((i:Int)+2)).bad/\(ak d ((i:Int)+2)).used=(ak c ((i:Int)+2)).used/\(ak d ((i:Int)+2)).aR=(ak c ((i:Int)+2)).aR/\((ak c ((i:Int)+2)).bad=false->cU c.pages gl i=cU c.pages fl i)):aw d gl=aw c fl:=by
 rw[zD (by rw[hk.pages];exact hp) hg,zD hp h,hk.len];refine atp fun i _=>?_;obtain⟨o1,o2,o3,o4⟩:=ho i;rw[pD,pD,o1,o2,o3,hk.pages]
 by_cases hb:(ak c ((i:Int)+2)).bad=true
 ·
  rw[if_pos hb,if_pos hb]
 rw[if_neg hb,if_neg hb,o4 (by simpa using hb)]
theorem wo{c:CV}{fl:List Int}{i:Nat}{x:aA}(hp:1<=c.pages)(h:Std c fl)(hx:(aw c fl)[i]? =some x):x=pD c fl i/\i<c.blocks.length -2:=by
 rw[zD hp h,asB]at hx;obtain⟨j,hj,rfl⟩:=aur.1 hx;obtain⟨hl,e⟩:=ad2.1 hj;rw[List.getElem_range]at e;rw[avr]at hl;exact⟨by rw[e],hl⟩
theorem Nu{c:CV}{fl:List Int}{i:Nat}(hb:(ak c ((i:Int)+2)).bad=false):pD c fl i=⟨cU c.pages fl i,(ak c ((i:Int)+2)).used,(ak c ((i:Int)+2)).aR,false⟩:=by rw[pD,if_neg (by rw[hb];simp)]
theorem Nv{c:CV}{fl:List Int}(hk:ba c=true)(h:Std c fl)(h2:3<=c.blocks.length):mg (aw c fl) c.pages=true:=by
 have hd:=eY hk;have dW:=lG c fl;refine sL.2 ⟨by omega,by omega,by omega,by omega,fun x hx=>?_⟩;obtain⟨i,hi⟩:=asM hx;obtain⟨rfl,dK⟩:=wo (by omega) h hi;have qK:cX=1099511627776:=rfl;rw[pD];split
 ·
  exact rA.2 (by simp only[bb];omega)
 have hb:=fk.1 (sM hk (b:=(i:Int)+2) (by omega) (by omega));have:=VC (by omega) h i hb.2.1;exact rA.2 ⟨by simp only;omega,this,hb.2.2.1,hb.2.2.2.1,hb.2.2.2.2.1⟩
theorem BQ{R:aA->Bool}{l:List aA}{p:Int}(h:mg l p=true):mg (bU R l) p=true:=by
 obtain⟨h1,h2,h3,h4,h5⟩:=sL.1 h;refine sL.2 ⟨by rw[xq];exact h1,by rw[xq];exact h2,h3,h4,fun x hx=>?_⟩;obtain⟨y,hy,rfl⟩:=atw.1 hx;rw[iC];split
 ·
  have qK:cX=1099511627776:=rfl;exact rA.2 (by simp only[bb];omega)
 exact h5 y hy
theorem ahu{l:List aA}{p:Int}(h:mg l p=true)(i:Nat):mg (l.set i bb) p=true:=by
 obtain⟨h1,h2,h3,h4,h5⟩:=sL.1 h;refine sL.2 ⟨by rw[as1];exact h1,by rw[as1];exact h2,h3,h4,fun x hx=>?_⟩;rcases asV hx with g|rfl
 ·
  exact h5 x g
 have qK:cX=1099511627776:=rfl;exact rA.2 (by simp only[bb];omega)
theorem Ig{c:CV}{b k:Int}{p:List UInt8}(h:bx c b p=0)(hk:k.toNat≠b.toNat):ak (bA c b p) k=ak c k:=by
 obtain⟨h1,_,_,_,e⟩:=p8 h;obtain⟨_,h3,h4⟩:=ic.1 (jI.1 h1).1;rw[e,iH,uM (by omega),if_neg hk]
theorem Ee{c:CV}{b:Int}{p:List UInt8}(h:bx c b p=0):(ak (bA c b p) b).used=(ak c b).used+1/\(ak (bA c b p) b).aR=(ak c b).aR/\(ak (bA c b p) b).bad=false:=by
 obtain⟨h1,_,h3,_,e⟩:=p8 h;rw[e,iH,qJ (jI.1 h1).1];exact⟨rfl,rfl,h3⟩
theorem VD{c:CV}{fl gl:List Int}{i0:Nat}{pg:List UInt8}(hk:ba c=true)(h:Std c fl)(hz:bx c ((i0:Int)+2) pg=0)(hm: ∀m,m∈gl↔m∈fl\/m=((i0:Int)+2)*c.pages+(ak c ((i0:Int)+2)).used+1):
  aw (bA c ((i0:Int)+2) pg) gl=(aw c fl).set i0 ⟨cU c.pages fl i0+1,(ak c ((i0:Int)+2)).used+1,(ak c ((i0:Int)+2)).aR,false⟩/\Std (bA c ((i0:Int)+2) pg) gl:=by
 have hd:=eY hk;have fv:=iK c ((i0:Int)+2) pg;obtain⟨q1,q2,q3,q4⟩:=H4 (L:=fl) (by omega) hz;have fT:=jI.1 (p8 hz).1;have hb:(((i0:Int)+2)*c.pages+(ak c ((i0:Int)+2)).used+1 -1)/c.pages=(i0:Int)+2:=by
  rw[atX,aul,atE _ _ (by omega),atn fT.2.1 fT.2.2.1,aup]
 have hn:((i0:Int)+2)*c.pages+(ak c ((i0:Int)+2)).used+1∉fl:=fun iE=>by
  have:=h _ iE (by omega);rw[atX,q4]at this;cases this
 have hS:Std (bA c ((i0:Int)+2) pg) gl:=fun m vl h0=>by
  rcases(hm m).1 vl with g|g
  ·
   exact h.kd (HW (L:=fl)) (fun _ k=>k) m g h0
  ·
   rw[g,atX];exact q1
 have hl:=Nr (by omega) hb hn hm;obtain⟨a1,a2,a3⟩:=Ee hz;refine⟨Ns (by omega) h hS fv (fun i hi=>⟨Ig hz (by omega),by rw[hl i,if_neg hi];rfl⟩) ?_,hS⟩;rw[Nu a3,fv.pages,hl i0,if_pos rfl,a1,a2];rfl
theorem VE: ∀(n:Nat) {c:CV} {b:Int},(fH n c b).2=0->(∀k:Int,k.toNat≠b.toNat->ak (fH n c b).1 k=ak c k)/\(ak (fH n c b).1 b).used=0/\(ak (fH n c b).1 b).aR=(ak c b).aR+1/\(ak (fH n c b).1 b).bad=false
 |0,c,b,h=>by
  obtain⟨e1,_,e3,e4,e5⟩:=De h;have hh:=(pY.1 e1).1;obtain⟨_,h3,h4⟩:=ic.1 hh;show(∀k:Int,k.toNat≠b.toNat->ak (dv c b) k=ak c k)/\(ak (dv c b) b).used=0/\(ak (dv c b) b).aR=(ak c b).aR+1/\(ak (dv c b) b).bad=false;rw[e5];refine⟨fun k hk=>by rw[kU,uM (by omega),if_neg hk],?_⟩;rw[kU,qJ hh,e4];exact⟨rfl,rfl,e3⟩
 |n+1,c,b,h=>by
  rw[fH]at h⊢
  by_cases h0:bx c b (iJ c)≠0
  ·
   rw[if_pos h0]at h;exact absurd h h0
  rw[if_neg h0]at h⊢;have rj:bx c b (iJ c)=0:=by simpa using h0
  obtain⟨g1,g2,g3,g4⟩:=VE n h;exact⟨fun k hk=>(g1 k hk).trans (Ig rj hk),g2,by rw[g3,(Ee rj).2.1],g4⟩
theorem Ih{c:CV}{fl:List Int}{i0:Nat}(hk:ba c=true)(h:Std c fl)(hd:kJ fl c ((i0:Int)+2))(hz:(cF c ((i0:Int)+2)).2=0):aw (cF c ((i0:Int)+2)).1 fl=(aw c fl).set i0 ⟨0,0,(ak c ((i0:Int)+2)).aR+1,false⟩/\Std (cF c ((i0:Int)+2)).1 fl:=by
 have hdm:=eY hk;have kp:=zy (L:=fl) (c:=c) (b:=(i0:Int)+2) (by omega) hd;have hS:=h.kd kp.toKd fun _ g=>g;obtain⟨z1,z2,z3,z4⟩:=VE _ hz;change∀k:Int,k.toNat≠((i0:Int)+2).toNat->ak (cF c ((i0:Int)+2)).1 k=ak c k at z1;change(ak (cF c ((i0:Int)+2)).1 ((i0:Int)+2)).used=0 at z2;change(ak (cF c ((i0:Int)+2)).1 ((i0:Int)+2)).aR=_ at z3;change(ak (cF c ((i0:Int)+2)).1 ((i0:Int)+2)).bad=false at z4;refine⟨Ns (by omega) h hS kp.bV (fun i hi=>⟨z1 _ (by omega),rfl⟩) ?_,hS⟩;rw[Nu z4,kp.bV.pages,z2,z3,(uP (by omega) h i0).2 hd];rfl
structure Ok(n:Nat)(c:CV):Prop where
 ok:gn c=true
 nb: ∀b:Int,(ak c b).bad=false
 off:c.off=false
 cut: ∀f∈c.aV,f.fail=true->f.cut=true
 ops:c.ops+n<cX
 aR: ∀b:Int,(ak c b).aR+n<cX
theorem Ok.mono{n m:Nat}{c:CV}(h:Ok n c)(hm:m<=n):Ok m c:=⟨h.ok,h.nb,h.off,h.cut,by have:=h.ops;omega,fun b=>by have:=h.aR b;omega⟩
theorem Ok.Ec{n:Nat}{c:CV}(h:Ok n c)(hs:(bn c).2=true):(bn c).1.cut=true:=by
 rw[bn]at hs⊢
 cases hf:c.aV.find? fun f=>decide (f.op=c.ops)with
 |none=>rw[hf]at hs;cases hs
 |some x=>
  rw[hf]at hs;simp only[atF]at hs;exact hs.elim id fun g=>h.cut x (auy hf) g
theorem Ok.ae{n:Nat}{c:CV}(h:Ok n c):ba c=true:=(fS.1 h.ok).1
theorem VF{c d:CV}(h:gn c=true)(hk:ba d=true)(hl:dP c d):gn d=true:=by
 obtain⟨h1,h2,h3,h4⟩:=fS.1 h;exact fS.2 ⟨hk,by rw[hl.len];exact h2,by rw[hl.pages];exact h3,by rw[hl.size];exact h4⟩
theorem Ok.prog{n:Nat}{c:CV}{b:Int}{p:List UInt8}(h:Ok (n+1) c)(h0:0<=b)(h1:b<c.blocks.length)(hu:(ak c b).used<c.pages)(hl:(p.length:Int)=c.size):(bx c b p=0/\Ok n (bA c b p))\/bx c b p=7:=by
 have hh:ib c b=true:=ic.2 ⟨h.ae,h0,h1⟩;have oy:=fk.1 (qI hh);have VG:=h.ops;have fT:n0 c b (ak c b).used p=true:=jI.2 ⟨hh,oy.2.1,hu,hl,by omega⟩
 by_cases hs:(bn c).2=true
 ·
  right;rw[bx,kA,if_pos fT,if_neg (by rw[h.off];simp),if_neg (by rw[h.nb b];simp),if_pos hs,lY,if_pos (h.Ec hs)]
 left;have hz:bx c b p=0:=by
  rw[bx,kA,if_pos fT,if_neg (by rw[h.off];simp),if_neg (by rw[h.nb b];simp),if_neg hs]
 refine⟨hz,?_⟩;have e:=(p8 hz).2.2.2.2;have hf:(bA c b p).aV=c.aV:=by rw[e];rfl
 have ho:(bA c b p).ops=c.ops+1:=by rw[e];rfl
 have mT:(bA c b p).off=false:=by rw[e,iH,(show(bn c).2=false by simpa using hs)];rfl
 have k7:=Ee hz;have tt: ∀k:Int,(ak (bA c b p) k).bad=false/\(ak (bA c b p) k).aR=(ak c k).aR:=fun k=>by
  by_cases hk:k.toNat=b.toNat
  ·
   have e1:ak (bA c b p) k=ak (bA c b p) b:=by simp only[ak,hk]
   have e2:ak c k=ak c b:=by simp only[ak,hk]
   rw[e1,e2];exact⟨k7.2.2,k7.2.1⟩
  rw[Ig hz hk];exact⟨h.nb k,rfl⟩
 exact⟨VF h.ok (lF h.ae b p) (iK c b p),fun k=>(tt k).1,mT,by rw[hf];exact h.cut,by rw[ho];omega,fun k=>by rw[(tt k).2];have:=h.aR k;omega⟩
theorem Ok.erase{n:Nat}{c:CV}{b:Int}(h:Ok (n+1) c)(h0:0<=b)(h1:b<c.blocks.length):(ez c b=0/\Ok n (dv c b))\/ez c b=7:=by
 have hh:ib c b=true:=ic.2 ⟨h.ae,h0,h1⟩;have VG:=h.ops;have hwb:=h.aR b;have VH:oX c b=true:=pY.2 ⟨hh,by omega,by omega⟩
 by_cases hs:(bn c).2=true
 ·
  right;rw[ez,if_pos VH,if_neg (by rw[h.off];simp),if_neg (by rw[h.nb b];simp),if_pos hs,lY,if_pos (h.Ec hs)]
 left;have hz:ez c b=0:=by
  rw[ez,if_pos VH,if_neg (by rw[h.off];simp),if_neg (by rw[h.nb b];simp),if_neg hs]
 refine⟨hz,?_⟩;have e:=(De hz).2.2.2.2;have hf:(dv c b).aV=c.aV:=by rw[e];rfl
 have ho:(dv c b).ops=c.ops+1:=by rw[e];rfl
 have mT:(dv c b).off=false:=by rw[e,kU,(show(bn c).2=false by simpa using hs)];rfl
 obtain⟨_,h3,h4⟩:=ic.1 hh;have tt: ∀k:Int,(ak (dv c b) k).bad=false/\(ak (dv c b) k).aR<=(ak c k).aR+1:=fun k=>by
  rw[e,kU,uM (by omega)];split
  ·
   rename_i hk;have e2:ak c k=ak c b:=by simp only[ak,hk]
   rw[e2];exact⟨h.nb b,by simp only;omega⟩
  exact⟨h.nb k,by omega⟩
 exact⟨VF h.ok (C8 h.ae b) (xo c b),fun k=>(tt k).1,mT,by rw[hf];exact h.cut,by rw[ho];omega,fun k=>by have:=(tt k).2;have:=h.aR k;omega⟩
theorem ahv{c:CV}(h:gn c=true):((iJ c).length:Int)=c.size:=by
 obtain⟨h1,_,_,h4⟩:=fS.1 h;have hd:=eY h1;have hf:n7 c.size=true:=sJ.2 ⟨h4,by omega⟩;exact D4 (rv.2 ⟨hf, .inl rfl,by decide,by decide,by show(0:Nat)<_;omega,by rw[dV,if_pos hf];simp only[asn];omega⟩)
theorem Ok.clear{n:Nat}: ∀(m:Nat) {c:CV} {b:Int},Ok (n+(m+1)) c->0<=b->b<c.blocks.length->(m:Int)<=c.pages -(ak c b).used->((fH m c b).2=0/\Ok n (fH m c b).1)\/(fH m c b).2=7
 |0,c,b,h,h0,h1,hm=>h.erase h0 h1
 |m+1,c,b,h,h0,h1,hm=>by
  rcases h.prog (n:=n+(m+1)) (p:=iJ c) h0 h1 (by omega) (ahv h.ok)with⟨e,g⟩|e
  ·
   rw[fH,if_neg (by rw[e];simp)];have fv:=iK c b (iJ c);exact Ok.clear m g h0 (by rw[fv.len];exact h1) (by rw[fv.pages,(Ee e).1];omega)
  right;rw[fH,if_pos (by rw[e];decide)];exact e
theorem Ok.Ii{n:Nat}{c:CV}{b:Int}(h:Ok (n+17) c)(h0:0<=b)(h1:b<c.blocks.length):((cF c b).2=0/\Ok n (cF c b).1)\/(cF c b).2=7:=by
 have hd:=eY h.ae;have oy:=fk.1 (sM h.ae h0 h1);have hf:eC c b=c.pages -(ak c b).used:=by rw[eC,if_neg (by rw[h.nb b];simp)]
 exact Ok.clear (n:=n) (eC c b).toNat (h.mono (by omega)) h0 h1 (by omega)
theorem Ok.root{n:Nat}{c:CV}{last:Int}(h:Ok (n+1) c)(hl:last=0\/last=1):((aY c last).2.2=0/\Ok n (aY c last).1)\/(aY c last).2.2=7:=by
 have h4:=(fS.1 h.ok).2.1;rw[aY];split
 ·
  exact .inl ⟨rfl,h.mono (by omega)⟩
 split
 ·
  exact .inl ⟨rfl,h.mono (by omega)⟩
 split
 ·
  rename_i hb;rw[h.nb]at hb;cases hb
 exact h.erase (by omega) (by omega)
structure Ij(c:CV)(g:Nat)(a:List Int):Prop where
 gen:g+1<281474976710656
 len:(a.length:Int)<=kB c.size
 num: ∀x∈a,0<=x/\x<=65535
theorem Ij.put{c:CV}{g:Nat}{a:List Int}(h:Ij c g a)(hb:gn c=true):(c0 ⟨g+1,a⟩ c.size).2=0/\((c0 ⟨g+1,a⟩ c.size).1.length:Int)=c.size:=by
 obtain⟨h1,_,_,h4⟩:=fS.1 hb;have hd:=eY h1;have hf:n7 c.size=true:=sJ.2 ⟨h4,by omega⟩;have hm:pd ⟨g+1,a⟩ c.size=true:=xk.2 ⟨by rw[dV,if_pos hf];omega,h.gen,h.len,fun x hx=>C3.2 (h.num x hx)⟩;refine⟨?_,UQ hm⟩;rw[c0,if_pos hm,du,if_pos (M6 hm)]
theorem ahw{c:CV}{last:Int}(hl:last=0\/last=1)(i:Nat):ak (aY c last).1 ((i:Int)+2)=ak c ((i:Int)+2):=by
 rw[aY];split
 ·
  rfl
 split
 ·
  rfl
 split
 ·
  rfl
 show ak (dv c (1 -last)) ((i:Int)+2)=_;rw[dv,jk];split
 ·
  rw[lZ];split
  ·
   rename_i hm;have hh:ib (gk c (1 -last)) (1 -last)=true:=by
    cases hq:ib (gk c (1 -last)) (1 -last)with
    |true=>rfl
    |false=>rw[pZ,if_neg (by rw[hq];simp)]at hm;cases hm
   obtain⟨_,h3,h4⟩:=ic.1 hh;have:=uM (c:=gk c (1 -last)) (o:=(gk c (1 -last)).ops) (f:=(gk c (1 -last)).off) (B:={ak (gk c (1 -last)) (1 -last)with bad:=true}) (show(1 -last).toNat<(gk c (1 -last)).blocks.length by omega) ((i:Int)+2);rw[if_neg (by omega)]at this;rw[this,BM (by omega)]
  rw[BM (by omega)]
 rw[BM (by omega)]
theorem VI{n:Nat}{x:WV}{a:List Int}(hx:cY x)(h:Ok (n+2) x.v.ae)(hr:Ij x.v.ae x.v.gen a):((eE x a).2=0/\Ok n (eE x a).1.v.ae/\(eE x a).1.v.at_=a/\(eE x a).1.v.gen=x.v.gen+1/\(∀i:Nat,ak (eE x a).1.v.ae ((i:Int)+2)=ak x.v.ae ((i:Int)+2))/\(eE x a).1.beyond=x.beyond)\/(eE x a).2=7:=by
 obtain⟨p1,p2⟩:=hr.put h.ok;have VG:=h.ops;have hl:=hx.last;have h4:=(fS.1 h.ok).2.1;rw[eE,if_neg (by rw[p1];simp)];obtain⟨m,hm⟩: ∃m,(cX -x.v.ae.ops).toNat+1=m+1:=⟨_,rfl⟩;rw[hm,gV];rcases Ok.root (n:=n+1) (last:=x.v.last) h hl with⟨e,g⟩|e
 ·
  rw[if_neg (by rw[e];simp)];have bB:=GD (c:=x.v.ae) (last:=x.v.last) h.ae hl;have oc:=(bB.2.2.2 e).1;have ahx:=ahy (c:=x.v.ae) (last:=x.v.last) h.ae hl e;rcases g.prog (n:=n) (b:=(aY x.v.ae x.v.last).2.1) (p:=(c0 ⟨x.v.gen+1,a⟩ x.v.ae.size).1) (by omega) (by rw[bB.2.1.len];omega) (by
   rw[eC,if_neg (by rw[g.nb];simp)]at ahx;omega) (by rw[bB.2.1.size];exact p2)with⟨e2,g2⟩|e2
  ·
   rw[if_pos e2];left;refine⟨rfl,g2,rfl,rfl,fun i=>?_,rfl⟩;show ak (bA (aY x.v.ae x.v.last).1 (aY x.v.ae x.v.last).2.1 _) ((i:Int)+2)=_;rw[Ig e2 (by omega)];exact ahw hl i
  right;rw[if_neg (by rw[e2];decide),if_pos (by rw[e2];decide)];exact e2
 right;rw[if_pos (by rw[e];decide)];exact e
where
 ahy {c:CV} {last:Int} (hk:ba c=true) (hl:last=0\/last=1) (he:(aY c last).2.2=0):0<eC (aY c last).1 (aY c last).2.1:=by
  rw[aY]at he⊢
  by_cases h1:0<eC c last
  ·
   rw[if_pos h1];exact h1
  rw[if_neg h1]at he⊢
  by_cases h2:0<eC c (1 -last)
  ·
   rw[if_pos h2];exact h2
  rw[if_neg h2]at he⊢
  by_cases h3:(ak c (1 -last)).bad=true
  ·
   rw[if_pos h3]at he;cases he
  rw[if_neg h3]at he⊢;obtain⟨e1,e2,e3,e4,e5⟩:=De he;have hh:=(pY.1 e1).1;have hd:=eY hk;show 0<eC (dv c (1 -last)) (1 -last);rw[e5,eC,kU,qJ hh,e4,e3];simp only[as2,if_false];omega
def kK(p:Int)(x:aA):Nat:=if x.bad=true then 0 else if x.live=0 then(if 0<x.used/\x.used<p then 1 else 0)else(x.used -x.live).toNat
def pE(p:Int)(l:List aA):Nat:=(l.map (kK p)).sum
theorem VJ{f:aA->Nat}: ∀{l:List aA} {i:Nat} {x y:aA},l[i]? =some y->((l.set i x).map f).sum+f y=(l.map f).sum+f x
 |[],i,x,y,h=>by simp at h
 |z::r,0,x,y,h=>by
  obtain rfl:z=y:=by simpa using h
  simp only[atI,asL,au7];omega
 |z::r,i+1,x,y,h=>by
  have:=VJ (f:=f) (l:=r) (i:=i) (x:=x) (y:=y) (by simpa using h);simp only[auT,asL,au7];omega
theorem Ef{p:Int}{l:List aA}{i:Nat}{x y:aA}(h:l[i]? =some y):pE p (l.set i x)+kK p y=pE p l+kK p x:=VJ h
theorem VK{f:aA->Nat}: ∀{l:List aA},(∀x∈l,f x=0)->(l.map f).sum=0
 |[],_=>rfl
 |z::r,h=>by
  rw[asL,au7,h z asv,VK fun x hx=>h x (asE _ hx)]
theorem ahz{b:List UInt8}(h:(cI b).2=0)(hk:(cI b).1.kind≠0):l8 (cI b).1 b.length=true:=by
 rw[cI]at h hk⊢
 by_cases h1:n7 b.length=false
 ·
  rw[if_pos h1]at h;cases h
 rw[if_neg h1]at h hk⊢
 by_cases h2:j8 b=true
 ·
  rw[if_pos h2]at hk;exact absurd rfl hk
 rw[if_neg h2]at h hk⊢
 by_cases h3:de (yQ b)≠kz (mc b)
 ·
  rw[if_pos h3]at h;cases h
 rw[if_neg h3]at h hk⊢
 by_cases h4:pc b=false
 ·
  rw[if_pos h4]at h;cases h
 rw[if_neg h4]at h hk⊢
 by_cases h5:xj (n8 b)=false
 ·
  rw[if_pos h5]at h;cases h
 rw[if_neg h5];have hf:pc b=true:=by simpa using h4
 rw[pc,alM,decide_eq_true_eq]at hf;obtain⟨m1,m2,m3,m4,m5,m6⟩:=rv.1 hf.2;exact rv.2 ⟨m1,m2,m3,m4,m5,by
  have:((b.drop 10).take (10+iB b -10)).length<=iB b:=by rw[asq];omega
  show(((b.drop 10).take (10+iB b -10)).length:Int)<=_;omega⟩
theorem Ok.tell{n:Nat}{c:CV}{fl:List Int}(h:Ok n c)(i:Nat):pD c fl i=⟨cU c.pages fl i,(ak c ((i:Int)+2)).used,(ak c ((i:Int)+2)).aR,false⟩:=Nu (h.nb _)
theorem Ok.get{n:Nat}{c:CV}{fl:List Int}(h:Ok n c)(hs:Std c fl){i:Nat}(hi:i<c.blocks.length -2):(aw c fl)[i]? =some ⟨cU c.pages fl i,(ak c ((i:Int)+2)).used,(ak c ((i:Int)+2)).aR,false⟩:=by
 have hd:=eY h.ae;rw[zD (by omega) hs,asB,atQ hi,as7,h.tell]
theorem Ok.getD{n:Nat}{c:CV}{fl:List Int}(h:Ok n c)(hs:Std c fl){i:Nat}(hi:i<c.blocks.length -2):(aw c fl).getD i eA=⟨cU c.pages fl i,(ak c ((i:Int)+2)).used,(ak c ((i:Int)+2)).aR,false⟩:=by
 have:=h.get hs hi;simp only[List.getD,this,auC]
theorem Ok.BR{n:Nat}{c:CV}(h:Ok n c){i:Nat}(hi:i<c.blocks.length -2):0<=(ak c ((i:Int)+2)).used/\(ak c ((i:Int)+2)).used<=c.pages:=by
 have hb:=fk.1 (sM h.ae (b:=(i:Int)+2) (by omega) (by omega));exact⟨hb.2.1,hb.2.2.1⟩
theorem Ok.VL{n:Nat}{c:CV}{fl:List Int}(h:Ok n c)(hs:Std c fl){i:Nat}(hi:i<c.blocks.length -2):(cU c.pages fl i:Int)<=(ak c ((i:Int)+2)).used:=by
 have hd:=eY h.ae;exact VC (by omega) hs i (h.BR hi).1
theorem VM(l:List aA): ∀k,0<(gB l k).2->(gB l k).1.toNat<k/\(l.getD (gB l k).1.toNat eA).bad=false/\(l.getD (gB l k).1.toNat eA).live≠0/\(gB l k).2=(l.getD (gB l k).1.toNat eA).used -(l.getD (gB l k).1.toNat eA).live
 |0,h=>by simp[gB]at h
 |k+1,h=>by
  have ih:=VM l k;rw[gB,xu]at h⊢
  by_cases h1:(l.getD k eA).bad=true\/(l.getD k eA).live=0\/cX<=(l.getD k eA).aR
  ·
   rw[if_pos h1]at h⊢;obtain⟨i1,i2⟩:=ih h;exact⟨by omega,i2⟩
  rw[if_neg h1]at h⊢
  by_cases h2:(gB l k).2<(l.getD k eA).used -(l.getD k eA).live
  ·
   rw[if_pos h2];simp only[atu];exact⟨by omega,by
    cases hb:(l.getD k eA).bad with
    |false=>rfl
    |true=>exact absurd (.inl hb) h1,fun g=>h1 (.inr (.inl g)),trivial⟩
  rw[if_neg h2]at h⊢;obtain⟨i1,i2⟩:=ih h;exact⟨by omega,i2⟩
theorem VN(l:List aA){j:Nat}(h1:(l.getD j eA).bad=false)(h2:(l.getD j eA).live≠0)(h3:(l.getD j eA).aR<cX): ∀k,j<k->(l.getD j eA).used -(l.getD j eA).live<=(gB l k).2
 |0,h=>by omega
 |k+1,h=>by
  rw[gB,xu]
  by_cases e:j=k
  ·
   subst e;rw[if_neg (by rintro(g|g|g);rw[h1]at g;cases g;exact h2 g;omega)];split
   ·
    exact atx _
   omega
  have ih:=VN l h1 h2 h3 k (by omega);split
  ·
   exact ih
  split
  ·
   simp only;omega
  exact ih
theorem ahA{n:Nat}{c:CV}{fl:List Int}(h:Ok n c)(hs:Std c fl)(hv:(iM (aw c fl) c.pages).2=true):
  ∃i:Nat,(iM (aw c fl) c.pages).1=i/\i<c.blocks.length -2/\0<cU c.pages fl i/\(cU c.pages fl i:Int)<(ak c ((i:Int)+2)).used:=by
 have hd:=eY h.ae;have Ia:=KW hv;rw[lG]at Ia;refine⟨(iM (aw c fl) c.pages).1.toNat,by omega,by omega,?_⟩;have mY:=h.getD hs (i:=(iM (aw c fl) c.pages).1.toNat) (by omega);rw[iM]at hv mY⊢
 by_cases h1:(vG (aw c fl) c.pages).2=true
 ·
  rw[if_pos h1]at mY⊢;obtain⟨f1,f2,f3,f4⟩:=AT h1;simp only at mY⊢;change yU c.pages ((aw c fl).getD (vG (aw c fl) c.pages).1.toNat eA)=true at f4;rw[mY,yU]at f4;simp only[as2,if_false,alM,decide_eq_true_eq]at f4;omega
 ·
  rw[if_neg h1]at hv mY⊢;simp only[decide_eq_true_eq]at hv mY⊢;obtain⟨_,s1,s2,s3⟩:=VM _ _ hv;rw[mY]at s2 s3;simp only at s2 s3;omega
theorem ahB{n:Nat}{c:CV}{fl:List Int}(h:Ok n c)(hs:Std c fl){j:Nat}(hj:j<c.blocks.length -2)(h1:0<cU c.pages fl j)(h2:(cU c.pages fl j:Int)<(ak c ((j:Int)+2)).used):(iM (aw c fl) c.pages).2=true:=by
 rw[iM];split
 ·
  rfl
 have mY:=h.getD hs hj;have:=VN (aw c fl) (j:=j) (by rw[mY]) (by rw[mY];simp only;omega) (by rw[mY];have:=h.aR ((j:Int)+2);simp only;omega) (aw c fl).length (by rw[lG];exact hj);rw[mY]at this;simp only[decide_eq_true_eq]at this⊢;omega
theorem BS{R:aA->Bool}{x:aA}(h:x.bad=false)(hR:R x=true):iC R x=x:=by
 rw[iC,if_neg];rintro(g|g)
 ·
  rw[h]at g;cases g
 rw[hR]at g;cases g
theorem Ik{α:Type}{l:List α}{i:Nat}{x:α}(h:l[i]? =some x):l.set i x=l:=xi h
theorem ahC{n:Nat}{c:CV}{fl:List Int}{i j:Nat}(h:Ok (n+17) c)(hs:Std c fl)(hj:j<c.blocks.length -2)(cA:j≠i)(hd0:cU c.pages fl j=0):
  (∃(t:Nat) (w:Int),t≠i/\t<c.blocks.length -2/\cU c.pages fl t=0/\(bX c ((aw c fl).set i bb)).2=((t:Int)+2,0)/\Ok n (bX c ((aw c fl).set i bb)).1/\aw (bX c ((aw c fl).set i bb)).1 fl=(aw c fl).set t ⟨0,0,w,false⟩/\Kp fl c (bX c ((aw c fl).set i bb)).1)\/(bX c ((aw c fl).set i bb)).2.2=7:=by
 have hd:=eY h.ae;have MH:=Nv h.ae hs (by omega);have hw:=ahu MH i;have hgj:=h.get hs hj;have kx:(⟨cU c.pages fl j,(ak c ((j:Int)+2)).used,(ak c ((j:Int)+2)).aR,false⟩:aA)∈(aw c fl).set i bb:=by
  refine anc (i:=j) ?_;rw[asS (fun e=>cA e.symm)];exact hgj
 have Nw:=h.BR hj;have hwo:=h.aR ((j:Int)+2);have VO: ∀{k:Nat} {x:aA},((aw c fl).set i bb)[k]? =some x->x.bad=false->k≠i/\k<c.blocks.length -2/\x=⟨cU c.pages fl k,(ak c ((k:Int)+2)).used,(ak c ((k:Int)+2)).aR,false⟩:=fun{k x} hx hb=>by
  have hk:k≠i:=fun e=>by
   rw[e,atb]at hx;rw[if_pos rfl]at hx;split at hx
   ·
    obtain rfl:=aso hx;cases hb
   ·
    cases hx
  rw[asS (fun e=>hk e.symm)]at hx;obtain⟨rfl,hl⟩:=wo (by omega) hs hx;exact⟨hk,hl,h.tell k⟩
 have VP: ∀{d:Int×Bool},(∃x,((aw c fl).set i bb)[d.1.toNat]? =some x/\x.bad=false/\x.live=0)->0<=d.1->
   ((∃(t:Nat) (w:Int),t≠i/\t<c.blocks.length -2/\cU c.pages fl t=0/\(d.1+2,(cF c (d.1+2)).2)=((t:Int)+2,0)/\Ok n (cF c (d.1+2)).1/\aw (cF c (d.1+2)).1 fl=(aw c fl).set t ⟨0,0,w,false⟩/\Kp fl c (cF c (d.1+2)).1)\/(cF c (d.1+2)).2=7):=fun{d} hx h0=>by
  obtain⟨x,hx,hb,hl⟩:=hx;obtain⟨k1,k2,k3⟩:=VO hx hb;rw[k3]at hl;simp only at hl;have e:d.1=((d.1.toNat:Nat):Int):=by omega
  rw[e];have mI:=(uP (by omega) hs d.1.toNat).1 (by omega);rcases h.Ii (b:=((d.1.toNat:Nat):Int)+2) (by omega) (by omega)with⟨z,g⟩|z
  ·
   left;exact⟨d.1.toNat,_,k1,k2,by omega,by rw[z],g,(Ih h.ae hs mI z).1,zy (by omega) mI⟩
  ·
   exact .inr z
 rw[bX]
 by_cases hA:(mj c ((aw c fl).set i bb)).2=true
 ·
  rw[if_pos hA];left;obtain⟨x,hx,a1,a2,a3,a4,a5⟩:=pf (fun x h=>(sN h).1) hA;have qC:((aw c fl).set i bb)[(mj c ((aw c fl).set i bb)).1.toNat]? =some x:=hx;change 0<=(mj c ((aw c fl).set i bb)).1 at a4;generalize mj c ((aw c fl).set i bb)=T at*;obtain⟨k1,k2,k3⟩:=VO qC a1;simp only[rE,decide_eq_true_eq]at a2;rw[k3]at a2;simp only at a2;have TR:=h.VL hs k2;have mE:cU c.pages fl T.1.toNat=0:=by omega
  refine⟨T.1.toNat,(ak c ((T.1.toNat:Int)+2)).aR,k1,k2,mE,by simp only;rw[atC a4],h.mono (by omega),?_, .dk _ _⟩;refine(Ik ?_).symm;have:=h.get hs k2;rw[mE,a2]at this;exact this
 ·
  rw[if_neg hA];have Nx:=ui (BQ (R:=rE) hw) (show(fx (bU rE ((aw c fl).set i bb)) c.pages (mH c.pages) [AQ,sK]).2=false by simpa[mj,fy]using hA);have DD:(ak c ((j:Int)+2)).used≠0:=fun e=>by
   have:=Nx _ (asN (f:=iC rE) kx);rw[BS rfl (by simp[rE,e]),mH]at this;simp only[auq,ath,decide_eq_false_iff_not]at this;omega
  have Il:mf ⟨cU c.pages fl j,(ak c ((j:Int)+2)).used,(ak c ((j:Int)+2)).aR,false⟩=true:=by
   simp only[mf,hd0,auq,ath,alM,decide_eq_true_eq];exact⟨rfl,by omega⟩
  by_cases hB:(jL c ((aw c fl).set i bb)).2=true
  ·
   rw[if_pos hB];obtain⟨x,hx,a1,a2,a3,a4,a5⟩:=pf (fun x h=>(lI h).1) hB;exact VP (d:=jL c ((aw c fl).set i bb)) ⟨x,hx,a1,(lI a3).2.1⟩ a4
  ·
   rw[if_neg hB];have Ny:=ui (BQ (R:=sR c.pages) hw) (show(fx (bU (sR c.pages) ((aw c fl).set i bb)) c.pages mf [sK]).2=false by simpa[jL,fG]using hB);have hup:(ak c ((j:Int)+2)).used≠c.pages:=fun e=>by
    have:=Ny _ (asN (f:=iC (sR c.pages)) kx);rw[BS rfl (by simp[sR,e]),Il]at this
    cases this
   by_cases hD:(jM c ((aw c fl).set i bb)).2=true
   ·
    rw[if_pos hD];obtain⟨x,hx,a1,a2,a3,a4,a5⟩:=pf (fun x h=>(lI h).1) hD;exact VP (d:=jM c ((aw c fl).set i bb)) ⟨x,hx,a1,(lI a3).2.1⟩ a4
   ·
    exfalso;have nu:=ui (BQ (R:=sS) hw) (show(fx (bU sS ((aw c fl).set i bb)) c.pages mf [sK]).2=false by simpa[jM,fG]using hD);have:=nu _ (asN (f:=iC sS) kx);rw[BS rfl (by simp only[sS,decide_eq_true_eq];omega),Il]at this
    cases this
def Im(p:Int)(b:Int)(n:Int):Bool:=decide (0<n)&&decide ((n -1)/p=b)
def uQ(p:Int)(b:Int)(l:List Int):Nat:=(l.filter (Im p b)).length
theorem ahD(P:Int->Bool): ∀(l:List Int),((List.range l.length).filter fun j=>P (l.getD j 0)).length=(l.filter P).length:=by
 intro l;have key: ∀k,k<=l.length->((List.range k).filter fun j=>P (l.getD j 0)).length=((l.take k).filter P).length:=by
  intro k
  induction k with
  |zero=>intro _;simp
  |succ k ih=>
   intro hk;have hy:=asr (show k<l.length by omega);rw[atq,atH,af0,ih (by omega),asC,hy,atH,af0,p6 hy|>fun e=>(show(List.filter (fun j=>P (l.getD j 0)) [k]).length=(List.filter P [l[k]]).length by
    have:l.getD k 0=l[k]:=e;simp only[atf,auL,this];split<;>rfl)]
   rfl
 have:=key l.length (asu _);rwa [asP]at this
theorem ahE{v:VV}(h:fA v)(i:Nat):uQ v.ae.pages ((i:Int)+2) v.at_=cU v.ae.pages v.at_ i:=by
 have hp:1<=v.ae.pages:=by have:=(fS.1 h.bears).2.2.1;omega
 rw[←Ie hp i (h.pl.mX.pos hp),acf (BN.2 h) i,K9,uQ];exact(ahD (Im v.ae.pages ((i:Int)+2)) v.at_).symm
theorem VQ{c:CV}{fl:List Int}(hk:ba c=true)(h:Std c fl): ∀x∈fl,0<=x/\x<=65535:=fun x hx=>by
 have hd:=eY hk;rcases h.pos (by omega) x hx with h0|h1
 ·
  omega
 have hp:=mF.1 (h x hx (by omega));have:=KN (n:=x) hd.2.2.1 hd.2.2.2.1 hd.2.1 hp.2.1;omega
theorem ahF{c:CV}(hb:gn c=true){i n:Int}(h:n9 c i n=true):l8 (cI (bL c (n -1))).1 c.size=true/\(cI (bL c (n -1))).1.id=i/\ji c n=(cI (bL c (n -1))).1.body:=by
 obtain⟨h1,h2,h3,h4⟩:=D7 h;obtain⟨p1,p2,p3⟩:=mF.1 h1;obtain⟨k1,_,k3,_⟩:=fS.1 hb;have oy:=fk.1 (sM k1 (b:=(n -1)/c.pages) (by omega) p2);have h0:0<=(n -1)%c.pages:=auw _ (by omega);have hj:((n -1)%c.pages).toNat<(ak c ((n -1)/c.pages)).pages.length:=by omega
 have hl:((bL c (n -1)).length:Int)=c.size:=by
  rw[bL];simp only[List.getD];rw[asr hj];exact oy.2.2.2.2.2 _ (auf hj)
 refine⟨?_,h4,by rw[ji,if_pos h2]⟩;have:=ahz h2 (by rw[h3];decide);rwa [hl]at this
theorem Nz{v:VV}{src:Int}{t:Nat}(Az:(t:Int)+2≠src)(hg:v.gen+1<281474976710656): ∀(l:List Int) (id:Nat) {n:Nat} {c:CV} {a:List Int} {m:Nat} {w:Int},Ok (n+l.length) c->dP v.ae c->t<c.blocks.length -2->Pl c v.at_->Std c a->a.length=v.at_.length->v.at_.drop id=l->(∀j,id<=j->a[j]? =v.at_[j]?)->(∀(j:Nat) (y:Int),v.at_[j]? =some y->(y=0\/(y -1)/v.ae.pages≠src)->a[j]? =some y)->
  cU c.pages (v.at_++a) t=m->(ak c ((t:Int)+2)).used=m->(m:Int)+uQ c.pages src l<=c.pages->
  ((ca v src ((t:Int)+2) l id c a).e=none/\Ok n (ca v src ((t:Int)+2) l id c a).c/\Std (ca v src ((t:Int)+2) l id c a).c (ca v src ((t:Int)+2) l id c a).a/\
   (∃m' w':Int,aw (ca v src ((t:Int)+2) l id c a).c (v.at_++(ca v src ((t:Int)+2) l id c a).a)=(aw c (v.at_++a)).set t ⟨m',m',w',false⟩)/\
   (∀(j:Nat) (y:Int),v.at_[j]? =some y->(y=0\/(y -1)/v.ae.pages≠src)->(ca v src ((t:Int)+2) l id c a).a[j]? =some y))\/(ca v src ((t:Int)+2) l id c a).e=some 7
 |[],id,n,c,a,m,w,h,fv,ht,hv,ha,ei,hl,ja,dJ,qe,Bh,NA=>by
  left;refine⟨rfl,h,ha,⟨m,(ak c ((t:Int)+2)).aR,?_⟩,dJ⟩;have:=h.get (fl:=v.at_++a) (hv.mX.append ha) ht;rw[qe,Bh]at this;exact(Ik this).symm
 |y::r,id,n,c,a,m,w,h,fv,ht,hv,ha,ei,hl,ja,dJ,qe,Bh,NA=>by
  have hy:v.at_[id]? =some y:=by
   have:=congrArg (fun l:List Int=>l[0]?) hl;simpa using this
  have hr:v.at_.drop (id+1)=r:=by rw[←at3,hl];rfl
  have hp:=fv.pages;have hd:=eY h.ae;rw[ca]
  by_cases h1:y=0\/(y -1)/v.ae.pages≠src
  ·
   rw[if_pos h1];refine Nz Az hg r (id+1) (n:=n) (w:=w) (h.mono (by simp only[asm];omega)) fv ht hv ha ei hr (fun j hj=>ja j (by omega)) dJ qe Bh ?_;have:uQ c.pages src (y::r)=uQ c.pages src r:=by
    rw[uQ,List.filter_cons_of_neg];rfl;simp only[Im,alM,decide_eq_true_eq];rintro⟨g1,g2⟩;rcases h1 with g|g
    ·
     omega
    ·
     rw[←hp]at g;exact g g2
   rw[←this];exact NA
  ·
   rw[if_neg h1];have mB:y≠0:=fun e=>h1 (.inl e);have hys:(y -1)/c.pages=src:=by rw[hp];exact Classical.not_not.1 fun e=>h1 (.inr e)
   have G5:1<=y:=(hv.mX.pos (by omega) y (anc hy)).resolve_left mB;have hb:cn c v.at_ a src ((t:Int)+2)=((t:Int)+2,true):=by rw[cn,if_neg (by omega)]
   rw[hb,if_neg (by simp)];have vW:=hv.1 id y hy mB;obtain⟨y1,y2,y3⟩:=ahF h.ok vW;obtain⟨z1,z2,z3,z4,z5,z6⟩:=rv.1 y1;rw[y2]at z3 z4;have BO:l8 ⟨1,id,((v.gen:Int)+1).toNat,ji c y⟩ c.size=true:=rv.2 ⟨z1, .inl rfl,z3,z4,by simp only;omega,by rw[y3];exact z6⟩;have NB:eF c ((v.gen:Int)+1) id y=((eF c ((v.gen:Int)+1) id y).1,0):=by
    rw[eF,du,if_pos BO]
   have bW:((eF c ((v.gen:Int)+1) id y).1.length:Int)=c.size:=D4 BO;rw[if_neg (by rw[NB];simp)];have ahG:uQ c.pages src (y::r)=uQ c.pages src r+1:=by
    rw[uQ,List.filter_cons_of_pos];rfl;simp only[Im,alM,decide_eq_true_eq];exact⟨by omega,hys⟩
   rw[ahG]at NA;rcases h.prog (n:=n+r.length) (b:=(t:Int)+2) (p:=(eF c ((v.gen:Int)+1) id y).1) (by omega) (by omega) (by omega) bW with⟨z,g⟩|z
   ·
    rw[if_neg (by rw[z];simp)];have e2:(t:Int)+2=((t:Nat):Int)+2:=rfl;generalize hN:((t:Int)+2)*v.ae.pages+(ak c ((t:Int)+2)).used+1=N;have kx: ∀k,k∈v.at_++a.set id N↔k∈v.at_++a\/k=((t:Int)+2)*c.pages+(ak c ((t:Int)+2)).used+1:=fun k=>by
     rw[hp,hN,asz,asz];have hid:id<a.length:=by rw[ei];exact(ad2.1 hy).1
     constructor
     ·
      rintro(q|q)
      ·
       exact .inl (.inl q)
      ·
       rcases asV q with q|q
       ·
        exact .inl (.inr q)
       ·
        exact .inr q
     ·
      rintro((q|q)|q)
      ·
       exact .inl q
      ·
       obtain⟨j,hj⟩:=asM q
       by_cases e:j=id
       ·
        rw[e,ja id (asu _)]at hj;exact .inl (anc hj)
       ·
        right;exact anc (i:=j) (by rw[asS (fun g=>e g.symm)];exact hj)
      ·
       right;rw[q];exact anc (i:=id) (by rw[asJ hid])
    obtain⟨b1,b2⟩:=VD h.ae (hv.mX.append ha) z kx;have wm:=HW (L:=v.at_) (c:=c) (b:=(t:Int)+2) (p:=(eF c ((v.gen:Int)+1) id y).1);have pC:=iK c ((t:Int)+2) (eF c ((v.gen:Int)+1) id y).1;have fT:=jI.1 (p8 z).1;have k7:=Ee z;have ft:(((t:Int)+2)*c.pages+(ak c ((t:Int)+2)).used+1 -1)/c.pages=(t:Int)+2:=by
     rw[atX,aul,atE _ _ (by omega),atn fT.2.1 fT.2.2.1,aup]
    have ahH:((t:Int)+2)*c.pages+(ak c ((t:Int)+2)).used+1∉v.at_++a:=fun iE=>by
     have AY:0<=((t:Int)+2)*c.pages:=aub (by omega) (by omega);have:=hv.mX.append ha _ iE (by have:=fT.2.1;omega);rw[atX,(H4 (L:=[]) (by omega) z).2.2.2]at this;cases this
    have VR:=Nr (by omega) ft ahH kx t;rw[if_pos rfl,qe]at VR;have ih:=Nz Az hg r (id+1) (n:=n) (w:=w) (m:=m+1) (a:=a.set id N) g (fv.trans pC) (by rw[pC.len];exact ht) (hv.kd wm fun _ q=>q) (fun k hk=>b2 k (atO _ hk)) (by rw[as1,ei]) hr (fun j hj=>by rw[asS (by omega)];exact ja j (by omega)) (fun j q hq H9=>by
     by_cases e:j=id
     ·
      rw[e,hy]at hq;obtain rfl:=aso hq;exact absurd H9 h1
     ·
      rw[asS (fun g=>e g.symm)];exact dJ j q hq H9) (by rw[pC.pages];exact VR) (by rw[k7.1,Bh];rfl) (by rw[pC.pages];omega)
    rcases ih with⟨i1,i2,i3,⟨m',w',i4⟩,i5⟩|i1
    ·
     left;refine⟨i1,i2,i3,⟨m',w',?_⟩,i5⟩;rw[i4,b1,avj]
    ·
     exact .inr i1
   ·
    right;rw[if_pos (by rw[z];decide)];show some (kb (bx c ((t:Int)+2) (eF c ((v.gen:Int)+1) id y).1))=some 7;rw[z];rfl
structure Lv(n:Nat)(x:WV):Prop where
 ok:Ok n x.v.ae
 wr:cY x
 rt:fA x.v
 pl:iR x.v.ae
 jK:(x.v.at_.length:Int)<=kB x.v.ae.size
 half:2*(x.v.at_.length:Int)<=((x.v.ae.blocks.length:Int) -4)*x.v.ae.pages
 idle: ∃j,j<x.v.ae.blocks.length -2/\cU x.v.ae.pages x.v.at_ j=0
theorem Lv.mono{n m:Nat}{x:WV}(h:Lv n x)(hm:m<=n):Lv m x:=⟨h.ok.mono hm,h.wr,h.rt,h.pl,h.jK,h.half,h.idle⟩
def mZ(x:WV):Nat:=pE x.v.ae.pages (aw x.v.ae x.v.at_)
theorem Lv.next{n m:Nat}{x y:WV}(h:Lv m x)(s:Sf x (cy x.v) y 0)(o:cY y)(k:Ok n y.v.ae)(hi: ∃j,j<y.v.ae.blocks.length -2/\cU y.v.ae.pages y.v.at_ j=0):Lv n y:=
 ⟨k,o,(s.cH rfl).1,h.pl.kd s.kd,by rw[s.len,s.kd.bV.size];exact h.jK,by rw[s.len,s.kd.bV.len,s.kd.bV.pages];exact h.half,hi⟩
theorem ahI{n:Nat}{x:WV}{i:Nat}(h:Lv (n+100) x)(hg:x.v.gen+2<281474976710656)(hi:i<x.v.ae.blocks.length -2)(h0:0<cU x.v.ae.pages x.v.at_ i)(h1:(cU x.v.ae.pages x.v.at_ i:Int)<(ak x.v.ae ((i:Int)+2)).used):
  ((fI x (dh x) i).2=0/\Lv n (fI x (dh x) i).1/\mZ (fI x (dh x) i).1<mZ x/\(fI x (dh x) i).1.v.gen=x.v.gen+1)\/(fI x (dh x) i).2=7:=by
 obtain⟨j,hj,Ic⟩:=h.idle;have cA:j≠i:=fun e=>by rw[e]at Ic;omega
 have hd:=eY h.ok.ae;have jo:=h.rt.pl.mX;have eW:x.v.at_.length<=64:=h.wr.jK;have mr:=Vo (l:=dh x) (i:=(i:Int)) h.wr h.rt h.pl (yX _ _) (H2 _ _) (by omega) (by rw[show(dh x).length=_ from lG _ _];omega);have ni:=K3 (l:=dh x) (i:=(i:Int)) h.wr (yX _ _);have rX:=mr.1;have VS:=h.ok.get (fl:=x.v.at_) jo hi;have mY:(dh x).getD i eA=_:=h.ok.getD (fl:=x.v.at_) jo hi;rcases ahC (n:=n+83) (i:=i) h.ok jo hj cA Ic with⟨t,w,t1,t2,t3,t4,t5,t6,t7⟩|tz
 ·
  have ei:qL x.v.ae (dh x) i=false:=by
   rw[qL,show(bX x.v.ae ((dh x).set (i:Int).toNat bb)).2.2=0 from congrArg Prod.snd t4];rfl
  have pB:cS x.v.ae (dh x) i=((t:Int)+2,0):=by
   rw[cS,if_neg (by rw[ei];simp)];exact t4
  rw[fI,pB]at rX ni⊢;rw[if_neg (by simp)]at rX ni⊢;have aE:(i:Int).toNat=i:=rfl;rw[aE]at rX ni⊢;change Ok (n+83) (bX x.v.ae ((dh x).set i bb)).1 at t5;change aw (bX x.v.ae ((dh x).set i bb)).1 x.v.at_=(dh x).set t ⟨0,0,w,false⟩at t6;change Kp x.v.at_ x.v.ae (bX x.v.ae ((dh x).set i bb)).1 at t7;generalize(bX x.v.ae ((dh x).set i bb)).1=c1 at*;have Eg:=h.rt.kp t7;have fv:=t7.bV;have oH:uQ c1.pages ((i:Int)+2) x.v.at_=cU x.v.ae.pages x.v.at_ i:=by rw[fv.pages];exact ahE h.rt i
  have Nw:=h.ok.BR hi;have BT:Std c1 x.v.at_:=Eg.pl.mX;have uF:aw c1 (x.v.at_++x.v.at_)=(dh x).set t ⟨0,0,w,false⟩:=by
   rw[←t6];exact Nt (by rw[fv.pages];omega) BT (BT.append BT) (.dk _) fun k=>⟨rfl,rfl,rfl,fun _=>xY (fun m _=>by rw[asz];exact or_self_iff) (by rw[fv.pages];omega)⟩
  have LR:t<c1.blocks.length -2:=by rw[fv.len];exact t2
  have Ab:=t5.get (fl:=x.v.at_++x.v.at_) (BT.append BT) LR;rw[uF,asJ (by rw[show(dh x).length=_ from lG _ _];exact t2)]at Ab;have VT:=aso Ab;have xN:(ak c1 ((t:Int)+2)).used=0:=(congrArg aA.used VT).symm;have pN:cU c1.pages (x.v.at_++x.v.at_) t=0:=by have:=congrArg aA.live VT;simp only at this;omega
  have VU:=Nz (v:=x.v) (src:=(i:Int)+2) (t:=t) (by omega) (by omega) x.v.at_ 0 (n:=n+19) (c:=c1) (a:=x.v.at_) (m:=0) (w:=w) (t5.mono (by omega)) fv LR Eg.pl BT rfl rfl (fun _ _=>rfl) (fun _ _ q _=>q) pN xN (by rw[oH,fv.pages];omega);have hmk:=H6 (v:=(x.on c1).v) (src:=(i:Int)+2) (tgt:=(t:Int)+2) (by omega) (fun _=>by omega) (by show 1<=c1.pages;rw[fv.pages];omega) (x.on c1).v.at_ 0 (c:=(x.on c1).v.ae) (a:=(x.on c1).v.at_) (t7.ok h.ok.ae) Eg.pl (.dk _ _) Eg.pl rfl (fun _=>⟨by omega,by show(t:Int)+2<c1.blocks.length;omega,t5.nb _⟩) rfl (fun _ _=>rfl) (fun j n hj=>by omega) rfl;have kN:ca x.v ((i:Int)+2) ((t:Int)+2) x.v.at_ 0 c1 x.v.at_=ca (x.on c1).v ((i:Int)+2) ((t:Int)+2) (x.on c1).v.at_ 0 (x.on c1).v.ae (x.on c1).v.at_:=by
   exact ahJ (v:=x.v) (u:=(x.on c1).v) fv.pages.symm rfl rfl _ _ _ _
  rw[kN]at VU;rcases VU with⟨e1,e2,e3,⟨m',w',e4⟩,e5⟩|e1
  ·
   obtain⟨k1,k2,_,_⟩:=hmk;obtain⟨k3,k4,k5,k6⟩:=k2 e1;have Io:df (x.on c1) ((i:Int)+2) ((t:Int)+2)=((eE ((x.on c1).on (ca (x.on c1).v ((i:Int)+2) ((t:Int)+2) (x.on c1).v.at_ 0 (x.on c1).v.ae (x.on c1).v.at_).c) (ca (x.on c1).v ((i:Int)+2) ((t:Int)+2) (x.on c1).v.at_ 0 (x.on c1).v.ae (x.on c1).v.at_).a).1,decide ((eE ((x.on c1).on (ca (x.on c1).v ((i:Int)+2) ((t:Int)+2) (x.on c1).v.at_ 0 (x.on c1).v.ae (x.on c1).v.at_).c) (ca (x.on c1).v ((i:Int)+2) ((t:Int)+2) (x.on c1).v.at_ 0 (x.on c1).v.ae (x.on c1).v.at_).a).2=0),(eE ((x.on c1).on (ca (x.on c1).v ((i:Int)+2) ((t:Int)+2) (x.on c1).v.at_ 0 (x.on c1).v.ae (x.on c1).v.at_).c) (ca (x.on c1).v ((i:Int)+2) ((t:Int)+2) (x.on c1).v.at_ 0 (x.on c1).v.ae (x.on c1).v.at_).a).2):=by
    rw[df,e1]
   generalize hM:ca (x.on c1).v ((i:Int)+2) ((t:Int)+2) (x.on c1).v.at_ 0 (x.on c1).v.ae (x.on c1).v.at_=M at*;have pC:=fv.trans k1.bV;have fQ:cY ((x.on c1).on M.c):=(h.wr.on (t7.ok h.ok.ae) fv).on e2.ae k1.bV;have ahK:Ij ((x.on c1).on M.c).v.ae ((x.on c1).on M.c).v.gen M.a:=⟨by show x.v.gen+1<_;omega,by rw[show M.a.length=x.v.at_.length from k5,show((x.on c1).on M.c).v.ae.size=x.v.ae.size from pC.size];exact h.jK,VQ e2.ae e3⟩;rcases VI (n:=n+17) fQ (e2.mono (by omega)) ahK with⟨w1,w2,w3,w4,w5,w6⟩|w1
   ·
    have Eh:=Nh (a:=M.a) fQ (by
     have:=Eg.kp k1;exact this) ((h.pl.kd t7.toKd).kd k1.toKd) k3 k5
    have hRW:=(Eh.1.cH w1).1;have uR:dP x.v.ae (eE ((x.on c1).on M.c) M.a).1.v.ae:=pC.trans Eh.1.kd.bV;rw[Io]at rX ni⊢;simp only[w1,decide_true]at rX ni⊢;generalize hW:(eE ((x.on c1).on M.c) M.a).1=W at*;have Ei:Std W.v.ae M.a:=by have:=hRW.pl.mX;rwa [w3]at this
    have VW:aw W.v.ae M.a=((dh x).set t ⟨m',m',w',false⟩).set i ⟨0,(ak x.v.ae ((i:Int)+2)).used,(ak x.v.ae ((i:Int)+2)).aR,false⟩:=by
     have VX:aw M.c (x.v.at_++M.a)=(dh x).set t ⟨m',m',w',false⟩:=by
      rw[e4,uF,avj]
     have Ej:Std M.c (x.v.at_++M.a):=(h.rt.pl.mX.kd t7.toKd (fun _ q=>q)|>.kd k1.toKd fun _ q=>q).append e3;have VY:=e2.get (fl:=x.v.at_++M.a) Ej (i:=i) (by rw[pC.len];exact hi);rw[VX,asS t1,show(dh x)[i]? =_ from VS]at VY;have VZ:=aso VY;have qg:1<=M.c.pages:=by rw[pC.pages];omega
     rw[←VX];refine Ns qg Ej Ei (by have:=Eh.1.kd.bV;exact this) (fun k hk=>⟨w5 k,xY (fun q hq=>?_) qg⟩) ?_
     ·
      rw[asz];refine⟨.inr,fun g=>g.elim (fun g=>?_) id⟩;obtain⟨z,hz⟩:=asM g;have:=e5 z q hz (.inr (by rw[←pC.pages,hq];omega));exact anc this
     ·
      have mI:kJ M.a W.v.ae ((i:Int)+2):=by
       have:kJ M.a c1 ((i:Int)+2):=k6;exact this.bV (k1.bV.trans Eh.1.kd.bV)
      have:=(uP (by rw[uR.pages];omega) Ei i).2 mI;rw[w2.tell,this,w5 i];have u1:=congrArg aA.used VZ;have u2:=congrArg aA.aR VZ;simp only at u1 u2;rw[show(ak ((x.on c1).on M.c).v.ae ((i:Int)+2)).used=_ from u1.symm,show(ak ((x.on c1).on M.c).v.ae ((i:Int)+2)).aR=_ from u2.symm];rfl
    have hgt:(dh x)[t]? =_:=h.ok.get (fl:=x.v.at_) jo t2;have gq:=Ef (p:=x.v.ae.pages) (x:=⟨m',m',w',false⟩) hgt;have arV:kK x.v.ae.pages ⟨m',m',w',false⟩=0:=by
     rw[kK];simp only[as2,if_false];split
     ·
      rename_i e;rw[if_neg (by omega)]
     ·
      omega
    have V0:((dh x).set t ⟨m',m',w',false⟩)[i]? =_:=(asS t1).trans VS;have LP:1<=kK x.v.ae.pages ⟨cU x.v.ae.pages x.v.at_ i,(ak x.v.ae ((i:Int)+2)).used,(ak x.v.ae ((i:Int)+2)).aR,false⟩:=by
     rw[kK];simp only[as2,if_false];rw[if_neg (by omega)];omega
    have NC:cU W.v.ae.pages W.v.at_ i=0:=by
     have mI:kJ M.a W.v.ae ((i:Int)+2):=by
      have:kJ M.a c1 ((i:Int)+2):=k6;exact this.bV (k1.bV.trans Eh.1.kd.bV)
     rw[w3];exact(uP (by rw[uR.pages];omega) Ei i).2 mI
    have V1:i<W.v.ae.blocks.length -2:=by rw[uR.len];exact hi
    by_cases V2:(ak x.v.ae ((i:Int)+2)).used=x.v.ae.pages
    ·
     rw[mY]at rX ni⊢;rw[if_pos (.inr V2)]at rX ni⊢;left;refine⟨rfl,h.next rX ni.1.ok (w2.mono (by omega)) ⟨i,V1,NC⟩,?_,w4⟩;rw[mZ,mZ,uR.pages,w3,VW];have gy:=Ef (p:=x.v.ae.pages) (x:=⟨0,(ak x.v.ae ((i:Int)+2)).used,(ak x.v.ae ((i:Int)+2)).aR,false⟩) V0;have V3:kK x.v.ae.pages ⟨0,(ak x.v.ae ((i:Int)+2)).used,(ak x.v.ae ((i:Int)+2)).aR,false⟩=0:=by
      rw[kK];simp only[as2,if_false,if_true];rw[if_neg (by omega)]
     change _<pE x.v.ae.pages (dh x);omega
    ·
     rw[mY]at rX ni⊢;rw[if_neg (by rintro(g|g);cases g;exact V2 g)]at rX ni⊢;rcases w2.Ii (n:=n) (b:=(i:Int)+2) (by omega) (by omega)with⟨q1,q2⟩|q1
     ·
      simp only[q1]at rX ni⊢;left;have mI:kJ M.a W.v.ae ((i:Int)+2):=(uP (by rw[uR.pages];omega) Ei i).1 (by rw[←w3];exact NC);obtain⟨b1,b2⟩:=Ih w2.ae Ei mI q1;have kc:=(xp ((i:Int)+2) w2.ae).2;refine⟨rfl,h.next rX ni.1.ok q2 ⟨i,by show i<(cF W.v.ae _).1.blocks.length -2;rw[kc.len];exact V1,by show cU (cF W.v.ae ((i:Int)+2)).1.pages W.v.at_ i=0;rw[kc.pages];exact NC⟩,?_,w4⟩;show pE (cF W.v.ae ((i:Int)+2)).1.pages (aw (cF W.v.ae ((i:Int)+2)).1 W.v.at_)<_;rw[w3,b1,VW,kc.pages,uR.pages,avj];have gy:=Ef (p:=x.v.ae.pages) (x:=⟨0,0,(ak W.v.ae ((i:Int)+2)).aR+1,false⟩) V0;have V3:kK x.v.ae.pages ⟨0,0,(ak W.v.ae ((i:Int)+2)).aR+1,false⟩=0:=by
       rw[kK];simp
      change _<pE x.v.ae.pages (dh x);omega
     ·
      right;simp only[q1];rfl
   ·
    right;rw[Io];have hnz: ¬(eE ((x.on c1).on M.c) M.a).2=0:=by rw[w1];decide
    rw[if_pos (.inl (decide_eq_false hnz))];exact w1
  ·
   right;have Io:df (x.on c1) ((i:Int)+2) ((t:Int)+2)=((x.on c1).on (ca (x.on c1).v ((i:Int)+2) ((t:Int)+2) (x.on c1).v.at_ 0 (x.on c1).v.ae (x.on c1).v.at_).c,false,7):=by
    rw[df,e1]
   rw[Io,if_pos (.inl rfl)]
 ·
  right;have V4:(bX x.v.ae ((dh x).set (i:Int).toNat bb)).2.2=7:=tz;have ei:qL x.v.ae (dh x) i=false:=by rw[qL,V4];rfl
  have pB:(cS x.v.ae (dh x) i).2=7:=by rw[cS,if_neg (by rw[ei];simp)];exact V4
  rw[fI,if_pos (by rw[pB];decide),pB];rfl
where
 ahJ {v u:VV} {src tgt:Int} (h1:v.ae.pages=u.ae.pages) (h2:v.at_=u.at_) (h3:v.gen=u.gen) (l:List Int): ∀(id:Nat) (c:CV) (a:List Int),ca v src tgt l id c a=ca u src tgt l id c a:=by
  induction l with
  |nil=>intro id c a;rfl
  |cons n r ih=>
   intro id c a;rw[ca,ca,h1,h2,h3,ih,ih]
theorem ahL{n:Nat}{x:WV}{j:Nat}(h:Lv (n+17) x)(hj:j<x.v.ae.blocks.length -2)(h0:cU x.v.ae.pages x.v.at_ j=0)(h1:0<(ak x.v.ae ((j:Int)+2)).used)(h2:(ak x.v.ae ((j:Int)+2)).used<x.v.ae.pages):
  ((kD x (dh x)).2=0/\Lv n (kD x (dh x)).1/\mZ (kD x (dh x)).1<mZ x/\(kD x (dh x)).1.v.gen=x.v.gen)\/(kD x (dh x)).2=7:=by
 have hd:=eY h.ok.ae;have jo:=h.rt.pl.mX;have hw:=Nv h.ok.ae jo (by omega);have hg:=h.ok.get (fl:=x.v.at_) jo hj;have hwo:=h.ok.aR ((j:Int)+2);have mr:=Nk (l:=dh x) h.rt (H2 _ _);have pB:=K4 (l:=dh x) h.wr (yX _ _);have hD:(od x.v.ae (dh x)).2=true:=by
  cases hq:(od x.v.ae (dh x)).2 with
  |true=>rfl
  |false=>
   have:=ui (BQ (R:=nB x.v.ae.pages) hw) hq _ (asN (f:=iC (nB x.v.ae.pages)) (anc hg));rw[BS rfl (by simp only[nB,alM,decide_eq_true_eq];omega)]at this;have Il:mf ⟨cU x.v.ae.pages x.v.at_ j,(ak x.v.ae ((j:Int)+2)).used,(ak x.v.ae ((j:Int)+2)).aR,false⟩=true:=by
    simp only[mf,h0,auq,ath,alM,decide_eq_true_eq];exact⟨rfl,h1⟩
   rw[Il]at this;cases this
 obtain⟨z,hz,a1,a2,a3,a4,a5⟩:=pf (fun x h=>(lI h).1) (show(fx (bU (nB x.v.ae.pages) (dh x)) x.v.ae.pages mf [sK]).2=true from hD);have qo:(dh x)[(od x.v.ae (dh x)).1.toNat]? =some z:=hz;change 0<=(od x.v.ae (dh x)).1 at a4;rw[kD,if_neg (by rw[hD];simp)]at mr pB⊢;generalize od x.v.ae (dh x)=T at*;obtain⟨e1,e2⟩:=wo (by omega) jo qo;rw[h.ok.tell]at e1;have mE:=(lI a3).2.1;have DD:=(lI a3).2.2;rw[nB,alM,decide_eq_true_eq]at a2;have xN:=a2.1;rw[e1]at mE DD xN;simp only at mE DD xN;have eT:T.1=((T.1.toNat:Nat):Int):=by omega
 rw[eT]at mr pB⊢;have mI:=(uP (by omega) jo T.1.toNat).1 (by omega);rcases h.ok.Ii (n:=n) (b:=((T.1.toNat:Nat):Int)+2) (by omega) (by omega)with⟨q1,q2⟩|q1
 ·
  left;simp only[q1]at mr pB⊢;obtain⟨b1,b2⟩:=Ih h.ok.ae jo mI q1;have kc:=(xp (((T.1.toNat:Nat):Int)+2) h.ok.ae).2;refine⟨rfl,h.next mr pB.1.ok q2 ⟨T.1.toNat,by show _<(cF x.v.ae _).1.blocks.length -2;rw[kc.len];exact e2,by show cU (cF x.v.ae _).1.pages x.v.at_ _=0;rw[kc.pages];omega⟩,?_,rfl⟩;show pE (cF x.v.ae (((T.1.toNat:Nat):Int)+2)).1.pages (aw (cF x.v.ae (((T.1.toNat:Nat):Int)+2)).1 x.v.at_)<pE x.v.ae.pages (aw x.v.ae x.v.at_);rw[b1,kc.pages];have gy:=Ef (p:=x.v.ae.pages) (x:=⟨0,0,(ak x.v.ae (((T.1.toNat:Nat):Int)+2)).aR+1,false⟩) qo;have V3:kK x.v.ae.pages ⟨0,0,(ak x.v.ae (((T.1.toNat:Nat):Int)+2)).aR+1,false⟩=0:=by
   rw[kK];simp
  have kH:kK x.v.ae.pages z=1:=by
   rw[e1,kK];simp only[as2,if_false];rw[if_pos mE,if_pos ⟨DD,xN⟩]
  change pE x.v.ae.pages ((dh x).set _ _)<pE x.v.ae.pages (dh x);omega
 ·
  right;simp only[q1];rfl
theorem ahM{p:Int}{l:List aA}(h:0<pE p l): ∃(i:Nat) (x:aA),l[i]? =some x/\kK p x≠0:=by
 apply asH;intro hn;have:pE p l=0:=VK fun x hx=>by
  obtain⟨i,hi⟩:=asM hx;apply asH;intro bO;exact hn ⟨i,x,hi,bO⟩
 omega
theorem ahN{n:Nat}{x:WV}(h:Lv (n+100) x)(hg:x.v.gen+2<281474976710656)(hP:0<mZ x):
  ((eZ x).2=0/\Lv n (eZ x).1/\mZ (eZ x).1<mZ x/\(eZ x).1.v.gen<=x.v.gen+1)\/(eZ x).2=7:=by
 have hd:=eY h.ok.ae;have jo:=h.rt.pl.mX;have Bn:AV x.v.gen=false:=decide_eq_false (by omega);rw[eZ]
 by_cases hv:(sU x).2=true
 ·
  rw[if_pos ⟨hv,Bn⟩];obtain⟨i,v1,v2,v3,v4⟩:=ahA h.ok jo hv;have v1':(sU x).1=i:=v1;rw[v1'];rcases ahI h hg v2 v3 v4 with⟨r1,r2,r3,r4⟩|r1
  ·
   rw[if_pos (by rw[r1];decide)];exact .inl ⟨r1,r2,r3,by omega⟩
  ·
   rw[if_pos (by rw[r1];decide)];exact .inr r1
 ·
  rw[if_neg (fun g=>hv g.1)];obtain⟨i,z,hz,bO⟩:=ahM hP;obtain⟨e1,e2⟩:=wo (by omega) jo hz;rw[h.ok.tell]at e1;have hu:=h.ok.BR e2;rw[e1,kK]at bO;simp only[as2,if_false]at bO
  by_cases hl:cU x.v.ae.pages x.v.at_ i=0
  ·
   rw[if_pos (by omega)]at bO;have hb:0<(ak x.v.ae ((i:Int)+2)).used/\(ak x.v.ae ((i:Int)+2)).used<x.v.ae.pages:=by
    apply asH;intro hn;rw[if_neg hn]at bO;exact bO rfl
   rcases ahL (h.mono (by omega:n+17<=n+100)) e2 hl hb.1 hb.2 with⟨r1,r2,r3,r4⟩|r1
   ·
    exact .inl ⟨r1,r2,r3,by omega⟩
   ·
    exact .inr r1
  ·
   rw[if_neg (by omega)]at bO;exact absurd (ahB h.ok jo e2 (by omega) (by omega)) hv
def jq(p:Int)(x:aA):Int:=if x.bad=true then 0 else kX p x
def lO(p:Int)(x:aA):Int:=if x.bad=true then 0 else if x.live=0 then kX p x else 0
def pF(l:List Int):Int:=l.foldl max 0
theorem Ip{M:Int}(l:List Int): ∀s:Int,l.foldl max s<=M↔s<=M/\ ∀x∈l,x<=M:=by
 induction l with
 |nil=>intro s;simp
 |cons y r ih=>
  intro s;rw[at4,ih,Int.max_le];simp only[asw,forall_eq_or_imp];exact and_assoc
theorem ahO{p:Int}(l:List aA)(h: ∀x∈l,0<=kX p x): ∀s:Int×Int,0<=s.2->l.foldl (sP p) s=(s.1+fN (l.map (jq p)),(l.map (lO p)).foldl max s.2):=by
 induction l with
 |nil=>intro s _;simp[fN]
 |cons y r ih=>
  intro s hs;have ih':=ih fun x hx=>h x (asE _ hx);have hy:=h y asv;rw[at4];have br:0<=(sP p s y).2:=by
   rw[sP];split
   ·
    exact hs
   simp only;split<;>omega
  rw[ih' _ br,asL,asL,at4,fN];rw[sP,jq,lO]
  by_cases hb:y.bad=true
  ·
   rw[if_pos hb,if_pos hb,if_pos hb];rw[aup,Int.max_eq_left hs]
  rw[if_neg hb,if_neg hb,if_neg hb]
  by_cases hl:y.live=0
  ·
   rw[if_pos hl,if_pos hl,Int.add_assoc]
  rw[if_neg hl,if_neg hl,Int.max_eq_left hs,Int.add_assoc]
theorem V5{c:CV}{fl:List Int}(hk:ba c=true):kY c fl=(fN ((aw c fl).map (jq c.pages)) -pF ((aw c fl).map (lO c.pages)),fN ((aw c fl).map (jq c.pages))):=by
 have:=ahO (p:=c.pages) (aw c fl) (fun x hx=>(GB (uo hk hx) hk).1) (0,0) (atx _);rw[kY,fO,this,pF];simp only[aup]
theorem V6{f:aA->Int}: ∀{l:List aA} {i:Nat} {x y:aA},l[i]? =some y->fN ((l.set i x).map f)=fN (l.map f) -f y+f x
 |[],i,x,y,h=>by simp at h
 |z::r,0,x,y,h=>by
  obtain rfl:z=y:=by simpa using h
  simp only[atI,asL,fN];omega
 |z::r,i+1,x,y,h=>by
  have:=V6 (f:=f) (l:=r) (i:=i) (x:=x) (y:=y) (by simpa using h);simp only[auT,asL,fN];omega
theorem ahP{pages:Int}{l:List Int}: ∀(D k:Nat),((List.range D).map fun i=>j9 pages l k i).sum<=k:=by
 have step: ∀(D:Nat) (P:Bool) (b:Int),((List.range D).map fun i:Nat=>if P&&decide (b=(i:Int)+2)then 1 else 0).sum<=(if 2<=b/\b<(D:Int)+2 then 1 else 0):=by
  intro D P b
  induction D with
  |zero=>simp
  |succ D ih=>
   rw[atq,as0,avp];simp only[asL,ato,au7,List.sum_nil,atl]
   by_cases e:b=(D:Int)+2
   ·
    have hc:(if 2<=b/\b<(D:Int)+2 then 1 else 0)=0:=if_neg (by omega);have xP:(if 2<=b/\b<((D+1:Nat):Int)+2 then 1 else 0)=1:=if_pos (by omega);have Bu:(if P&&decide (b=(D:Int)+2)then 1 else 0)<=1:=by split<;>omega
    rw[hc]at ih;rw[xP];omega
   have Bu:(if P&&decide (b=(D:Int)+2)then 1 else 0)=0:=if_neg (by simp[e]);have hc4:(if 2<=b/\b<(D:Int)+2 then 1 else 0)<=(if 2<=b/\b<((D+1:Nat):Int)+2 then 1 else 0):=by
    by_cases g:2<=b/\b<(D:Int)+2
    ·
     rw[if_pos g,if_pos (by omega)];exact asu _
    rw[if_neg g];exact asO _
   rw[Bu];omega
 intro D k
 induction k with
 |zero=>
  have: ∀i∈List.range D,j9 pages l 0 i=0:=fun i _=>by simp[j9]
  rw[atp this];have: ∀n:Nat,((List.range n).map fun _:Nat=>(0:Nat)).sum=0:=fun n=>by
   induction n with
   |zero=>rfl
   |succ n ih=>rw[atq,as0,avp,ih];rfl
  rw[this];exact asu _
 |succ k ih=>
  have: ∀i∈List.range D,j9 pages l (k+1) i=j9 pages l k i+(if ny l k&&decide ((l.getD k 0 -1)/pages=(i:Int)+2)then 1 else 0):=fun i _=>C7 pages l k i;rw[atp this];have I6: ∀(f g:Nat->Nat) (n:Nat),((List.range n).map fun i=>f i+g i).sum=((List.range n).map f).sum+((List.range n).map g).sum:=fun f g n=>by
   induction n with
   |zero=>rfl
   |succ n ih=>
    rw[atq,as0,as0,as0,avp,avp,avp,ih];simp only[asL,ato,au7,List.sum_nil];omega
  have e:=I6 (fun i=>j9 pages l k i) (fun i=>if ny l k&&decide ((l.getD k 0 -1)/pages=(i:Int)+2)then 1 else 0) D;have h2:=step D (ny l k) ((l.getD k 0 -1)/pages);have h1:(if 2<=(l.getD k 0 -1)/pages/\(l.getD k 0 -1)/pages<(D:Int)+2 then 1 else 0)<=1:=by split<;>omega
  refine auO (Nat.le_of_eq e) ?_;exact Nat.add_le_add ih (auO h2 h1)
theorem ahQ{c:CV}{fl:List Int}{f:aA->Int}{g:Nat->Int}(hp:1<=c.pages)(hs:Std c fl)(h: ∀i,i<c.blocks.length -2->f (pD c fl i)=g i):fN ((aw c fl).map f)=fN ((List.range (c.blocks.length -2)).map g):=by
 rw[zD hp hs,List.map_map];congr 1;refine atp fun i hi=>?_;exact h i (asU.1 hi)
theorem V7(p:Int)(f:Nat->Nat): ∀D:Nat,fN ((List.range D).map fun i=>p -(f i:Int))=(D:Int)*p -(((List.range D).map f).sum:Nat)
 |0=>by simp[fN]
 |D+1=>by
  have ih:=V7 p f D;rw[atq,as0,as0,Rx,avp,ih];simp only[asL,ato,fN,au7,List.sum_nil];rw[show((D+1:Nat):Int)*p=(D:Int)*p+p by rw[Int.natCast_add,Int.add_mul];omega];omega
theorem ahR{n:Nat}{x:WV}(h:Lv n x)(hP:mZ x=0){need:Int}(hn:need<=x.v.at_.length):need<=(kY x.v.ae x.v.at_).1:=by
 have hd:=eY h.ok.ae;have hp:1<=x.v.ae.pages:=by omega
 have jo:=h.rt.pl.mX;have hz: ∀i,i<x.v.ae.blocks.length -2->kK x.v.ae.pages (pD x.v.ae x.v.at_ i)=0:=fun i hi=>by
  apply asH;intro bO;have hg:=h.ok.get (fl:=x.v.at_) jo hi;rw[←h.ok.tell]at hg;have:=Ef (p:=x.v.ae.pages) (x:=bb) hg;have hb:kK x.v.ae.pages bb=0:=rfl;change pE x.v.ae.pages (aw x.v.ae x.v.at_)=0 at hP;omega
 have Ab: ∀i,i<x.v.ae.blocks.length -2->kX x.v.ae.pages (pD x.v.ae x.v.at_ i)=x.v.ae.pages -(cU x.v.ae.pages x.v.at_ i:Nat):=fun i hi=>by
  have h0:=hz i hi;have hu:=h.ok.BR hi;have hl:=h.ok.VL jo hi;rw[h.ok.tell,kK]at h0;rw[h.ok.tell,kX];simp only[as2,if_false]at h0⊢
  by_cases mE:(cU x.v.ae.pages x.v.at_ i:Int)=0
  ·
   rw[if_pos mE]at h0;have hb: ¬(0<(ak x.v.ae ((i:Int)+2)).used/\(ak x.v.ae ((i:Int)+2)).used<x.v.ae.pages):=fun g=>by rw[if_pos g]at h0;cases h0
   split
   ·
    omega
   omega
  rw[if_neg mE]at h0;rw[if_neg (fun g=>mE g.1)];omega
 rw[V5 h.ok.ae];simp only;have ahS:fN ((aw x.v.ae x.v.at_).map (jq x.v.ae.pages))=((x.v.ae.blocks.length -2:Nat):Int)*x.v.ae.pages -(((List.range (x.v.ae.blocks.length -2)).map fun i=>cU x.v.ae.pages x.v.at_ i).sum:Nat):=by
  rw[ahQ hp jo (g:=fun i=>x.v.ae.pages -(cU x.v.ae.pages x.v.at_ i:Nat)) fun i hi=>by
   rw[jq,if_neg (by rw[h.ok.tell];simp)];exact Ab i hi]
  exact V7 _ _ _
 have Bx:((List.range (x.v.ae.blocks.length -2)).map fun i=>cU x.v.ae.pages x.v.at_ i).sum<=x.v.at_.length:=by
  have:=ahP (pages:=x.v.ae.pages) (l:=x.v.at_) (x.v.ae.blocks.length -2) x.v.at_.length;rwa [atp fun i _=>Ie hp i (jo.pos hp)]at this
 have arW:pF ((aw x.v.ae x.v.at_).map (lO x.v.ae.pages))<=x.v.ae.pages:=by
  refine(Ip _ 0).2 ⟨by omega,fun z hz=>?_⟩;obtain⟨y,hy,rfl⟩:=atw.1 hz;have:=GB (uo h.ok.ae hy) h.ok.ae;rw[lO];split
  ·
   omega
  split<;>omega
 have arX:=h.half;have hB:=h.wr.len;generalize x.v.ae.pages=p at*;generalize((List.range (x.v.ae.blocks.length -2)).map fun i=>cU p x.v.at_ i).sum=S at*;have e:((x.v.ae.blocks.length -2:Nat):Int)*p=((x.v.ae.blocks.length:Int) -4)*p+2*p:=by
  rw[←Int.add_mul];congr 1;omega
 rw[ahS,e];omega
theorem V8: ∀(k:Nat) {n:Nat} {x:WV} {need:Int},mZ x<k->Lv (n+100*(mZ x+1)) x->x.v.gen+mZ x+2<281474976710656->need<=x.v.at_.length->
  ((nC k x need).2=0/\Lv n (nC k x need).1/\need<=(kY (nC k x need).1.v.ae (nC k x need).1.v.at_).1/\(nC k x need).1.v.gen<=x.v.gen+mZ x)\/(nC k x need).2=7
 |0,n,x,need,hk,h,hg,hn=>by omega
 |k+1,n,x,need,hk,h,hg,hn=>by
  rw[nC]
  by_cases h1:need<=(kY x.v.ae x.v.at_).1
  ·
   rw[if_pos h1];exact .inl ⟨rfl,h.mono (by omega),h1,by simp only;omega⟩
  ·
   rw[if_neg h1];have bW:vH x.v.ae x.v.last=x.v.ae.pages:=by
    rw[vH,if_neg (by rw[h.ok.nb];simp),if_neg (by rw[h.ok.nb];simp)]
   rw[if_neg (fun g=>by have:=h.wr.pages;omega)];have hP:0<mZ x:=by
    apply asH;intro h0;exact h1 (ahR h (by omega) hn)
   rcases ahN (n:=n+100*mZ x) (h.mono (by omega)) (by omega) hP with⟨c1,c2,c3,c4⟩|c1
   ·
    rw[if_pos c1];have k7:=(GK h.wr).1.yW;rcases V8 k (n:=n) (need:=need) (x:=(eZ x).1) (by omega) (c2.mono (by omega)) (by omega) (by rw[k7];exact hn)with⟨s1,s2,s3,s4⟩|s1
    ·
     exact .inl ⟨s1,s2,s3,by omega⟩
    ·
     exact .inr s1
   ·
    rw[if_neg (by rw[c1];decide),if_pos (by rw[c1];decide)];exact .inr c1
theorem ahT{p:Int}(hp:p<=16){l:List aA}(h: ∀x∈l,x.used<=p/\0<=x.live):pE p l<=16*l.length:=by
 unfold pE
 induction l with
 |nil=>simp
 |cons z r ih=>
  have:=ih fun x hx=>h x (asE _ hx);have hz:=h z asv;rw[asL,au7,asm];have:kK p z<=16:=by
   rw[kK];split
   ·
    omega
   split
   ·
    split<;>omega
   omega
  omega
theorem ahU{x:WV}(h:cY x):mZ x<=480:=by
 have hd:=eY h.ae;have:=ahT hd.2.2.2.1 (l:=aw x.v.ae x.v.at_) fun z hz=>by
  have t:=uo h.ae hz;exact⟨t.AX,t.RN⟩
 rw[lG]at this;unfold mZ;omega
theorem ahV{n:Nat}{x:WV}{need:Int}(h:Lv (n+50000) x)(hg:x.v.gen+500<281474976710656)(hn:need<=x.v.at_.length):
  ((kE x need).2=0/\Lv n (kE x need).1/\need<=(kY (kE x need).1.v.ae (kE x need).1.v.at_).1/\(kE x need).1.v.gen<=x.v.gen+480)\/(kE x need).2=7:=by
 have hP:=ahU h.wr;have ho:=h.ok.ops;rcases V8 ((cX -x.v.ae.ops).toNat+1) (n:=n) (x:=x) (need:=need) (by omega) (h.mono (by omega)) (by omega) hn with⟨s1,s2,s3,s4⟩|s1
 ·
  exact .inl ⟨s1,s2,s3,by rw[kE];omega⟩
 ·
  exact .inr s1
def rY(c:CV)(fl:List Int):Int:=(kY c fl).1
theorem Ek{c:CV}{fl:List Int}(hk:ba c=true):rY c fl=fN ((aw c fl).map (jq c.pages)) -pF ((aw c fl).map (lO c.pages)):=by
 rw[rY,V5 hk]
theorem ND{l:List Int}{x:Int}(h:x∈l):x<=pF l:=((Ip (M:=pF l) l 0).1 (atx _)).2 x h
theorem V9(l:List Int):0<=pF l:=((Ip (M:=pF l) l 0).1 (atx _)).1
theorem ahW{p:Int}{l:List aA}{i:Nat}{x y:aA}(h:l[i]? =some y)(hn:jq p x=jq p y -1)(hm:lO p x<=lO p y):fN (l.map (jq p)) -pF (l.map (lO p)) -1<=fN ((l.set i x).map (jq p)) -pF ((l.set i x).map (lO p)):=by
 have hs:=V6 (f:=jq p) (x:=x) h;have:pF ((l.set i x).map (lO p))<=pF (l.map (lO p)):=by
  refine(Ip _ 0).2 ⟨V9 _,fun z hz=>?_⟩;obtain⟨w,hw,rfl⟩:=atw.1 hz;rcases asV hw with g|rfl
  ·
   exact ND (asN g)
  exact Int.le_trans hm (ND (asN (anc h)))
 omega
theorem ahX{l:List aA}{j:Nat}{x:aA}(h:l[j]? =some x)(hb:x.bad=false)(hl:x.live=0):1<=dQ l:=by
 rw[dQ];refine List.length_pos_of_mem (a:=x) (asQ.2 ⟨List.mem_of_getElem? h,?_⟩);rw[hb,hl];rfl
theorem ahY{l:List aA}(h:1<=dQ l): ∃(j:Nat) (x:aA),l[j]? =some x/\x.bad=false/\x.live=0:=by
 obtain⟨x,hx⟩:=List.exists_mem_of_length_pos (show 0<_ from h);obtain⟨h1,h2⟩:=asQ.1 hx;simp only[alM,att,decide_eq_true_eq]at h2;obtain⟨j,hj⟩:=asM h1;exact⟨j,x,hj,h2.1,h2.2⟩
theorem Wa{x y:aA}(hx:x.live≠0): ∀{l:List aA} {i:Nat},l[i]? =some y->dQ l<=dQ (l.set i x)+1
 |[],i,h=>by simp at h
 |z::r,0,h=>by
  simp only[atI,dQ,atf];split<;>split<;>simp<;>omega
 |z::r,i+1,h=>by
  have:=Wa hx (l:=r) (i:=i) (by simpa using h);simp only[dQ]at this;simp only[auT,dQ,atf];split
  ·
   simp only[asm];omega
  exact this
theorem Wb{x y:aA}(hx:x.live≠0)(hy:y.live≠0): ∀{l:List aA} {i:Nat},l[i]? =some y->dQ (l.set i x)=dQ l
 |[],i,h=>by simp at h
 |z::r,0,h=>by
  obtain rfl:z=y:=by simpa using h
  simp only[atI,dQ,atf,hx,hy,decide_false,Bool.and_false];rfl
 |z::r,i+1,h=>by
  have:=Wb hx hy (l:=r) (i:=i) (by simpa using h);simp only[dQ]at this;simp only[auT,dQ,atf];split
  ·
   simp only[asm];omega
  exact this
theorem Wc{p M:Int}: ∀{l:List aA},(∀x∈l,x.bad=false/\(x.live≠0->jq p x<=0)/\(x.live=0->jq p x<=M))->fN (l.map (jq p))<=(dQ l:Int)*M
 |[],_=>by simp[fN,dQ]
 |z::r,h=>by
  have ih:=Wc (l:=r) fun x hx=>h x (asE _ hx);obtain⟨z1,z2,z3⟩:=h z asv;simp only[dQ]at ih;simp only[asL,fN,dQ,atf,z1,auq,ath]
  by_cases hl:z.live=0
  ·
   rw[decide_eq_true hl,if_pos rfl,asm,Int.natCast_add,Int.add_mul];have:=z3 hl;omega
  rw[decide_eq_false hl];have:=z2 hl;simp only[as2,if_false];omega
theorem ahZ{n:Nat}{c:CV}{fl:List Int}{aI:Bool}{p:PV}(h:Ok (n+18) c)(hs:Std c fl)(h3:3<=c.blocks.length)(hc:1<=rY c fl)(hm:l8 p c.size=true):
  ((db c fl aI p).2.2=0/\Ok n (db c fl aI p).1/\ ∀gl:List Int,(∀k,k∈gl↔k∈fl\/k=(db c fl aI p).2.1)->(1<=dQ (aw c fl)->1<=dQ (aw (db c fl aI p).1 gl))/\rY c fl -1<=rY (db c fl aI p).1 gl/\Std (db c fl aI p).1 gl)\/(db c fl aI p).2.2=7:=by
 have hd:=eY h.ae;have NB:(du p c.size).2=0:=by rw[du,if_pos hm]
 have bW:((du p c.size).1.length:Int)=c.size:=D4 hm;rw[db,if_neg (by rw[NB];simp)];generalize(du p c.size).1=b at*;rw[Ek h.ae]at hc;have key: ∀{i:Nat} {d:CV} (y:aA),Ok (n+1) d->dP c d->Std d fl->i<c.blocks.length -2->aw d fl=(aw c fl).set i y->y.bad=false->y.used<c.pages->(∀z,(aw c fl)[i]? =some z->z.bad=false/\jq c.pages y=jq c.pages z/\(y.live=0->z.live=0)/\(y.live≠0->y.live=z.live))->
   (dQ (aw c fl)≥1->y.live=0->2<=dQ (aw c fl))->
   ((bx d ((i:Int)+2) b=0/\Ok n (bA d ((i:Int)+2) b)/\ ∀gl:List Int,(∀k,k∈gl↔k∈fl\/k=((i:Int)+2)*c.pages+(ak d ((i:Int)+2)).used+1)->(1<=dQ (aw c fl)->1<=dQ (aw (bA d ((i:Int)+2) b) gl))/\rY c fl -1<=rY (bA d ((i:Int)+2) b) gl/\Std (bA d ((i:Int)+2) b) gl)\/bx d ((i:Int)+2) b=7):=by
  intro i d y bB fv Wd hi hb hyb hyu hz hid;have mY:=bB.get Wd (i:=i) (by rw[fv.len];exact hi);have dK:i<(aw c fl).length:=by rw[lG];exact hi
  rw[hb,asJ dK]at mY;have ey:=aso mY;have hu:(ak d ((i:Int)+2)).used=y.used:=by rw[ey]
  have Bx:(cU d.pages fl i:Int)=y.live:=by rw[ey]
  obtain⟨z,qa⟩: ∃z,(aw c fl)[i]? =some z:=⟨_,asr dK⟩;obtain⟨z1,z2,z3,z4⟩:=hz z qa;rcases bB.prog (n:=n) (b:=(i:Int)+2) (p:=b) (by omega) (by rw[fv.len];omega) (by rw[hu,fv.pages];exact hyu) (by rw[fv.size];exact bW)with⟨e,g⟩|e
  ·
   left;refine⟨e,g,fun gl zh=>?_⟩;obtain⟨b1,b2⟩:=VD (gl:=gl) bB.ae Wd e (by rw[fv.pages];exact zh);rw[hb,avj]at b1;have pC:=fv.trans (iK d ((i:Int)+2) b);have td:((cU d.pages fl i:Int)+1)≠0:=by omega
   refine⟨fun h1=>?_,?_,b2⟩
   ·
    rw[b1]
    by_cases mB:y.live=0
    ·
     have:=hid h1 mB;have:=Wa (x:=⟨(cU d.pages fl i:Int)+1,(ak d ((i:Int)+2)).used+1,(ak d ((i:Int)+2)).aR,false⟩) td qa;omega
    ·
     rw[Wb (x:=⟨(cU d.pages fl i:Int)+1,(ak d ((i:Int)+2)).used+1,(ak d ((i:Int)+2)).aR,false⟩) td (by rw[←z4 mB];exact mB) qa];exact h1
   ·
    rw[Ek h.ae,Ek g.ae,b1,pC.pages];refine ahW qa ?_ ?_
    ·
     rw[←z2,jq,jq,if_neg (by simp),if_neg (by rw[hyb];simp),kX,kX];simp only;rw[if_neg (fun g=>td g.1)]
     by_cases mB:y.live=0/\c.pages -y.used=0
     ·
      omega
     ·
      rw[if_neg mB];omega
    ·
     rw[lO,if_neg (by simp),if_neg td,lO,if_neg (by rw[z1];simp)];split
     ·
      have:=GB (uo h.ae (anc qa)) h.ae;exact this.1
     ·
      exact atx _
  ·
   exact .inr e
 obtain⟨m,Kc⟩: ∃m,(cX -c.ops).toNat+1=m+1:=⟨_,rfl⟩;rw[Kc,iZ]
 suffices main:(∃(i:Nat) (d:CV),bg c fl aI=(d,(i:Int)+2,0)/\((bx d ((i:Int)+2) b=0/\Ok n (bA d ((i:Int)+2) b)/\ ∀gl:List Int,(∀k,k∈gl↔k∈fl\/k=((i:Int)+2)*c.pages+(ak d ((i:Int)+2)).used+1)->(1<=dQ (aw c fl)->1<=dQ (aw (bA d ((i:Int)+2) b) gl))/\rY c fl -1<=rY (bA d ((i:Int)+2) b) gl/\Std (bA d ((i:Int)+2) b) gl)\/bx d ((i:Int)+2) b=7))\/ ∃(d:CV) (b0:Int),bg c fl aI=(d,b0,7) by
  rcases main with⟨i,d,he,ah0⟩|⟨d,b0,he⟩
  ·
   rw[he];simp only[if_true];rcases ah0 with⟨r1,r2,r3⟩|r1
   ·
    rw[if_pos r1];exact .inl ⟨rfl,r2,r3⟩
   ·
    rw[if_neg (by rw[r1];decide),if_pos (by rw[r1];decide)];exact .inr r1
  ·
   rw[he,if_neg (show ¬(7:Int)=0 by decide),if_pos (show(7:Int)≠9 by decide)];exact .inr rfl
 have hw:=Nv h.ae hs h3
 by_cases hA:(mh c fl).2=true
 ·
  obtain⟨z,hz,a1,a2,a3,a4,a5⟩:=pf (fun x h=>(sN h).1) hA;have qo:(aw c fl)[(mh c fl).1.toNat]? =some z:=hz;change 0<=(mh c fl).1 at a4;obtain⟨e1,e2⟩:=wo (by omega) hs qo;have qA:bg c fl aI=(c,(((mh c fl).1.toNat:Nat):Int)+2,0):=by rw[bg,if_pos hA,atC a4]
  simp only[rB,decide_eq_true_eq]at a2;refine .inl ⟨_,_,qA,key z (h.mono (by omega)) (.dk _) hs e2 (Ik qo).symm a1 (sN a3).2 (fun w hw=>?_) (fun _ g=>absurd g (by omega))⟩;obtain rfl:=aso (qo.symm.trans hw);exact⟨a1,rfl,id,fun _=>rfl⟩
 ·
  have Nx:=ui (BQ (R:=rB) hw) (show(fx (bU rB (aw c fl)) c.pages (mH c.pages) [AQ,sK]).2=false by simpa[mh,fy]using hA);have iT: ∀x∈aw c fl,x.bad=false/\(x.live≠0->jq c.pages x<=0)/\(x.live=0->jq c.pages x<=pF ((aw c fl).map (lO c.pages))):=fun x hx=>by
   obtain⟨j,hj⟩:=asM hx;obtain⟨e1,e2⟩:=wo (by omega) hs hj;rw[h.tell]at e1;have eH:x.bad=false:=by rw[e1]
   have CX:0<=x.live:=by rw[e1];simp only;omega
   refine⟨eH,fun hl=>?_,fun hl=>?_⟩
   ·
    have:=Nx _ (asN (f:=iC rB) hx);rw[BS eH (by simp only[rB,decide_eq_true_eq];omega),mH,eH]at this;simp only[auq,ath,decide_eq_false_iff_not]at this;rw[jq,if_neg (by rw[eH];simp),kX,if_neg (fun g=>hl g.1)];omega
   ·
    have:lO c.pages x=jq c.pages x:=by
     have HE: ¬x.bad=true:=by rw[eH];simp
     rw[lO,jq,if_neg HE,if_neg HE,if_pos hl]
    rw[←this];exact ND (asN hx)
  have We:2<=dQ (aw c fl):=by
   have hr:=Wc iT;have h0:=V9 ((aw c fl).map (lO c.pages));apply asH;intro hn;have hle:(dQ (aw c fl):Int)*pF ((aw c fl).map (lO c.pages))<=1*pF ((aw c fl).map (lO c.pages)):=Int.mul_le_mul_of_nonneg_right (by omega) h0;omega
  have bO: ¬(dQ (aw c fl)=0\/(dQ (aw c fl)=1/\aI=false)):=by rintro(g|g)<;>omega
  by_cases hB:(ke c fl).2=true
  ·
   obtain⟨z,hz,a1,a2,a3,a4,a5⟩:=pf (fun x h=>(sN h).1) hB;have qo:(aw c fl)[(ke c fl).1.toNat]? =some z:=hz;change 0<=(ke c fl).1 at a4;obtain⟨e1,e2⟩:=wo (by omega) hs qo;have qA:bg c fl aI=(c,(((ke c fl).1.toNat:Nat):Int)+2,0):=by rw[bg,if_neg hA,if_neg bO,if_pos hB,atC a4]
   refine .inl ⟨_,_,qA,key z (h.mono (by omega)) (.dk _) hs e2 (Ik qo).symm a1 (sN a3).2 (fun w hw=>?_) (fun _ _=>We)⟩;obtain rfl:=aso (qo.symm.trans hw);exact⟨a1,rfl,id,fun _=>rfl⟩
  ·
   have hfd:=U5 h.ae h3 (by omega) hB;have Ny:=ui (BQ (R:=gA) hw) (show(fx (bU gA (aw c fl)) c.pages (mH c.pages) [AQ,sK]).2=false by simpa[ke,fy]using hB);obtain⟨z,hz,a1,a2,a3,a4,a5⟩:=pf (fun x h=>(lI h).1) hfd;have qo:(aw c fl)[(jy c fl).toNat]? =some z:=hz;change 0<=jy c fl at a4;obtain⟨e1,e2⟩:=wo (by omega) hs qo;have qP:=(lI a3).2.1;have hzu:c.pages<=z.used:=by
    have:=Ny _ (asN (f:=iC gA) (anc qo));rw[BS a1 a2,mH,a1]at this;simp only[auq,ath,decide_eq_false_iff_not]at this;omega
   have Nw:=h.BR e2;rw[h.tell]at e1;have mI:=(uP (by omega) hs (jy c fl).toNat).1 (by rw[e1]at qP;simp only at qP;omega);have eD:jy c fl+2=(((jy c fl).toNat:Nat):Int)+2:=by rw[atC a4]
   rcases h.Ii (n:=n+1) (b:=(((jy c fl).toNat:Nat):Int)+2) (by omega) (by omega)with⟨q1,q2⟩|q1
   ·
    have qA:bg c fl aI=((cF c ((((jy c fl).toNat:Nat):Int)+2)).1,(((jy c fl).toNat:Nat):Int)+2,0):=by rw[bg,if_neg hA,if_neg bO,if_neg hB,eD,q1]
    obtain⟨b1,b2⟩:=Ih h.ae hs mI q1;refine .inl ⟨_,_,qA,key _ q2 (xp _ h.ae).2 b2 e2 b1 rfl (by simp only;omega) (fun w hw=>?_) (fun _ _=>We)⟩;obtain rfl:=aso (qo.symm.trans hw);refine⟨a1,?_,fun _=>qP,fun g=>absurd rfl g⟩;have arY:z.used<=c.pages:=by rw[e1];exact Nw.2
    rw[jq,if_neg (by simp),jq,if_neg (by rw[a1];simp),kX,kX,if_neg (show ¬((0:Int)=0/\c.pages -0=0) by omega),if_pos ⟨qP,by omega⟩];simp only;omega
   ·
    right;have qA:bg c fl aI=((cF c ((((jy c fl).toNat:Nat):Int)+2)).1,(((jy c fl).toNat:Nat):Int)+2,7):=by rw[bg,if_neg hA,if_neg bO,if_neg hB,eD,q1]
    exact⟨_,_,qA⟩
theorem Wf{c:CV}{fl gl:List Int}(hk:ba c=true)(h:aw c gl=aw c fl):rY c gl=rY c fl:=by rw[Ek hk,Ek hk,h]
theorem NF{v:VV}{aI:Bool}(hg:v.gen+1<281474976710656)(Wg:v.at_.length≤64): ∀(l:List (Int×List UInt8)) {n:Nat} {c:CV} {a:List Int},Ok (n+18*l.length) c→3≤c.blocks.length→Pl c v.at_→Std c a→a.length=v.at_.length→l.Pairwise (fun p q=>p.1≠q.1)→
    (∀x∈l,0<=x.1/\x.1<v.at_.length/\(x.2.length:Int)<=dV c.size)->(∀x∈l,a[x.1.toNat]? =v.at_[x.1.toNat]?)->(mn l:Int)<=rY c (v.at_++a)->1<=dQ (aw c (v.at_++a))->
    ((gQ v aI l c a).2.2=0/\Ok n (gQ v aI l c a).1/\Std (gQ v aI l c a).1 (gQ v aI l c a).2.1/\1<=dQ (aw (gQ v aI l c a).1 (v.at_++(gQ v aI l c a).2.1)))\/(gQ v aI l c a).2.2=7
  |[],n,c,a,h,h3,hv,ha,ei,hp,hi,hs,hc,hid=> .inl ⟨rfl,h,ha,hid⟩
  |x::r,n,c,a,h,h3,hv,ha,ei,hp,hi,hs,hc,hid=>by
   obtain⟨gq,gy⟩:=asT.1 hp;obtain⟨x0,x1,x2⟩:=hi x asv;have hd:=eY h.ae;have Wh:x.1.toNat<v.at_.length:=by omega
   obtain⟨y,hy⟩: ∃y,v.at_[x.1.toNat]? =some y:=⟨_,asr Wh⟩;have Hf:a[x.1.toNat]? =some y:=(hs x asv).trans hy
   have Ea: ∀{k N:Int},k∈a->k∈v.at_\/k∈a.set x.1.toNat N:=fun{k N} hk=>by
      obtain⟨j,hj⟩:=asM hk
      by_cases e:j=x.1.toNat
      ·rw[e,Hf]at hj
       obtain rfl:=aso hj;exact .inl (anc hy)
      ·right
       exact anc (i:=j) (by rw[asS (fun g=>e g.symm)];exact hj)
   have Wi: ∀{N:Int},∀q∈r,(a.set x.1.toNat N)[q.1.toNat]? =v.at_[q.1.toNat]? :=fun{N} q hq=>by
      have h0:=(hi q (asE _ hq)).1;have bO:=gq q hq;rw[asS (by omega)];exact hs q (asE _ hq)
   rw[gQ]
   by_cases h0:x.2.length=0
   ·rw[if_pos h0]
    have NG:mn (x::r)=mn r:=by
        rw[mn,List.filter_cons_of_neg (by simp[h0])];rfl
    have br:Std c (a.set x.1.toNat 0):=fun k hk nW=>by
        rcases asV hk with g|g
        ·exact ha k g nW
        ·exact absurd g nW
    have zB:aw c (v.at_++a.set x.1.toNat 0)=aw c (v.at_++a):=by
        refine Nt (by omega) (hv.mX.append ha) (hv.mX.append br) (.dk _) fun i=>⟨rfl,rfl,rfl,fun _=>xY (fun k hk=>?_) (by omega)⟩;have nW:k≠0:=fun e=>by
          rw[e]at hk;have:((0:Int) -1)/c.pages<0:=au8 (by decide) (by omega);omega
        rw[asz,asz];constructor
        ·rintro(g|g)
         ·exact .inl g
         ·rcases asV g with g|g
          ·exact .inr g
          ·exact absurd g nW
        ·rintro(g|g)
         ·exact .inl g
         ·exact Ea g
    exact NF hg Wg r (h.mono (by simp only[asm];omega)) h3 hv br (by rw[as1,ei]) gy (fun q hq=>hi q (asE _ hq)) Wi (by rw[Wf h.ae zB,←NG];exact hc) (by rw[zB];exact hid)
   ·rw[if_neg h0]
    have NG:mn (x::r)=mn r+1:=by
        rw[mn,List.filter_cons_of_pos (by rw[decide_eq_true_eq];omega)];rfl
    rw[NG]at hc;obtain⟨k1,_,_,k4⟩:=fS.1 h.ok;have BO:l8 (iN v x) c.size=true:=rv.2 ⟨sJ.2 ⟨k4,by omega⟩, .inl rfl,x0,by show x.1<64;omega,hg,x2⟩;have nS:=(U6 (c:=c) (fl:=v.at_++a) (aI:=aI) (p:=iN v x) h.ae h3).1;rcases ahZ (n:=n+18*r.length) (c:=c) (fl:=v.at_++a) (aI:=aI) (p:=iN v x) (h.mono (by simp only[asm];omega)) (hv.mX.append ha) h3 (by omega) BO with⟨p1,p2,p3⟩|p1
    ·rw[if_neg (by rw[p1];simp)]
     generalize db c (v.at_++a) aI (iN v x)=P at*
     obtain⟨q1,q2,q3⟩:=p3 (v.at_++a.set x.1.toNat P.2.1) (fun k=>by
          rw[asz,asz];constructor
          ·rintro(g|g)
           ·exact .inl (.inl g)
           ·rcases asV g with g|g
            ·exact .inl (.inr g)
            ·exact .inr g
          ·rintro((g|g)|g)
           ·exact .inl g
           ·exact Ea g
           ·right
            rw[g];exact anc (i:=x.1.toNat) (by rw[asJ (by rw[ei];exact Wh)]))
     exact NF hg Wg r p2 (by rw[nS.bV.len];exact h3) (hv.kd nS.toKd fun _ g=>asX _ g) (fun k hk=>q3 k (atO _ hk)) (by rw[as1,ei]) gy (fun q hq=>by
          obtain⟨z0,z1,z2⟩:=hi q (asE _ hq);exact⟨z0,z1,by rw[nS.bV.size];exact z2⟩) Wi (by omega) (q1 hid)
    ·right
     rw[if_pos (by rw[p1];decide)];exact p1
structure Items(v:VV)(l:List (Int×List UInt8)):Prop where
  ne:l.Pairwise fun p q=>p.1≠q.1
  it: ∀x∈l,0<=x.1/\x.1<v.at_.length/\(x.2.length:Int)<=dV v.ae.size
  len:l.length<=v.at_.length
theorem ah1(l:List (Int×List UInt8)):mn l<=l.length:=auW _ _
theorem Lv.by{n:Nat}{x:WV}(h:Lv n x)(b:Bool):Lv n {x with beyond:=b}:=⟨h.ok,h.wr.by b,h.rt,h.pl,h.jK,h.half,h.idle⟩
theorem ah2{n:Nat}{x:WV}{l:List (Int×List UInt8)}(h:Lv (n+60000) x)(hg:x.v.gen+600<281474976710656)(hl:Items x.v l):
    ((ij x l).2=0/\Lv n (ij x l).1/\(ij x l).1.v.gen<=x.v.gen+481)\/(ij x l).2=7:=by
  have hf:=h.wr.jK;have oY:=hl.len;have td:=ah1 l;have mr:=Vs (l:=l) h.wr h.rt h.pl fun y hy=>(hl.it y hy).1;have oy:=K6 (l:=l) h.wr;have zu:Sf x (cy x.v) (cK x l).1 (cK x l).2:=(Vr (x:={x with beyond:=false}) (need:=mn l) (h.wr.by false) h.rt h.pl).cM
  have iO:=GL (l:=l) h.wr;rw[ij]at mr oy⊢;rcases ahV (n:=n+2000) (x:={x with beyond:=false}) (need:=mn l) (h.by false|>.mono (by omega)) (by show x.v.gen+500<_;omega) (by show(mn l:Int)<=x.v.at_.length;omega)with⟨s1,s2,s3,s4⟩|s1
  ·change(cK x l).2=0 at s1
   change Lv (n+2000) (cK x l).1 at s2;change(mn l:Int)<=(kY (cK x l).1.v.ae (cK x l).1.v.at_).1 at s3;change(cK x l).1.v.gen<=x.v.gen+480 at s4;rw[if_neg (by rw[s1];simp)]at mr oy⊢;have hlen:=zu.len;have fh:=zu.kd.bV;have hd:=eY s2.ok.ae;have h3:3<=(cK x l).1.v.ae.blocks.length:=by have:=s2.wr.sQ;omega
   have jo:=s2.rt.pl.mX
   have zB:aw (cK x l).1.v.ae ((cK x l).1.v.at_++(cK x l).1.v.at_)=aw (cK x l).1.v.ae (cK x l).1.v.at_:=
      Nt (by omega) jo (jo.append jo) (.dk _) fun i=>⟨rfl,rfl,rfl,fun _=>xY (fun k _=>by rw[asz];exact or_self_iff) (by omega)⟩
   have ah3:1<=dQ (aw (cK x l).1.v.ae (cK x l).1.v.at_):=by
      obtain⟨j,j1,j2⟩:=s2.idle;exact ahX (s2.ok.get jo j1) rfl (by simp only;omega)
   have hit:=NF (v:=(cK x l).1.v) (aI:=(cK x l).1.beyond) (by omega) (by omega) l (n:=n+2) (c:=(cK x l).1.v.ae) (a:=(cK x l).1.v.at_) (s2.ok.mono (by omega)) h3 s2.rt.pl jo rfl hl.ne (fun y hy=>by
      obtain⟨z0,z1,z2⟩:=hl.it y hy;exact⟨z0,by rw[hlen];exact z1,by rw[fh.size];exact z2⟩) (fun _ _=>rfl) (by rw[Wf s2.ok.ae zB];exact s3) (by rw[zB];exact ah3)
   have nR:=H5 (v:=(cK x l).1.v) (aI:=(cK x l).1.beyond) l (c:=(cK x l).1.v.ae) (a:=(cK x l).1.v.at_) s2.ok.ae h3 s2.rt.pl s2.rt.pl (fun y hy=>(hl.it y hy).1);change _\/(gp x l).2.2=7 at hit;rcases hit with⟨i1,i2,i3,i4⟩|i1
   ·change(gp x l).2.2=0 at i1
    change Ok (n+2) (gp x l).1 at i2;change Std (gp x l).1 (gp x l).2.1 at i3;change 1<=dQ (aw (gp x l).1 ((cK x l).1.v.at_++(gp x l).2.1))at i4;rw[if_neg (by rw[i1];simp)]at mr oy⊢;obtain⟨t1,t2,t3⟩:=nR;obtain⟨t4,t5,t6⟩:=t2 i1;change Kp (cK x l).1.v.at_ (cK x l).1.v.ae (gp x l).1 at t1;change(gp x l).2.1.length=(cK x l).1.v.at_.length at t6;have fQ:cY ((cK x l).1.on (gp x l).1):=s2.wr.on i2.ae t1.bV;rcases VI (n:=n) fQ i2 ⟨by show(cK x l).1.v.gen+1<_;omega,by rw[t6,show((cK x l).1.on (gp x l).1).v.ae.size=(cK x l).1.v.ae.size from t1.bV.size];exact s2.jK,VQ i2.ae i3⟩with⟨w1,w2,w3,w4,w5,w6⟩|w1
    ·left
     rw[w1]at mr;refine⟨w1,⟨w2,oy.ok,(mr.cH rfl).1,h.pl.kd mr.kd,by rw[mr.len,mr.kd.bV.size];exact h.jK,by rw[mr.len,mr.kd.bV.len,mr.kd.bV.pages];exact h.half,?_⟩,by rw[w4];show(cK x l).1.v.gen+1<=_;omega⟩;obtain⟨j,z,hz,z1,z2⟩:=ahY i4;have Ej:Std (gp x l).1 ((cK x l).1.v.at_++(gp x l).2.1):=(jo.kd t1.toKd fun _ g=>g).append i3;obtain⟨e1,e2⟩:=wo (by rw[t1.bV.pages];omega) Ej hz;have uR:dP (gp x l).1 (eE ((cK x l).1.on (gp x l).1) (gp x l).2.1).1.v.ae:=(KU fQ (ah4 i3 (by show 1<=(gp x l).1.pages;rw[t1.bV.pages];omega)) t6).1.bV;refine⟨j,by rw[uR.len];exact e2,?_⟩;rw[i2.tell]at e1;rw[e1]at z2;simp only at z2;have mI:=(uP (by rw[t1.bV.pages];omega) Ej j).1 (by omega);have hS:=(mr.cH rfl).1.pl.mX;refine(uP (by rw[uR.pages,t1.bV.pages];omega) hS j).2 ?_;rw[w3];intro k hk nW;rw[uR.pages];exact mI k (atO _ hk) nW
    ·exact .inr w1
   ·right
    rw[if_pos (by rw[i1];decide)];exact i1
  ·right
   change(cK x l).2=7 at s1;rw[if_pos (by rw[s1];decide)];exact s1
where
  ah4 {c:CV} {a:List Int} (h:Std c a) (hp:1<=c.pages):iL c a:=fun k hk=>by
    by_cases h0:k=0
    ·exact .inl h0
    ·obtain⟨q1,q2,_⟩:=mF.1 (h k hk h0)
     exact .inr ⟨(h.pos hp k hk).resolve_left h0,q1,q2⟩
theorem ah5{v:VV}{l:List (Int×List UInt8)}(h:Items v l):sV v l=true:=by
  refine Dg.2 fun i hi=>?_;have hx:=asr hi;obtain⟨z0,z1,z2⟩:=h.it l[i] (auf hi);rw[ur,show l.getD i (0,[])=l[i] by simp[List.getD,hi],alM,uq,alM,alM,decide_eq_true_eq,decide_eq_true_eq,decide_eq_true_eq];refine⟨⟨⟨z0,z1⟩,z2⟩,?_⟩;rw[att]
  cases hc:((l.take i).map Prod.fst).contains l[i].1 with
  |false=>rfl
  |true=>
   exfalso;obtain⟨p,hp,e⟩:=atw.1 (atJ.1 hc);obtain⟨j,hj,e2⟩:=List.mem_take_iff_getElem.1 hp;have:=atz.1 h.ne j i (by omega) hi (by omega);rw[e2]at this;exact this e
theorem ah6{n:Nat}{v:VV}{l:List (Int×List UInt8)}(h:Lv (n+60000) ⟨v,false⟩)(hg:v.gen+600<281474976710656)(hl:Items v l):
    ((fV v l).2=0/\Lv n ⟨(fV v l).1,false⟩/\(fV v l).1.gen<=v.gen+481)\/(fV v l).2=7:=by
  have hb:=ah2 (l:=l) h hg hl;have e:pj (v.ae.blocks.length+1) ⟨v,false⟩ l=ij ⟨v,false⟩ l:=by
    rw[pj,if_neg];rintro⟨g,_⟩;rcases hb with⟨b1,_⟩|b1
    ·rw[b1]at g;cases g
    ·rw[b1]at g;cases g
  rw[fV,if_neg (fun g=>g ⟨BN.2 h.rt,by omega,ah5 hl⟩),if_neg (by have:=h.ok.off;rw[show(⟨v,false⟩:WV).v.ae=v.ae from rfl]at this;rw[this];simp),e];rcases hb with⟨b1,b2,b3⟩|b1
  ·exact .inl ⟨b1,b2.by false,b3⟩
  ·exact .inr b1
theorem ah7{n:Nat}{f:FV}(h:jD f)(k:Ok n f.aq.ae)(hp:iR f.aq.ae)(hi: ∃j,j<f.aq.ae.blocks.length -2/\cU f.aq.ae.pages f.aq.at_ j=0):Lv n ⟨f.aq,false⟩:=by
  have hid:=h.ids;have hc:eK f.aq.ae<=kB f.aq.ae.size/\eK f.aq.ae<=uv f.aq.ae.blocks.length f.aq.ae.pages/2:=by rw[eK,zb];omega
  have hl:uv f.aq.ae.blocks.length f.aq.ae.pages<=((f.aq.ae.blocks.length:Int) -4)*f.aq.ae.pages:=by
    have h4:=(fS.1 h.rt.bears).2.1;have hd:=eY k.ae;rw[uv];split
    ·exact aub (by omega) (by omega)
    ·exact atx _
  exact⟨k,GM (BN.2 h.rt),h.rt,hp,by show(f.aq.at_.length:Int)<=kB f.aq.ae.size;omega,by show 2*(f.aq.at_.length:Int)<=((f.aq.ae.blocks.length:Int) -4)*f.aq.ae.pages;omega,hi⟩
theorem ah8(t:List Rt){room:Int}(hr:0<=room)(id:Nat):((rF t (room/20).toNat id).length:Int)<=room:=by
  have:=La t (room/20).toNat id;omega
theorem ah9{n:Nat}{f:FV}{l:List Ch}(h:jD f)(k:Lv (n+60000) ⟨f.aq,false⟩)(hg:f.aq.gen+600<281474976710656)(he:cx f.table l=0)(hm: ¬eG f.aq.ae<(bM f.table l).length):
    ((cG f l).2=0/\Lv n ⟨(cG f l).1.aq,false⟩/\(cG f l).1.aq.gen<=f.aq.gen+481)\/(cG f l).2=7:=by
  have hE:=BP (l:=l) h;rw[if_neg hm]at hE
  by_cases hc:fe (eV f) (dF f l)=[]
  ·rw[(Ib h he hm hc).1]
   exact .inl ⟨rfl,k.mono (by omega),by simp only;omega⟩
  ·have hlen:(eV f).length=(dF f l).length:=by
      have:=(DU hE).1;have h2:=h.ids;rw[tv h,A6];have:((dF f l).length:Int)=eK f.aq.ae:=this;omega
   have A9:(eV f).length=f.aq.at_.length:=by rw[tv h,A6]
   have aia:Items f.aq (fe (eV f) (dF f l)):=by
      refine⟨(Hy (eV f) (dF f l) _).imp fun g=>by omega,fun x hx=>?_,?_⟩
      ·obtain⟨i,i1,rfl,i3⟩:=MC hx
       refine⟨Int.natCast_nonneg _,by simp only;omega,?_⟩;obtain⟨_,_,_,e⟩:=MB hE;have hi:i<(dF f l).length:=by omega
       have kx:(dF f l).getD i []∈dF f l:=by
          simp only[List.getD,asr hi,auC];exact auf hi
       rw[show dF f l=lJ (bM f.table l) (eK f.aq.ae).toNat (dV f.aq.ae.size/20).toNat from e]at kx⊢;rw[lJ]at kx⊢;obtain⟨j,_,hj⟩:=atw.1 kx;simp only;rw[←hj]
       exact ah8 _ (by rw[dV];split;·rename_i hf;have:=sJ.1 hf;omega
                       ·exact atx _) j
      ·have:=GR (eV f) (dF f l) (max (eV f).length (dF f l).length)
       rw[fe];omega
   rw[G4 (zC.2 h) he hE hc];exact ah6 k hg aia
def BU(n p:Nat):CV×Int:=rp ((n:Int)+5) ((p:Int)+2) 64
def tw(n p:Nat):FV×Int:=rI (BU n p).1
def NH(f:FV):Bool:=ll f&&decide (f.table=[])&&f.aq.ae.blocks.all (fun b=> !b.bad&&decide (b.aR=0))&&decide (f.aq.ae.ops<=10)&& !f.aq.ae.off&&decide (f.aq.ae.aV=[])&&decide (f.aq.gen<=10)&&f.aq.at_.all (fun n=>decide (n=0))&&decide (fe (eV f) (dF f [])=[])
def Wj(n p:Nat):Bool:=decide ((BU n p).2=0)&&decide ((tw n p).2=0)&&NH (tw n p).1&&ba (BU n p).1&&decide ((tw n p).1.aq.ae.blocks.length=n+5)&&decide ((tw n p).1.aq.ae.pages=(p:Int)+2)&&decide ((tw n p).1.aq.ae.size=64)
theorem aib: ∀n,n<8-> ∀p,p<7->Wj n p=true:=by decide+kernel
structure Rm(k:Nat)(f:FV):Prop where
 fb:jD f
 lv:Lv k ⟨f.aq,false⟩
 ox:f.aq.ae.aV=[]
 off:f.aq.ae.off=false
 gen:f.aq.gen+k<281474976710656
 can:fe (eV f) (dF f [])=[]
 jK:(f.table.length:Int)<=eG f.aq.ae
theorem Rm.mono{k m:Nat}{f:FV}(h:Rm k f)(hm:m<=k):Rm m f:=⟨h.fb,h.lv.mono hm,h.ox,h.off,aud (Nat.add_le_add_left hm _) h.gen,h.can,h.jK⟩
theorem aic{f:FV}(h:NH f=true):Rm 1000000000 f/\f.table=[]:=by
 simp only[NH,alM,decide_eq_true_eq,asD,att]at h;obtain⟨⟨⟨⟨⟨⟨⟨⟨h1,h2⟩,h3⟩,h4⟩,h5⟩,h6⟩,h7⟩,h8⟩,h9⟩:=h;have zE:=zC.1 h1;have qK:cX=1099511627776:=rfl;have ft: ∀b:Int,(ak f.aq.ae b).bad=false/\(ak f.aq.ae b).aR=0:=fun b=>by
  rcases asx b.toNat f.aq.ae.blocks.length with hl|hl
  ·
   have hm:ak f.aq.ae b∈f.aq.ae.blocks:=by
    simp only[ak,List.getD,asr hl,auC];exact auf hl
   exact h3 _ hm
  simp only[ak,List.getD,ast hl,Option.getD_none];exact⟨rfl,rfl⟩
 have h4l:4<=(f.aq.ae.blocks.length:Int):=(fS.1 zE.rt.bears).2.1;have hp:2<=f.aq.ae.pages:=(fS.1 zE.rt.bears).2.2.1;have bB:Ok 1000000000 f.aq.ae:=⟨zE.rt.bears,fun b=>(ft b).1,h5,(by rw[h6];exact fun x hx=>absurd hx aui),by omega,fun b=>by rw[(ft b).2];omega⟩;refine⟨⟨zE,ah7 zE bB (.nil h6) ⟨0,by omega,?_⟩,h6,h5,aud (Nat.add_le_add_right h7 _) (by decide),h9,?_⟩,h2⟩
 ·
  refine(uP (by omega) zE.rt.pl.mX 0).2 fun k hk nW=>?_;exact absurd (h8 k hk) nW
 rw[h2];have hm:=zE.jA;have:0<=eG f.aq.ae:=by
  rw[eG,zd,jA];split
  ·
   omega
  rename_i g;have hi:=Ls f.aq.ae;have h0:0<=dV f.aq.ae.size/20:=by omega
  have h1:0<=zb f.aq.ae.blocks.length f.aq.ae.pages f.aq.ae.size*(dV f.aq.ae.size/20):=aub (by omega) h0;omega
 simpa using this
theorem Wk{n p:Nat}(hn:n<8)(hp:p<7):(BU n p).2=0/\ba (BU n p).1=true/\(tw n p).2=0/\Rm 1000000000 (tw n p).1/\(tw n p).1.table=[]/\eG (tw n p).1.aq.ae=zd ((n:Int)+5) ((p:Int)+2) 64:=by
 have h:=aib n hn p hp;simp only[Wj,alM,decide_eq_true_eq]at h;obtain⟨⟨⟨⟨⟨⟨h1,h2⟩,h3⟩,h4⟩,h5⟩,h6⟩,h7⟩:=h;obtain⟨g1,g2⟩:=aic h3;refine⟨h1,h4,h2,g1,g2,?_⟩;rw[eG,h5,h6,h7];rfl
theorem aid{g k:Nat}(h:g+(k+60000)<281474976710656):g+600<281474976710656:=aud (Nat.add_le_add_left (auO (by decide:600<=60000) (Nat.le_add_left _ _)) g) h
theorem aie{g g2 k:Nat}(h:g+(k+60000)<281474976710656)(h2:g2<=g+481):g2+k<281474976710656:=aud (by omega:g2+k<=g+(k+60000)) h
theorem Rm.step{k:Nat}{f:FV}{l:List Ch}(h:Rm (k+60000) f)(he:cx f.table l=0)(hm: ¬eG f.aq.ae<(bM f.table l).length):(cG f l).2=0/\Rm k (cG f l).1/\(cG f l).1.table=bM f.table l/\eG (cG f l).1.aq.ae=eG f.aq.ae:=by
 obtain⟨q1,q2,q3,q4,q5,q6,q7⟩:=ahs h.fb h.ox h.off l;have hg:=h.gen;have Bx:=h.lv;have hg2:f.aq.gen+600<281474976710656:=aid h.gen;have ei:=ah9 (n:=k) h.fb Bx hg2 he hm;have a1:(cG f l).2=0:=by
  rcases ei with g|g
  ·
   exact g.1
  exact absurd g q6
 have a23:Lv k ⟨(cG f l).1.aq,false⟩/\(cG f l).1.aq.gen<=f.aq.gen+481:=by
  rcases ei with g|g
  ·
   exact g.2
  exact absurd g q6
 obtain⟨a2,a3⟩:=a23;have Wl:=Vz h.fb (.nil h.ox) he hm;have hc:=Nn Wl.kd.bV;have ht:=(q4 a1).2;refine⟨a1,⟨q1,a2,q2,q3,aie h.gen a3,?_,by rw[ht,hc.1];omega⟩,ht,hc.1⟩;have hE:=BP (l:=l) h.fb;rw[if_neg hm]at hE;have Ht:=BP (l:=[]) q1;have Iq:bM (cG f l).1.table []=(cG f l).1.table:=by rw[bM];split<;>rfl
 rw[Iq,ht,hc.1,if_neg hm]at Ht;have Bv:dF (cG f l).1 []=dF f l:=by
  rw[dF,dF,Iq,ht,hc.2,Wl.kd.bV.size]
 by_cases Wm:fe (eV f) (dF f l)=[]
 ·
  obtain⟨e1,e2⟩:=Ib h.fb he hm Wm;rw[e1];exact h.can
 have hold:eV (cG f l).1=dF f l:=by
  rw[tv q1];have hlen:(eV f).length=(dF f l).length:=by
   have:=(DU hE).1;have h2:=h.fb.ids;rw[tv h.fb,A6];have:((dF f l).length:Int)=eK f.aq.ae:=this;omega
  have hs:=Vu (l:=fe (eV f) (dF f l)) h.fb.rt (.nil h.ox);rw[←tv h.fb,Vy hlen]at hs;have ew:=G4 (zC.2 h.fb) he hE Wm;rw[ew]at a1⊢;exact(hs.cH a1).2
 rw[hold,Bv];exact Ue _
theorem Rm.same{k:Nat}{f:FV}(h:Rm k f){l:List Ch}(he:cx f.table l=0)(hl:bM f.table l=f.table):cG f l=(f,0):=by
 have Iq:bM f.table []=f.table:=by rw[bM];split<;>rfl
 have hn:dF f l=dF f []:=by rw[dF,dF,hl,Iq]
 have hf:=h.jK;exact(Ib h.fb he (by rw[hl];omega) (by rw[hn];exact h.can)).1
theorem Rm.stays{k:Nat}{f:FV}(h:Rm (k+60000) f)(l:List Ch):Rm k (cG f l).1/\((cG f l).2=0->cx f.table l=0/\(cG f l).1.table=bM f.table l)/\((cG f l).2≠0->(cG f l).1=f):=by
 by_cases he:cx f.table l=0
 ·
  by_cases hm:eG f.aq.ae<(bM f.table l).length
  ·
   rw[Np h.fb he hm];exact⟨h.mono (by omega),fun g=>absurd (show(5:Int)=0 from g) (by decide),fun _=>rfl⟩
  obtain⟨a1,a2,a3,a4⟩:=h.step he hm;exact⟨a2,fun _=>⟨he,a3⟩,fun g=>absurd a1 g⟩
 rw[No h.fb he];exact⟨h.mono (by omega),fun g=>absurd g he,fun _=>rfl⟩
def NI(t:List Rt)(l:List Ch)(m:Int):Int:=if cx t l=0/\m<(bM t l).length then 5 else cx t l
theorem Rm.done{k:Nat}{f:FV}(h:Rm (k+60000) f)(l:List Ch):(cG f l).2=NI f.table l (eG f.aq.ae)/\Rm k (cG f l).1/\((cG f l).2=0->(cG f l).1.table=bM f.table l)/\((cG f l).2≠0->(cG f l).1=f)/\eG (cG f l).1.aq.ae=eG f.aq.ae:=by
 rw[NI]
 by_cases he:cx f.table l=0
 ·
  by_cases hm:eG f.aq.ae<(bM f.table l).length
  ·
   rw[Np h.fb he hm,if_pos ⟨he,hm⟩];exact⟨rfl,h.mono (by omega),fun g=>absurd (show(5:Int)=0 from g) (by decide),fun _=>rfl,rfl⟩
  obtain⟨a1,a2,a3,a4⟩:=h.step he hm;rw[if_neg (fun g=>hm g.2),he];exact⟨a1,a2,fun _=>a3,fun g=>absurd a1 g,a4⟩
 rw[No h.fb he,if_neg (fun g=>he g.1)];exact⟨rfl,h.mono (by omega),fun g=>absurd g he,fun _=>rfl,rfl⟩
def tA(n p:Nat):Int:=zd ((n:Int)+5) ((p:Int)+2) 64
def wq(n p:Nat)(t:List Rt):Bool:=bF t&&decide ((t.length:Int)<=tA n p)
theorem NJ{n p:Nat}{t:List Rt}:wq n p t=true↔bF t=true/\(t.length:Int)<=tA n p:=by
 rw[wq,alM,decide_eq_true_eq]
theorem Wn{t:List Rt}(h:bF t=true):qX [] t=0:=by rw[qX,if_pos (by rw[h];rfl)]
theorem aif{t:List Rt}(h:qX [] t=0):bF t=true:=by
 cases hk:bF t with
 |true=>rfl
 |false=>rw[qX,if_neg (by rw[hk];simp)]at h;cases h
theorem aih{t:List Rt}(h:bF t=true):pA [] t=cr [] t:=by rw[pA,if_pos (Wn h)]
theorem aii(t:List Rt):(pA [] t).length<=t.length:=by
 rw[pA];split
 ·
  simpa using(MW (t:=[]) (u:=t)).1
 exact asO _
theorem aij{t:List Rt}(h:bF t=true):cx [] (cr [] t)=0/\bM [] (cr [] t)=t:=by
 have ho:=mO h;have h0:bF []=true:=rfl;have hn:=mO h0;have hd:qU (cr [] t):=(HO hn ho).dst;have hl:=(MW (t:=[]) (u:=t)).2;have jl:=xe h;have he:cx [] (cr [] t)=0:=UD h0 hd (fun c hc=>UG hn ho hc) (by simp only[asn];omega);exact⟨he,UF h0 ho hd (fun c=>Iff.rfl) he⟩
theorem aik{f:FV}{t:List Rt}(hr:Rm 1000000000 f)(h0:f.table=[])(ht:bF t=true)(hm:(t.length:Int)<=eG f.aq.ae):
  (cG f (pA [] t)).2=0/\Rm 900000000 (cG f (pA [] t)).1/\(cG f (pA [] t)).1.table=t/\eG (cG f (pA [] t)).1.aq.ae=eG f.aq.ae:=by
 obtain⟨e1,e2⟩:=aij ht;rw[←h0]at e1 e2;obtain⟨a1,a2,a3,a4⟩:=Rm.step (k:=900000000) (hr.mono (by decide)) (l:=cr f.table t) (by rw[h0]at e1⊢;exact e1) (by rw[show bM f.table (cr f.table t)=t by rw[h0]at e2⊢;exact e2];omega);rw[aih ht];rw[h0]at a1 a2 a3 a4;exact⟨a1,a2,a3.trans (by rw[h0]at e2;exact e2),a4⟩
end Go.Kb
namespace Go.Proofs.YtkggjjnhnjjokaaGreatDoor
open Go.ax Go.Kb Go.RowKit
variable {w0:World}{L:List aj}
instance arZ{b:UInt8}{p:UInt8}{t:Sv}{ts:List Rt}[ht:cD w0 L ay 19 t ts]:bN Tryz.prog 24 w0 L [.int .u8 (b.toNat:Nat), .int .u8 (p.toNat:Nat),t.val] (dx) (fun zz=> .tuple #[.agg (dw zz), .bool (wq (b.toNat%7) (p.toNat%7) ts)]) (fun zz=>fz zz::L) (fun zz=>wq (b.toNat%7) (p.toNat%7) ts=true->Rm 900000000 (cg zz)/\zz.table.xs=ts/\eG (cg zz).aq.ae=tA (b.toNat%7) (p.toNat%7)) (ts.length<=1000):=⟨fun aH w hw=>Gk (fun zz=>[fz zz]) hw (by
 have ht:=ht.h w hw;have rL:Gv w t ay 19 ts:=⟨ht⟩;obtain⟨n1,n2,n3,n4,n5,n6⟩:=Wk (n:=(b.toNat%7)) (p:=(p.toNat%7)) oM oM;have Bp:=aii ts;refine vn Tryz.func24 rfl Tryz.ntmps24 rfl ?_;refine Gc ?_;refine bl fun b6=>al ?_;refine ag (va (p:=b.toNat) (q:=7) rfl rfl rfl rfl oM) (ag (gH rfl (by simp only[nb];omega)) (av ?_));refine ag (va (p:=p.toNat) (q:=7) rfl rfl rfl rfl oM) (ag (gH rfl (by simp only[nb];omega)) (Gs ?_));refine aX rfl trivial fun qc Dr=>?_;have NK:cv qc=(BU (b.toNat%7) (p.toNat%7)).1:=Dr;have z24:(rp ((((b.toNat%7):Nat):Int)+5) ((((p.toNat%7):Nat):Int)+2) 64).2=0:=n1;have ail:gO qc:=rr (by rw[NK];exact n2);refine Gs ?_;refine ag (aJ (v:= .agg (aT qc)) rfl rfl) (ag (aJ (v:= .int .i64 ((rp ((((b.toNat%7:Nat)):Int)+5) ((((p.toNat%7:Nat)):Int)+2) 64).2)) rfl rfl) (bl fun b8=>au ?_));refine aX rfl ail fun qb Dn=>?_;have Ir:cg qb=(tw (b.toNat%7) (p.toNat%7)).1:=by rw[Dn,NK];rfl
 have z29:(rI (cv qc)).2=0:=by rw[NK];exact n3
 have Wo:Rm 1000000000 (cg qb):=by rw[Ir];exact n4
 have t29:qb.table.xs=[]:=by rw[show qb.table.xs=(tw (b.toNat%7) (p.toNat%7)).1.table from congrArg FV.table Ir,n5]
 refine Gs ?_;refine ag (aJ (v:= .agg (dw qb)) rfl rfl) (ag (aJ (v:= .int .i64 ((rI (cv qc)).2)) rfl rfl) (bl fun zo=>au ?_));refine aX (vs:=[Sv.none.val,_]) rfl trivial fun gD uI=>Gs ?_;refine ag (aJ (v:=gD.val) rfl rfl) (ag (aJ (v:= .int .i64 (qX [] ts)) rfl rfl) (FB ?_));refine bI rfl rfl rfl (fun hg=>(Ry.yl (va (p:=b.toNat) (q:=7) (aF hg rfl) rfl rfl rfl (by simp only[Z0,Z1,Z2,Z3,Z4,Z5,Z6,Z7,Z8,Z9]at hg;omega)))) (bI rfl rfl rfl (fun hg=>(Ry.yl (gH (aF hg rfl) (by simp only[nb];omega)))) (bI rfl rfl rfl (fun hg=>(Ry.yl (yh (aF hg rfl) rfl (by simp only[Z0,Z1,Z2,Z3,Z4,Z5,Z6,Z7,Z8,Z9]at hg;omega)))) (Gg ?_)));refine bI rfl rfl rfl (fun hg=>(Ry.yl (va (p:=p.toNat) (q:=7) (aF hg rfl) rfl rfl rfl (by simp only[Z0,Z1,Z2,Z3,Z4,Z5,Z6,Z7,Z8,Z9]at hg;omega)))) (bI rfl rfl rfl (fun hg=>(Ry.yl (gH (aF hg rfl) (by simp only[nb];omega)))) (bI rfl rfl rfl (fun hg=>(Ry.yl (yh (aF hg rfl) rfl (by simp only[Z0,Z1,Z2,Z3,Z4,Z5,Z6,Z7,Z8,Z9]at hg;omega)))) (bI rfl rfl rfl (fun hg=>cj (eL (aF hg rfl) (eL (aF hg rfl) (eL rfl iV))) trivial) (al ?_))));refine Gb (fun h0=>?_) fun h0=>?_
 ·
  have hz:wq (b.toNat%7) (p.toNat%7) ts=false:=by
   cases hk:wq (b.toNat%7) (p.toNat%7) ts with
   |false=>rfl
   |true=>
    obtain⟨g1,g2⟩:=NJ.1 hk;have g3:qX [] ts=0:=Wn g1;rw[z29,g3]at h0;unfold tA at g2;rcases h0 with(h|h)|h
    ·
     exact absurd rfl h
    ·
     exact absurd rfl h
    omega
  refine aM ?_;refine Gr fun w1 hw=>?_;exact⟨qb,by rw[hz],(fun h=>by rw[hz]at h;cases h),ai.mem hw⟩
 have g3:qX [] ts=0:=by omega
 have qk:=aif g3;have g4:(ts.length:Int)<=tA (b.toNat%7) (p.toNat%7):=by unfold tA;omega
 have hz:wq (b.toNat%7) (p.toNat%7) ts=true:=NJ.2 ⟨qk,g4⟩;refine al ?_;refine aX rfl Wo.fb.small fun NL aim=>?_;have br:=aik Wo t29 qk (by rw[Ir,n6];exact g4);rw[←aim]at br;obtain⟨s1,s2,s3,s4⟩:=br;have s5:eG (cg NL).aq.ae=tA (b.toNat%7) (p.toNat%7):=by rw[s4,Ir];exact n6
 refine Gs ?_;refine ag (aJ (v:= .agg (dw NL)) rfl rfl) (ag (aJ (v:= .int .i64 ((cG (cg qb) (pA [] ts)).2)) rfl rfl) (hU ?_));refine Gr fun w1 hw=>?_;exact⟨NL,by rw[hz,s1];rfl,(fun _=>⟨s2,s3,s5⟩),ai.mem hw⟩)⟩
end Go.Proofs.YtkggjjnhnjjokaaGreatDoor
namespace Go.ax
open Go.Kb Go.RowKit
def kRq(k:Key):List UInt8:=(List.range 16).map fun i=>b8 (bk k i)
def qp(g:Ch):List UInt8:=(if g.gone=true then 1 else 0)::eO g.r
theorem ain(g:Ch):(qp g).length=21:=by rw[qp,asm,pa]
theorem Is(g:Ch):qp g=[if g.gone=true then 1 else 0,if g.r.p.bits=128 then 1 else 0,bS g.r.p.len]++kRq g.r.p.key++be g.r.bH.toNat 2:=by
 simp[qp,eO,kRq,be]
theorem Iu{w:World}{b:Nat}{p:bt}{T:TypeId}(hb:w.heap[b]? =some (.cells (cP p) T (0,0))):dZ aG 1 (hp w) ⟨false,b,2,16,16,none⟩ (kRq p.key):=by
 refine u9 ⟨(fun h=>by cases h),asu _,(by decide:16<=140737488355328),fun _=>rfl⟩ (by simp[kRq]) hb fun i x hx j hj=>?_;obtain rfl:j=0:=by omega
 have hi:i<16:=by
  have:=(ad2.1 hx).1;simpa[kRq]using this
 obtain rfl:b8 (bk p.key i)=x:=by
  simp only[kRq,asB,atQ hi,as7]at hx;exact aso hx
 have h1:=(qy p i).trans (kO p.key i hi);have h2:=jG p.key i;show(cP p)[2+i*1+0]? =some (.int .u8 (b8 (bk p.key i)).toNat);rw[at2,atl,h1,pO,as5 (by omega)]
def rZ(l:List Ch)(i:Nat):List UInt8:=be l.length 2++((l.take i).map qp).flatten
def lP(l:List Ch):Int:=if 200<l.length then 1 else if(l.all fun g=>bw g.r.p)=true then 0 else 1
def lp(l:List Ch):List UInt8:=if lP l=0 then rk (rZ l l.length)else[]
theorem Wp{l:List Ch}{i:Nat}{g:Ch}(h:l[i]? =some g):rZ l (i+1)=rZ l i++qp g:=by
 rw[rZ,asC,h];simp[rZ]
theorem Iv(l:List Ch): ∀i,i<=l.length->(rZ l i).length=2+21*i
 |0,_=>by simp[rZ,gK]
 |i+1,h=>by
  have hi:l[i]? =some l[i]:=by simp[show i<l.length by omega]
  rw[Wp hi,af0,Iv l i (by omega),ain];omega
theorem aio{l:List Ch}{i:Nat}{g:Ch}(h:l[i]? =some g)(hg:bw g.r.p=false):lP l=1:=by
 rw[lP];split
 ·
  rfl
 rw[if_neg];intro ha;have:=asD.1 ha g (anc h);rw[hg]at this;cases this
theorem aip{l:List Ch}:(lp l).length<=4206:=by
 unfold lp;split
 ·
  rename_i he;have hl:l.length<=200:=by
   apply asH;intro hn;rw[lP,if_pos (by omega)]at he;omega
  rw[rk,af0,gK,Iv _ _ (asu _)];omega
 simp
def uS(b:List UInt8)(l:List Ch):List UInt8:=if lP l=0 then b++be (lp l).length 2++lp l else b
end Go.ax
namespace Go.Proofs.YtkggjjnhnjjokaaGreatDoor
open Go.ax Go.Kb
theorem aiq(w0 w:World)(L:List aj)(b:Sv)(bs:List UInt8)(g:Ch)(hw:Mem w0 (own aG 1 b bs::L) w)(aH:bs.length<=1000000):Calls Tryz.prog 183 #[b.val, .agg (cq g)] w fun e w'=> ∃zz:Sv,e= .returned (zz.val)/\(True)/\Mem w0 (own aG 1 zz (bs++qp g)::L) w':=by
 have bH:=g.r.bH.toNat_lt;have pt:=gK g.r.bH.toNat 2;have nT:(kRq g.r.p.key).length=16:=by simp[kRq]
 refine jZ (args:=[_,_]) Tryz.func183 rfl Tryz.ntmps183 rfl hw ?_;change Cw _ _ _ _ _ [(0,b.val),(1, .agg (cq g))] (own aG 1 b bs::L);refine Gc ?_;refine cf rfl fun b3=>eI ?_;refine Gb (fun h0=>?_) fun h0=>?_
 ·
  refine Gi ?_;refine au ?_;refine ag (hK rfl) (bl fun b7=>aS ?_);refine Gb (fun h1=>?_) fun h1=>?_
  ·
   refine Gi ?_;refine cW ?_;refine ag (pK rfl (uf _)) ?_;refine jF (enc:=aG) (vals:=[_,_,_]) [1,1,(bS g.r.p.len)] rfl rfl rfl (by decide) (by decide) fun mP=>?_;refine gS (s:=b) (ys:=[1,1,(bS g.r.p.len)]) rfl rfl (by decide) (fun w hw=>fY (s:=⟨false,mP,0,3,3,none⟩) Tryz.underlying53 (by decide) ((inferInstance:Hd _ _ ⟨false,mP,0,3,3,none⟩ aG 1 [1,1,(bS g.r.p.len)]).h w hw)) (by simp only[asm,asn];omega) (by simp only[asm,asn];omega) fun NM NN NO=>?_;refine au ?_;refine ag (ra rfl) ?_;refine gS (ys:=kRq g.r.p.key) rfl rfl (by decide) (fun w hw=>fY (s:=⟨false,b7,2,16,16,none⟩) Tryz.underlying53 (by decide) (Iu (hw.block (inferInstance:Has _ b7 _ _ _).h))) (by rw[nT];simp only[af0,asm,asn];omega) (by rw[nT];simp only[af0,asm,asn];omega) fun NP NQ NR=>?_;refine aS ?_;refine ag (gH rfl (by simp only[nb];omega)) (aX (vs:=[_, .int .i64 ((2:Nat):Int)]) rfl ⟨by omega,by omega,by omega⟩ fun gu rN=>?_);refine gS (s:=_) (ys:=(be g.r.bH.toNat 2)) rfl rfl (by decide) (fun w hw=>fY (s:=gu) Tryz.underlying53 (by decide) ((inferInstance:Hd _ _ gu aG 1 (be g.r.bH.toNat 2)).h w hw)) (by simp only[af0,asm,asn];omega) (by simp only[af0,asm,asn];omega) fun tB NT NU=>?_;refine av ?_;refine Gr fun w1 hw=>?_;refine⟨tB,rfl,trivial,?_⟩;have dX:Mem w0 (own aG 1 tB (bs++[1,1,bS g.r.p.len]++kRq g.r.p.key++be g.r.bH.toNat 2)::L) w1:=ai.mem hw;rw[show bs++qp g=bs++[1,1,bS g.r.p.len]++kRq g.r.p.key++be g.r.bH.toNat 2 from by rw[Is];simp[h0,h1]];exact dX
  refine aS ?_;refine ag (pK rfl (uf _)) ?_;refine jF (enc:=aG) (vals:=[_,_,_]) [1,0,(bS g.r.p.len)] rfl rfl rfl (by decide) (by decide) fun mP=>?_;refine gS (s:=b) (ys:=[1,0,(bS g.r.p.len)]) rfl rfl (by decide) (fun w hw=>fY (s:=⟨false,mP,0,3,3,none⟩) Tryz.underlying53 (by decide) ((inferInstance:Hd _ _ ⟨false,mP,0,3,3,none⟩ aG 1 [1,0,(bS g.r.p.len)]).h w hw)) (by simp only[asm,asn];omega) (by simp only[asm,asn];omega) fun NM NN NO=>?_;refine au ?_;refine ag (ra rfl) ?_;refine gS (ys:=kRq g.r.p.key) rfl rfl (by decide) (fun w hw=>fY (s:=⟨false,b7,2,16,16,none⟩) Tryz.underlying53 (by decide) (Iu (hw.block (inferInstance:Has _ b7 _ _ _).h))) (by rw[nT];simp only[af0,asm,asn];omega) (by rw[nT];simp only[af0,asm,asn];omega) fun NP NQ NR=>?_;refine aS ?_;refine ag (gH rfl (by simp only[nb];omega)) (aX (vs:=[_, .int .i64 ((2:Nat):Int)]) rfl ⟨by omega,by omega,by omega⟩ fun gu rN=>?_);refine gS (s:=_) (ys:=(be g.r.bH.toNat 2)) rfl rfl (by decide) (fun w hw=>fY (s:=gu) Tryz.underlying53 (by decide) ((inferInstance:Hd _ _ gu aG 1 (be g.r.bH.toNat 2)).h w hw)) (by simp only[af0,asm,asn];omega) (by simp only[af0,asm,asn];omega) fun tB NT NU=>?_;refine av ?_;refine Gr fun w1 hw=>?_;refine⟨tB,rfl,trivial,?_⟩;have dX:Mem w0 (own aG 1 tB (bs++[1,0,bS g.r.p.len]++kRq g.r.p.key++be g.r.bH.toNat 2)::L) w1:=ai.mem hw;rw[show bs++qp g=bs++[1,0,bS g.r.p.len]++kRq g.r.p.key++be g.r.bH.toNat 2 from by rw[Is];simp[h0,h1]];exact dX
 refine al ?_;refine ag (hK rfl) (bl fun b7=>aS ?_);refine Gb (fun h1=>?_) fun h1=>?_
 ·
  refine Gi ?_;refine cW ?_;refine ag (pK rfl (uf _)) ?_;refine jF (enc:=aG) (vals:=[_,_,_]) [0,1,(bS g.r.p.len)] rfl rfl rfl (by decide) (by decide) fun mP=>?_;refine gS (s:=b) (ys:=[0,1,(bS g.r.p.len)]) rfl rfl (by decide) (fun w hw=>fY (s:=⟨false,mP,0,3,3,none⟩) Tryz.underlying53 (by decide) ((inferInstance:Hd _ _ ⟨false,mP,0,3,3,none⟩ aG 1 [0,1,(bS g.r.p.len)]).h w hw)) (by simp only[asm,asn];omega) (by simp only[asm,asn];omega) fun NM NN NO=>?_;refine au ?_;refine ag (ra rfl) ?_;refine gS (ys:=kRq g.r.p.key) rfl rfl (by decide) (fun w hw=>fY (s:=⟨false,b7,2,16,16,none⟩) Tryz.underlying53 (by decide) (Iu (hw.block (inferInstance:Has _ b7 _ _ _).h))) (by rw[nT];simp only[af0,asm,asn];omega) (by rw[nT];simp only[af0,asm,asn];omega) fun NP NQ NR=>?_;refine aS ?_;refine ag (gH rfl (by simp only[nb];omega)) (aX (vs:=[_, .int .i64 ((2:Nat):Int)]) rfl ⟨by omega,by omega,by omega⟩ fun gu rN=>?_);refine gS (s:=_) (ys:=(be g.r.bH.toNat 2)) rfl rfl (by decide) (fun w hw=>fY (s:=gu) Tryz.underlying53 (by decide) ((inferInstance:Hd _ _ gu aG 1 (be g.r.bH.toNat 2)).h w hw)) (by simp only[af0,asm,asn];omega) (by simp only[af0,asm,asn];omega) fun tB NT NU=>?_;refine av ?_;refine Gr fun w1 hw=>?_;refine⟨tB,rfl,trivial,?_⟩;have dX:Mem w0 (own aG 1 tB (bs++[0,1,bS g.r.p.len]++kRq g.r.p.key++be g.r.bH.toNat 2)::L) w1:=ai.mem hw;rw[show bs++qp g=bs++[0,1,bS g.r.p.len]++kRq g.r.p.key++be g.r.bH.toNat 2 from by rw[Is];simp[h0,h1]];exact dX
 refine aS ?_;refine ag (pK rfl (uf _)) ?_;refine jF (enc:=aG) (vals:=[_,_,_]) [0,0,(bS g.r.p.len)] rfl rfl rfl (by decide) (by decide) fun mP=>?_;refine gS (s:=b) (ys:=[0,0,(bS g.r.p.len)]) rfl rfl (by decide) (fun w hw=>fY (s:=⟨false,mP,0,3,3,none⟩) Tryz.underlying53 (by decide) ((inferInstance:Hd _ _ ⟨false,mP,0,3,3,none⟩ aG 1 [0,0,(bS g.r.p.len)]).h w hw)) (by simp only[asm,asn];omega) (by simp only[asm,asn];omega) fun NM NN NO=>?_;refine au ?_;refine ag (ra rfl) ?_;refine gS (ys:=kRq g.r.p.key) rfl rfl (by decide) (fun w hw=>fY (s:=⟨false,b7,2,16,16,none⟩) Tryz.underlying53 (by decide) (Iu (hw.block (inferInstance:Has _ b7 _ _ _).h))) (by rw[nT];simp only[af0,asm,asn];omega) (by rw[nT];simp only[af0,asm,asn];omega) fun NP NQ NR=>?_;refine aS ?_;refine ag (gH rfl (by simp only[nb];omega)) (aX (vs:=[_, .int .i64 ((2:Nat):Int)]) rfl ⟨by omega,by omega,by omega⟩ fun gu rN=>?_);refine gS (s:=_) (ys:=(be g.r.bH.toNat 2)) rfl rfl (by decide) (fun w hw=>fY (s:=gu) Tryz.underlying53 (by decide) ((inferInstance:Hd _ _ gu aG 1 (be g.r.bH.toNat 2)).h w hw)) (by simp only[af0,asm,asn];omega) (by simp only[af0,asm,asn];omega) fun tB NT NU=>?_;refine av ?_;refine Gr fun w1 hw=>?_;refine⟨tB,rfl,trivial,?_⟩;have dX:Mem w0 (own aG 1 tB (bs++[0,0,bS g.r.p.len]++kRq g.r.p.key++be g.r.bH.toNat 2)::L) w1:=ai.mem hw;rw[show bs++qp g=bs++[0,0,bS g.r.p.len]++kRq g.r.p.key++be g.r.bH.toNat 2 from by rw[Is];simp[h0,h1]];exact dX
instance ar0{w0:World}{L R:List aj}{i:Nat}{b:Sv}{bs:List UInt8}{g:Ch}[q:fu L b aG 1 bs i][d:dt L i R]:bN Tryz.prog 183 w0 L [b.val, .agg (cq g)] (Sv) (fun zz=>zz.val) (fun zz=>own aG 1 zz (bs++qp g)::R) (fun zz=>True) (bs.length<=1000000):=⟨fun hp w hw=>aiq w0 w R b bs g (G6 q.h d.h hw) hp⟩
variable {w0:World}{L:List aj}
instance ar1{l:Sv}{ls:List Ch}[hl:cD w0 L cq 20 l ls]:bN Tryz.prog 109 w0 L [l.val] (Sv) (fun zz=> .tuple #[zz.val, .int .i64 (lP ls)]) (fun zz=>own aG 1 zz (lp ls)::L) (fun zz=>True) (True):=⟨fun aH w hw=>Gk (fun zz=>[own aG 1 zz (lp ls)]) hw (by
 have hl:=hl.h w hw;have pw:Gv w l cq 20 ls:=⟨hl⟩;refine cB Tryz.func109 rfl Tryz.ntmps109 rfl ?_;refine eI ?_;refine Gb (fun h0=>?_) fun h0=>?_
 ·
  have he:lP ls=1:=by rw[lP,if_pos oM]
  refine au ?_;refine Gr fun w1 hw=>?_;exact⟨Sv.none,by rw[he];rfl,trivial,by rw[lp,if_neg (by rw[he];decide)];exact(ai.mem hw:Mem w [] _).dj aG 1⟩
 have hln:ls.length<=200:=by omega
 refine al ?_;refine ag (gH rfl (by simp only[nb];omega)) (aX (vs:=[_, .int .i64 ((2:Nat):Int)]) rfl ⟨by omega,by omega,by omega⟩ fun DA ad4=>aS ?_);refine bQ (X:=Nat×Sv) (fun zz=>[(16, .int .i64 (zz.1:Nat)),(4,zz.2.val),(14,l.val),(15, .int .i64 (ls.length:Nat))]) (fun zz=>[own aG 1 zz.2 (rZ ls zz.1)]) (fun zz=>zz.1<=ls.length/\ ∀x∈ls.take zz.1,bw x.r.p=true) (fun zz=>ls.length -zz.1) (0,DA) ⟨Nat.zero_le _,by simp⟩ sb (fun w hw=>by rw[show rZ ls 0=be ls.length 2 from by simp[rZ]];exact ai.mem hw) ?_;rintro⟨i,s1⟩ ⟨aZ,aE⟩;dsimp only;simp only at aZ aE;have iu:=Iv ls i aZ;refine al ?_;refine Gb (fun h1=>?_) fun h1=>?_
 ·
  refine nt ?_;obtain⟨g,hg⟩:=get_some (xs:=ls) (i:=i) oM;refine ag (aW rfl rfl i rfl oM) (ag (iF rfl i hg rfl) (bl fun b6=>au ?_));refine ag (hK rfl) (al ?_);refine Gb (fun h2=>?_) fun h2=>?_
  ·
   have he:lP ls=1:=aio hg h2;refine au ?_;refine Gr fun w1 hw=>?_;exact⟨Sv.none,by rw[he];rfl,trivial,by rw[lp,if_neg (by rw[he];decide)];exact(ai.mem hw:Mem w [] _).dj aG 1⟩
  have hgm:bw g.r.p=true:=by simpa using h2
  refine al ?_;refine aX rfl oM fun qh te=>au ?_;refine Gi ?_;exact bj (x:=(i,s1)) (i+1,qh) ⟨oF,fun x hx=>by rw[acE hg]at hx;rcases asz.1 hx with h|h;(exact aE x h);(rw[as6.1 h];exact hgm)⟩ (by simp only;omega) sb (fun w hw=>by rw[Wp hg];exact ai.mem hw)
 obtain rfl:i=ls.length:=by omega
 have he:lP ls=0:=by rw[lP,if_neg oM,if_pos];rw[asD];intro x hx;exact aE x (by rw[asP];exact hx)
 refine av ?_;refine aX rfl oM fun mV xO=>al ?_;refine Gr fun w1 hw=>?_;exact⟨mV,by rw[he],trivial,by rw[lp,if_pos he];exact ai.mem hw⟩)⟩
instance ar2{b:Sv}{bs:List UInt8}{l:Sv}{ls:List Ch}[hb:cD w0 L aG 1 b bs][hl:cD w0 L cq 20 l ls]:bN Tryz.prog 47 w0 L [b.val,l.val] (Sv) (fun zz=> .tuple #[zz.val, .int .i64 (lP ls)]) (fun zz=>own aG 1 zz (uS bs ls)::L) (fun zz=>True) (bs.length<=900000):=⟨fun aH w hw=>Gk (fun zz=>[own aG 1 zz (uS bs ls)]) hw (by
 have hb:=hb.h w hw;have hl:=hl.h w hw;have rK:Gv w b aG 1 bs:=⟨hb⟩;have pw:Gv w l cq 20 ls:=⟨hl⟩;have bW:=aip (l:=ls);refine cQ Tryz.func47 rfl Tryz.ntmps47 rfl ?_;refine aM ?_;refine aX rfl trivial fun rQ T8=>Gs ?_;refine ag (aJ (v:=rQ.val) rfl rfl) (ag (aJ (v:= .int .i64 (lP ls)) rfl rfl) (aS ?_));refine Gb (fun h0=>?_) fun h0=>?_
 ·
  have he: ¬lP ls=0:=h0;refine av ?_;refine aX rfl oM fun aB ki=>au ?_;refine Gr fun w1 hw=>?_;exact⟨aB,rfl,trivial,by rw[uS,if_neg he];exact ai.mem hw⟩
 have he:lP ls=0:=by simpa using h0
 refine au ?_;refine ag (gH rfl (by simp only[nb];omega)) (aX (vs:=[_, .int .i64 ((2:Nat):Int)]) rfl ⟨by omega,by omega,by omega⟩ fun NV ar3=>Gs ?_);refine jF (enc:=(bT (τ:=UInt8))) [(⟨b,bs⟩:Sl UInt8),⟨NV,be (lp ls).length 2⟩,⟨rQ,lp ls⟩] (vals:=[b.val,NV.val,rQ.val]) rfl (by simp only[asL,ato,Sv.iX];rfl) rfl (by decide) (by decide) fun b24=>?_;refine J3 (τ:=Sl UInt8) (xs:=[(⟨b,bs⟩:Sl UInt8),⟨NV,be (lp ls).length 2⟩,⟨rQ,lp ls⟩]) fun a24 sf g24=>?_;have Wq:jw a24.xs=uS bs ls:=by rw[sf,uS,if_pos he];simp[jw]
 have ar4:(uS bs ls).length=bs.length+2+(lp ls).length:=by rw[uS,if_pos he,af0,af0,gK]
 refine aX rfl (by rw[Wq];omega) fun LY TE=>al ?_;refine Gr fun w1 hw=>?_;exact⟨LY,by rw[he],trivial,by rw[←Wq];exact ai.mem hw⟩)⟩
end Go.Proofs.YtkggjjnhnjjokaaGreatDoor
