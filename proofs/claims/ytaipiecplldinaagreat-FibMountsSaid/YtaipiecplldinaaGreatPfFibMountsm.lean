/- The law FibMounts holds: whatever is on a chip is mounted, a fib is right or not, and any key finds, as the document says; how many routes there is room for is, too. It holds of all arguments that can be read; its arguments read behind the call as they did. -/
import Derived.Test.YtaipiecplldinaaGreatA6
import Derived.Test.YtaipiecplldinaaGreatA4
import Derived.Test.YtaipiecplldinaaGreatA1
import Derived.Test.YtaipiecplldinaaGreatA5
import Derived.Test.YtaipiecplldinaaGreatA3
import Derived.Test.YtaipiecplldinaaGreatA2
import Derived.Lib.ReflectliteSwap
import Derived.Laws.Externs
import Derived.ProofKit
import Derived.Deep.Slices
import Derived.HandedShaped
import Derived.Test.YtaipiecplldinaaGreatRows
set_option maxRecDepth 20000
set_option linter.unusedSimpArgs false
set_option linter.unusedVariables false
namespace Go.Proofs.YtaipiecplldinaaGreat
open Go.aL Go.Kb
open Go.RowKit
theorem Wm(w:World)(c:Cp)(hc:Deep.bk (hp w) c):Calls Tryz.prog 45 #[.agg (aB c)] w fun e w'=>e= .returned (.bool (iH (cv c)))∧Mem w [] w':=by
 have gy:bT w c:=⟨hc⟩
 refine aW (args:=[_]) Tryz.func45 rfl Tryz.ntmps45 rfl ?_
 change Cw _ _ _ _ _ [(0, .agg (aB c))] []
 refine Gc ?_
 refine bL rfl fun b1=> ?_
 refine Gs ?_
 refine Gc ?_
 iterate 3 refine Gs ?_
 iterate 4 refine Gg ?_
 iterate 2 refine Gs ?_
 iterate 3 refine Gg ?_
 iterate 2 refine Gs ?_
 iterate 3 refine Gg ?_
 iterate 2 refine Gs ?_
 refine Gc ?_
 refine an (.inl rfl) (aK rfl (al rfl)) (fun w1 hw=> ?_)
 exact⟨congrArg (fun b=>Ending.returned (Value.bool b)) ((by simp only[iH,cv,dH];rfl)),ah.mem hw⟩
instance af6{w0:World}{L:List aj}{c:Cp}[hc:aS w0 L c]:bU Tryz.prog 45 w0 L [.agg (aB c)] (.bool (iH (cv c))) (True):=⟨fun hp w hw=>Wm w c (hc.h w hw)⟩
theorem Wn(w:World)(c:Cp)(hc:Deep.bk (hp w) c)(ba:iH (cv c)=true):Calls Tryz.prog 46 #[.agg (aB c)] w fun e w'=> ∃zz:bI,e= .returned (.tuple #[.agg (bo zz), .int .i64 ((gx (cv c)).2)])∧(vv zz=(gx (cv c)).1∧(zz.ai=c∨zz.ai=ep))∧Mem w [own bf 1 zz.at_.sv zz.at_.xs] w':=by
 have gy:bT w c:=⟨hc⟩
 have n9:=vu.1 ba
 have hk:=n9.1
 have mf:(cv c).blocks.length=c.blocks.xs.length:=dH _
 have fB:=ik.1 (dE.1 hk).1
 obtain⟨B0,pj⟩:=get_some (xs:=c.blocks.xs) (i:=0) (by omega)
 obtain⟨B1,mj⟩:=get_some (xs:=c.blocks.xs) (i:=1) (by omega)
 have Eg:Mb B0 c.blocks:=⟨List.mem_of_getElem? pj⟩
 have Eh:Mb B1 c.blocks:=⟨List.mem_of_getElem? mj⟩
 have o0:=(eM.1 ((dE.1 hk).2.2.2.2 (bv B0) (List.mem_of_getElem? (fK pj)))).1
 have o1:=(eM.1 ((dE.1 hk).2.2.2.2 (bv B1) (List.mem_of_getElem? (fK mj)))).1
 have AJ:=fk B0.ag.xs
 have SJ:=fk B1.ag.xs
 simp only[bv,cv]at o0 o1 fB
 have hT:(aE (([]:List (Sl UInt8))++B0.ag.xs++B1.ag.xs))=(aO (cv c) 0).ag++(aO (cv c) 1).ag:=by
  rw[show aO (cv c) 0=bv B0 from xx pj,show aO (cv c) 1=bv B1 from xx mj]
  simp[aE,bv]
 have fA:((aO (cv c) 0).ag++(aO (cv c) 1).ag).length=B0.ag.xs.length+B1.ag.xs.length:=by rw[←hT,fk];simp only[List.length_append,List.length_nil];omega
 have mK:=C1 (l:=(aO (cv c) 0).ag++(aO (cv c) 1).ag) (by rw[fA];omega)
 have qm:0≤(cG (cv c)).1:=mK.1
 have uv:(cG (cv c)).1<c.ag+c.ag:=by have:=mK.2;rw[fA]at this;change(cG (cv c)).1<_ at this;omega
 have JO:z1 w (([]:List (Sl UInt8))++B0.ag.xs++B1.ag.xs):=⟨fun y hy=>by
  simp only[List.nil_append,List.mem_append]at hy
  rcases hy with hy|hy
  ·
   exact(hc.1.2 B0 Eg.h).2 y hy
  ·
   exact(hc.1.2 B1 Eh.h).2 y hy⟩
 have SK:0≤((cG (cv c)).1/c.ag):=Int.ediv_nonneg qm (by omega)
 have SL:((cG (cv c)).1/c.ag)<2:=Int.ediv_lt_of_lt_mul (by omega) (by omega)
 have ct:=C2 ((aO (cv c) 0).ag++(aO (cv c) 1).ag)
 have hNr:0≤(cG (cv c)).1%c.ag:=Int.emod_nonneg _ (by omega)
 obtain⟨BL,KJ⟩:=get_some (xs:=c.blocks.xs) (i:=((cG (cv c)).1/c.ag).toNat) (by omega)
 have Wo:(aO (cv c) ((cG (cv c)).1/c.ag)).used=BL.used:=by rw[na KJ];rfl
 refine aW (args:=[_]) Tryz.func46 rfl Tryz.ntmps46 rfl ?_
 change Cw _ _ _ _ _ [(0, .agg (aB c))] []
 refine Gc ?_
 refine bL rfl fun b1=> ?_
 refine bx fun b2=> ?_
 refine Gs ?_
 refine Gc ?_
 refine fw [0,6,12] [[],[],[],[],[],[],[0],[],[],[],[],[],[0,6],[0,6,12]] [1,2,3,4,5,7,8,9,10,11,0,6,12,13] [ar b1 (aB c) 25] (fun _ hw=>ah.mem hw) (by kernel_rfl) (by kernel_rfl) ?_
 refine ak rfl (aA (o':=2) rfl rfl) ?_
 refine ak rfl (bl rfl) ?_
 refine ak rfl (aX rfl rfl 0 rfl (by omega)) ?_
 refine ak rfl (aA rfl rfl) ?_
 refine ak rfl (bn (j:=0) rfl 0 pj rfl (by decide)) ?_
 refine ak rfl (aA (o':=2) rfl rfl) ?_
 refine ak rfl (bl rfl) ?_
 refine ak rfl (aX rfl rfl 1 rfl (by omega)) ?_
 refine ak rfl (aA rfl rfl) ?_
 refine ak rfl (bn (j:=0) rfl 1 mj rfl (by decide)) ?_
 refine cK rfl (Nf (bP (τ:=UInt8)) fun ql=>⟨fun _ hw=>ah.mem hw,?_⟩)
 refine cK rfl (zv (s:=⟨false,ql,0,0,0,none⟩) (enc:=(bP (τ:=UInt8))) (ys:=B0.ag.xs) rfl rfl (by decide) (fun w hw=>gX (s:=B0.ag.sv) Tryz.underlying46 (by decide) ((inferInstance:cl _ _ (bP (τ:=UInt8)) 1 B0.ag.sv B0.ag.xs).h w hw)) (by simp only[List.length_append,List.length_nil];omega) (by simp only[List.length_append,List.length_nil];omega) fun Wp af7 af8=>⟨fun _ hw=>ah.mem hw,?_⟩)
 refine cK rfl (zv (s:=Wp) (enc:=(bP (τ:=UInt8))) (ys:=B1.ag.xs) rfl rfl (by decide) (fun w hw=>gX (s:=B1.ag.sv) Tryz.underlying46 (by decide) ((inferInstance:cl _ _ (bP (τ:=UInt8)) 1 B1.ag.sv B1.ag.xs).h w hw)) (by simp only[List.length_append,List.length_nil];omega) (by simp only[List.length_append,List.length_nil];omega) fun EL Ke A0=>⟨fun _ hw=>ah.mem hw,?_⟩)
 refine ak rfl (aP rfl) ?_
 refine Gc ?_
 refine Gs ?_
 refine bp (hc:=Wl (l:=(⟨EL,(([]:List (Sl UInt8))++B0.ag.xs++B1.ag.xs)⟩:Sl (Sl UInt8)))) rfl trivial fun dg oh=> ?_
 have eP:(c0 (aE (([]:List (Sl UInt8))++B0.ag.xs++B1.ag.xs))).1=(cG (cv c)).1:=by rw[hT];rfl
 have ux:(c0 (aE (([]:List (Sl UInt8))++B0.ag.xs++B1.ag.xs))).2.2=(cG (cv c)).2.2:=by rw[hT];rfl
 have sP:cM dg=(cG (cv c)).2.1:=by rw[oh,hT];rfl
 have kR:dg.gen.toNat=(cG (cv c)).2.1.gen:=congrArg RV.gen sP
 have nj:dg.at_.xs=(cG (cv c)).2.1.at_:=congrArg RV.at_ sP
 have q6:dg.at_.xs.length≤64:=by rw[nj];exact(IJ _).1
 have Wq: ∀y∈dg.at_.xs,0≤y∧y≤65535:=by rw[nj];exact ct
 have pO:j7 (cv c)=(decide ((cG (cv c)).1%c.ag<BL.used)&&mH (cv c) dg.at_.xs):=by rw[j7,←nj,←Wo];rfl
 refine Gs ?_
 refine ae (aU (v:= .int .i64 ((c0 (aE (([]:List (Sl UInt8))++B0.ag.xs++B1.ag.xs))).1)) rfl rfl) ?_
 refine ae (aU (v:= .agg (cn dg)) rfl rfl) ?_
 refine ae (aU (v:= .int .i64 ((c0 (aE (([]:List (Sl UInt8))++B0.ag.xs++B1.ag.xs))).2.2)) rfl rfl) ?_
 refine bx fun b6=> ?_
 iterate 3 refine Gs ?_
 refine Gc ?_
 iterate 2 refine Gs ?_
 refine Gc ?_
 refine aq rfl (fun h0=> ?_) (fun h0=> ?_)
 ·
  replace h0:=bz h0
  rw[ux]at h0
  have hE:gx (cv c)=(gI,(cG (cv c)).2.2):=by rw[gx,if_pos h0]
  refine Gc ?_
  refine ae (bV (v:= .agg (bo fq)) rfl (fun w=>by kernel_rfl)) ?_
  iterate 3 refine Gs ?_
  refine Gc ?_
  refine an (.inl rfl) (aZ rfl (bG rfl) (al rfl)) (fun w1 hw=> ?_)
  exact⟨fq,by rw[hE,ux],⟨by rw[hE];rfl, .inr rfl⟩,Mem.cz bf 1 (ah.mem hw:Mem w [] _)⟩
 ·
  replace h0:=bz h0
  rw[ux]at h0
  refine Gc ?_
  refine eF (by kernel_rfl) (by kernel_rfl) ?_
  iterate 3 refine Gq ?_
  refine aT (ox rfl rfl (by omega) (by omega)) ?_
  iterate 5 refine Gq ?_
  refine aT (gV rfl rfl (by omega) (by omega)) ?_
  refine aT (aX rfl rfl (((cG (cv c)).1/c.ag).toNat) (by rw[eP];omega) (by omega)) ?_
  refine aT (aA rfl rfl) ?_
  refine aT (bn (j:=1) rfl (((cG (cv c)).1/c.ag).toNat) KJ rfl (by decide)) ?_
  refine Gq ?_
  refine Gc ?_
  refine aq rfl (fun h1=> ?_) (fun h1=> ?_)
  ·
   replace h1:=bz h1
   rw[eP]at h1
   have mn:j7 (cv c)=false:=by rw[pO,decide_eq_false (by omega)];rfl
   have hE:gx (cv c)=(gI,2):=by rw[gx,if_neg (by omega),if_pos mn]
   refine Gc ?_
   refine ae (bV (v:= .agg (bo fq)) rfl (fun w=>by kernel_rfl)) ?_
   iterate 2 refine Gs ?_
   refine Gc ?_
   refine an (.inl rfl) (aZ rfl (bG rfl) (al rfl)) (fun w1 hw=> ?_)
   exact⟨fq,by rw[hE],⟨by rw[hE];rfl, .inr rfl⟩,Mem.cz bf 1 (ah.mem hw:Mem w [] _)⟩
  ·
   replace h1:=bz h1
   rw[eP]at h1
   have Wr:decide ((cG (cv c)).1%c.ag<BL.used)=true:=decide_eq_true (by omega)
   refine Gc ?_
   refine Gs ?_
   refine Gc ?_
   refine bK (X:=Nat) (fun zz=>[(8, .int .i64 (zz:Nat)),(1, .pointer (some ⟨b1,0,none⟩)),(2, .pointer (some ⟨b2,0,none⟩)),(5, .int .i64 ((c0 (aE (([]:List (Sl UInt8))++B0.ag.xs++B1.ag.xs))).1)),(6, .pointer (some ⟨b6,0,none⟩))]) (fun zz=>[ar b6 (cn dg) 147,own bf 1 dg.at_.sv dg.at_.xs,ar b1 (aB c) 25,ar b2 (bo fq) 29]) (fun zz=>zz≤dg.at_.xs.length∧ ∀j,j<zz→kI (cv c) dg.at_.xs j=true) (fun zz=>dg.at_.xs.length -zz) 0 ⟨Nat.zero_le _,fun j hj=>by first|omega|(simp only[];omega)⟩ (Sub.cons rfl (Sub.cons rfl (Sub.cons rfl (Sub.cons rfl (Sub.cons rfl (Sub.nil _)))))) (fun w hw=>ah.mem hw) ?_
   rintro i ⟨bb,aH⟩
   refine Gc ?_
   iterate 5 refine Gs ?_
   refine Gc ?_
   refine aq rfl (fun h2=> ?_) (fun h2=> ?_)
   ·
    replace h2:=bz h2
    have rg9:Rg 0 i dg.at_.xs.length:=⟨by omega,by omega⟩
    obtain⟨y,hy⟩:=get_some (xs:=dg.at_.xs) (i:=i) (by omega)
    have iA:=oW hy
    have JE:=Wq y (List.mem_of_getElem? hy)
    have ln:=PG (c:=cv c) iA
    refine Gc ?_
    iterate 3 refine Gs ?_
    refine ae (aX rfl rfl i rfl (by omega)) ?_
    refine ae (bn (j:=0) rfl i hy rfl (by decide)) ?_
    refine Gs ?_
    skip
    refine Gs ?_
    refine Gc ?_
    iterate 2 refine Gs ?_
    refine Gc ?_
    refine aq rfl (fun h3=> ?_) (fun h3=> ?_)
    ·
     replace h3:=bz h3
     have uH:kI (cv c) dg.at_.xs i=true:=by rw[ln,decide_eq_true (show y=0 by omega)];rfl
     refine Gc ?_
     iterate 3 refine Gs ?_
     refine Gi ?_
     exact bh (x:=(i)) (i+1) ⟨by first|omega|(simp only[];omega),fun j hj=>if e:j=i then e▸uH else aH j (by first|omega|(simp only[];omega))⟩ (by first|omega|(simp only[];omega)) (Sub.cons rfl (Sub.cons rfl (Sub.cons rfl (Sub.cons rfl (Sub.cons rfl (Sub.nil _)))))) (fun w hw=>ah.mem hw)
    ·
     replace h3:=bz h3
     have q7:0≤((y -1)/c.ag):=Int.ediv_nonneg (by omega) (by omega)
     have Bs:((y -1)/c.ag)≤y -1:=Int.ediv_le_self _ (by omega)
     have mL:0≤((y -1)%c.ag):=Int.emod_nonneg _ (by omega)
     have sL:((y -1)%c.ag)<c.ag:=Int.emod_lt_of_pos _ (by omega)
     have AG:(c.blocks.xs.getD ((y -1)/c.ag).toNat k6).used=(aO (cv c) ((y -1)/c.ag)).used:=congrArg BV.used (rZ (c:=c))
     have o8:((dg.at_.xs.drop 0).take (i -0)).contains (y -1+1)=(dg.at_.xs.take i).contains y:=by rw[List.drop_zero,Nat.sub_zero,Int.sub_add_cancel]
     refine Gc ?_
     refine eF (by kernel_rfl) (by kernel_rfl) ?_
     iterate 3 refine Gq ?_
     refine aT (gV rfl rfl (by omega) (by omega)) ?_
     iterate 2 refine Gq ?_
     iterate 3 refine Gh ?_
     refine dB rfl rfl rfl (fun hg=>(Ry.yl (gV (av hg rfl) (av hg rfl) (by simp only[Z0,Z1,Z2,Z3,Z4,Z5,Z6,Z7,Z8,Z9]at hg;omega) (by simp only[Z0,Z1,Z2,Z3,Z4,Z5,Z6,Z7,Z8,Z9]at hg;omega)))) ?_
     iterate 4 refine Gh ?_
     iterate 2 refine Gq ?_
     iterate 3 refine Gh ?_
     refine dB rfl rfl rfl (fun hg=>(Ry.yl (ox (av hg rfl) (av hg rfl) (by simp only[Z0,Z1,Z2,Z3,Z4,Z5,Z6,Z7,Z8,Z9]at hg;omega) (by simp only[Z0,Z1,Z2,Z3,Z4,Z5,Z6,Z7,Z8,Z9]at hg;omega)))) ?_
     iterate 5 refine Gh ?_
     refine dB rfl rfl rfl (fun hg=>(Ry.yl (gV (av hg rfl) (av hg rfl) (by simp only[Z0,Z1,Z2,Z3,Z4,Z5,Z6,Z7,Z8,Z9]at hg;omega) (by simp only[Z0,Z1,Z2,Z3,Z4,Z5,Z6,Z7,Z8,Z9]at hg;omega)))) ?_
     refine dB rfl rfl rfl (fun hg=>(Ry.yl (aX (av hg rfl) (av hg rfl) (((y -1)/c.ag).toNat) (by simp only[Z0,Z1,Z2,Z3,Z4,Z5,Z6,Z7,Z8,Z9]at hg;omega) (by simp only[Z0,Z1,Z2,Z3,Z4,Z5,Z6,Z7,Z8,Z9]at hg;omega)))) ?_
     refine dB rfl rfl rfl (fun hg=>(Ry.yl (aA (av hg rfl) rfl))) ?_
     refine dB rfl rfl rfl (fun hg=>(Ry.yl (bn (j:=1) (av hg rfl) (((y -1)/c.ag).toNat) (iU (xs:=c.blocks.xs) (i:=((y -1)/c.ag).toNat) (d:=k6) (by simp only[Z0,Z1,Z2,Z3,Z4,Z5,Z6,Z7,Z8,Z9]at hg;omega)) rfl (by decide)))) ?_
     refine Gh ?_
     iterate 2 refine Gq ?_
     iterate 3 refine Gh ?_
     refine dB rfl rfl rfl (fun hg=>(Ry.yl (wU (av hg rfl) (av hg rfl) i rfl (by simp only[Z0,Z1,Z2,Z3,Z4,Z5,Z6,Z7,Z8,Z9]at hg;omega)))) ?_
     refine Gh ?_
     refine dB rfl rfl rfl (fun hg=>(Ry.yl (gk (av hg rfl) rfl (by simp only[Z0,Z1,Z2,Z3,Z4,Z5,Z6,Z7,Z8,Z9]at hg;omega)))) ?_
     refine dB rfl rfl rfl (fun hg=>bX (cg (av hg rfl) (cg (av hg rfl) dO)) trivial) ?_
     refine Gq ?_
     refine Gc ?_
     refine aq rfl (fun h4=> ?_) (fun h4=> ?_)
     ·
      replace h4:=bz h4
      have uH:kI (cv c) dg.at_.xs i=false:=by
       rw[ln,decide_eq_false (show ¬y=0 by omega),Bool.false_or]
       rw[o8]at h4
       cases Ws:(dg.at_.xs.take i).contains y with
       |true=>rfl
       |false=>
        rw[Ws]at h4
        simp only[Bool.false_eq_true,or_false]at h4
        rw[pX,show nQ (cv c) (y -1)=false from by
         cases lC:nQ (cv c) (y -1)with
         |false=>rfl
         |true=>
          obtain⟨g1,g2,g3⟩:=tV.1 lC
          change 2≤((y -1)/c.ag)at g1
          change((y -1)/c.ag)<((cv c).blocks.length:Int)at g2
          change((y -1)%c.ag)<(aO (cv c) ((y -1)/c.ag)).used at g3
          rw[mf]at g2
          omega]
        rfl
      have mn:j7 (cv c)=false:=by
       rw[pO]
       have:mH (cv c) dg.at_.xs=false:=by
        cases lC:mH (cv c) dg.at_.xs with
        |false=>rfl
        |true=>have g:=vw.1 lC i (by omega);rw[uH]at g;cases g
       rw[this,Bool.and_false]
      have hE:gx (cv c)=(gI,2):=by rw[gx,if_neg (by omega),if_pos mn]
      refine Gc ?_
      refine ae (bV (v:= .agg (bo fq)) rfl (fun w=>by kernel_rfl)) ?_
      iterate 2 refine Gs ?_
      refine Gc ?_
      refine an (.inl rfl) (aZ rfl (bG rfl) (al rfl)) (fun w1 hw=> ?_)
      exact⟨fq,by rw[hE],⟨by rw[hE];rfl, .inr rfl⟩,Mem.cz bf 1 (ah.mem hw:Mem w [] _)⟩
     ·
      replace h4:=bz h4
      rw[o8]at h4
      have Wt:(dg.at_.xs.take i).contains y=false:=h4.2
      obtain⟨Bk,qt⟩:=get_some (xs:=c.blocks.xs) (i:=((y -1)/c.ag).toNat) (by omega)
      have KK:Mb Bk c.blocks:=⟨List.mem_of_getElem? qt⟩
      have dx:=na qt
      have Wu:c.blocks.xs.getD ((y -1)/c.ag).toNat k6=Bk:=by simp[List.getD,qt]
      have eu:=(eM.1 ((dE.1 hk).2.2.2.2 (bv Bk) (List.mem_of_getElem? (fK qt)))).1
      have sE:=fk Bk.ag.xs
      simp only[bv,cv]at eu
      rw[Wu]at h4
      have gh:nQ (cv c) (y -1)=true:=tV.2 ⟨show 2≤((y -1)/c.ag) by omega,by show((y -1)/c.ag)<((cv c).blocks.length:Int);omega,by show((y -1)%c.ag)<(aO (cv c) ((y -1)/c.ag)).used;rw[dx];show _<Bk.used;omega⟩
      obtain⟨z,hz⟩:=get_some (xs:=Bk.ag.xs) (i:=((y -1)%c.ag).toNat) (by omega)
      have n5:Mb z Bk.ag:=⟨List.mem_of_getElem? hz⟩
      have Fa:r9 (cv c) (y -1)=z.xs:=by
       show(aO (cv c) ((y -1)/c.ag)).ag.getD ((y -1)%c.ag).toNat []=z.xs
       rw[dx]
       simp[bv,List.getD,ib hz]
      have mN:=DA z.sv z.xs
      have KL:(dw z.sv z.xs).kind=(bm z.xs).1.kind:=congrArg PV.kind mN
      have KM:(dw z.sv z.xs).id=(bm z.xs).1.id:=congrArg PV.id mN
      have KN:kI (cv c) dg.at_.xs i=(decide ((bm z.xs).2=0)&&decide ((bm z.xs).1.kind=1)&&decide ((bm z.xs).1.id=(i:Int))):=by
       rw[ln,decide_eq_false (show ¬y=0 by omega),Bool.false_or,Wt,pX,gh,Fa];rfl
      refine Gc ?_
      refine fw [19,20] [[],[],[],[],[],[],[],[],[],[],[],[],[],[],[],[],[],[],[],[],[19],[19,20]] [0,1,2,3,4,5,6,7,8,9,10,11,12,13,14,15,16,17,18,19,20,21] [ar b1 (aB c) 25] (fun _ hw=>ah.mem hw) (by kernel_rfl) (by kernel_rfl) ?_
      refine ak rfl (aA (o':=2) rfl rfl) ?_
      refine ak rfl (bl rfl) ?_
      refine ak rfl (au rfl) ?_
      refine ak rfl (aA (o':=0) rfl rfl) ?_
      refine ak rfl (bl rfl) ?_
      refine ak rfl (gV rfl rfl (by omega) (by omega)) ?_
      refine ak rfl (aX rfl rfl (((y -1)/c.ag).toNat) (by omega) (by omega)) ?_
      refine ak rfl (aA rfl rfl) ?_
      refine ak rfl (bn (j:=0) rfl (((y -1)/c.ag).toNat) qt rfl (by decide)) ?_
      refine ak rfl (au rfl) ?_
      refine ak rfl (aA (o':=0) rfl rfl) ?_
      refine ak rfl (bl rfl) ?_
      refine ak rfl (ox rfl rfl (by omega) (by omega)) ?_
      refine ak rfl (aX rfl rfl (((y -1)%c.ag).toNat) (by omega) (by omega)) ?_
      refine ak rfl (bn (j:=0) rfl (((y -1)%c.ag).toNat) hz rfl (by decide)) ?_
      refine nM rfl (bX rfl trivial) ?_
      refine ak rfl (au rfl) ?_
      refine ak rfl (aU (v:= .agg (bZ (dw z.sv z.xs))) rfl rfl) ?_
      refine ak rfl (aU (v:= .int .i64 ((bm z.xs).2)) rfl rfl) ?_
      refine cK rfl (zu fun uy=>⟨fun _ hw=>ah.mem hw,?_⟩)
      refine cK rfl (km rfl rfl ⟨fun _ hw=>ah.mem hw,?_⟩)
      refine ak rfl (aP rfl) ?_
      refine Gc ?_
      iterate 3 refine Gs ?_
      iterate 3 refine Gg ?_
      iterate 2 refine Gs ?_
      iterate 4 refine Gg ?_
      refine Gs ?_
      refine Gc ?_
      refine aq rfl (fun h5=> ?_) (fun h5=> ?_)
      ·
       replace h5:=bz h5
       have uH:kI (cv c) dg.at_.xs i=false:=by
        rw[KN,←KL,←KM]
        rcases h5 with(h|h)|h
        ·
         rw[decide_eq_false h];rfl
        ·
         rw[decide_eq_false h,Bool.and_false];rfl
        ·
         rw[decide_eq_false h,Bool.and_false]
       have mn:j7 (cv c)=false:=by
        rw[pO]
        have:mH (cv c) dg.at_.xs=false:=by
         cases lC:mH (cv c) dg.at_.xs with
         |false=>rfl
         |true=>have g:=vw.1 lC i (by omega);rw[uH]at g;cases g
        rw[this,Bool.and_false]
       have hE:gx (cv c)=(gI,2):=by rw[gx,if_neg (by omega),if_pos mn]
       refine Gc ?_
       refine ae (bV (v:= .agg (bo fq)) rfl (fun w=>by kernel_rfl)) ?_
       iterate 2 refine Gs ?_
       refine Gc ?_
       refine an (.inl rfl) (aZ rfl (bG rfl) (al rfl)) (fun w1 hw=> ?_)
       exact⟨fq,by rw[hE],⟨by rw[hE];rfl, .inr rfl⟩,Mem.cz bf 1 (ah.mem hw:Mem w [] _)⟩
      ·
       replace h5:=bz h5
       have uH:kI (cv c) dg.at_.xs i=true:=by rw[KN,←KL,←KM,decide_eq_true h5.1.1,decide_eq_true h5.1.2,decide_eq_true h5.2];rfl
       refine Gc ?_
       iterate 3 refine Gs ?_
       refine Gi ?_
       exact bh (x:=(i)) (i+1) ⟨by first|omega|(simp only[];omega),fun j hj=>if e:j=i then e▸uH else aH j (by first|omega|(simp only[];omega))⟩ (by first|omega|(simp only[];omega)) (Sub.cons rfl (Sub.cons rfl (Sub.cons rfl (Sub.cons rfl (Sub.cons rfl (Sub.nil _)))))) (fun w hw=>ah.mem hw)
   ·
    replace h2:=bz h2
    obtain rfl:i=dg.at_.xs.length:=by omega
    have mn:j7 (cv c)=true:=by rw[pO,Wr,vw.2 (fun j hj=>aH j hj)];rfl
    have hE:gx (cv c)=(⟨cv c,(cG (cv c)).2.1.at_,(cG (cv c)).2.1.gen,(cG (cv c)).1/c.ag⟩,0):=by rw[gx,if_neg (by omega),if_neg (by rw[mn];simp)];rfl
    refine Gc ?_
    refine fw [10] [[],[],[],[],[],[],[],[],[],[],[],[10]] [0,1,2,3,4,5,6,7,8,9,10,11] [ar b1 (aB c) 25,ar b6 (cn dg) 147] (fun _ hw=>ah.mem hw) (by kernel_rfl) (by kernel_rfl) ?_
    refine ak rfl (dW rfl) ?_
    refine ak rfl (aA (o':=1) rfl rfl) ?_
    refine ak rfl (bl rfl) ?_
    refine ak rfl (aA (o':=0) rfl rfl) ?_
    refine ak rfl (bl rfl) ?_
    refine ak rfl (au rfl) ?_
    refine ak rfl (aA (o':=0) rfl rfl) ?_
    refine ak rfl (bl rfl) ?_
    refine ak rfl (gV rfl rfl (by omega) (by omega)) ?_
    refine ak rfl (bV (v:= .agg (bo ⟨c,dg.at_,dg.gen,((c0 (aE (([]:List (Sl UInt8))++B0.ag.xs++B1.ag.xs))).1/c.ag)⟩)) rfl (JN c dg.at_ dg.gen ((c0 (aE (([]:List (Sl UInt8))++B0.ag.xs++B1.ag.xs))).1/c.ag))) ?_
    refine cK rfl (km rfl rfl ⟨fun _ hw=>ah.mem hw,?_⟩)
    refine ak rfl (aP rfl) ?_
    refine Gc ?_
    refine an (.inl rfl) (aZ rfl (bG rfl) (al rfl)) (fun w1 hw=> ?_)
    exact⟨⟨c,dg.at_,dg.gen,((c0 (aE (([]:List (Sl UInt8))++B0.ag.xs++B1.ag.xs))).1/c.ag)⟩,by rw[hE],⟨by rw[hE];simp only[vv,nj,kR,eP], .inl rfl⟩,ah.mem hw⟩
instance af9{w0:World}{L:List aj}{c:Cp}[hc:aS w0 L c]:bW Tryz.prog 46 w0 L [.agg (aB c)] (bI) (fun zz=> .tuple #[.agg (bo zz), .int .i64 ((gx (cv c)).2)]) (fun zz=>own bf 1 zz.at_.sv zz.at_.xs::L) (fun zz=>vv zz=(gx (cv c)).1∧(zz.ai=c∨zz.ai=ep)) (iH (cv c)=true):=⟨fun hp w hw=>(Wn w c (hc.h w hw) hp).mono fun e w' ⟨x,h1,h2,h3⟩=>⟨x,h1,h2,hw.call h3⟩⟩
theorem Wv(w:World)(c:Cp)(hc:Deep.bk (hp w) c):Calls Tryz.prog 13 #[.agg (aB c)] w fun e w'=> ∃zz:bI,e= .returned (.tuple #[.agg (bo zz), .int .i64 ((bq (cv c)).2)])∧(vv zz=(bq (cv c)).1∧(zz.ai=c∨zz.ai=ep))∧Mem w [own bf 1 zz.at_.sv zz.at_.xs] w':=by
 have gy:bT w c:=⟨hc⟩
 refine aW (args:=[_]) Tryz.func13 rfl Tryz.ntmps13 rfl ?_
 change Cw _ _ _ _ _ [(0, .agg (aB c))] []
 refine Gc ?_
 refine bL rfl fun b1=> ?_
 refine bx fun b2=> ?_
 refine Gs ?_
 refine Gc ?_
 iterate 3 refine Gs ?_
 refine Gc ?_
 refine aq rfl (fun h0=> ?_) (fun h0=> ?_)
 ·
  replace h0:=bz h0
  have hE:(bq (cv c))=(gI,1):=by rw[Ai,if_pos h0]
  refine Gc ?_
  refine ae (bV (v:= .agg (bo fq)) rfl (fun w=>by kernel_rfl)) ?_
  iterate 2 refine Gs ?_
  refine Gc ?_
  refine an (.inl rfl) (aZ rfl (bG rfl) (al rfl)) (fun w1 hw=> ?_)
  exact⟨fq,by rw[hE],⟨by rw[hE];rfl, .inr rfl⟩,Mem.cz bf 1 (ah.mem hw:Mem w [] _)⟩
 ·
  replace h0:=bz h0
  refine Gc ?_
  iterate 2 refine Gs ?_
  refine Gc ?_
  refine aq rfl (fun h1=> ?_) (fun h1=> ?_)
  ·
   replace h1:=bz h1
   have hE:(bq (cv c))=(gI,7):=by rw[Ai,if_neg (by rw[h0];simp),if_pos (show(cv c).off=true from h1)]
   refine Gc ?_
   refine ae (bV (v:= .agg (bo fq)) rfl (fun w=>by kernel_rfl)) ?_
   iterate 2 refine Gs ?_
   refine Gc ?_
   refine an (.inl rfl) (aZ rfl (bG rfl) (al rfl)) (fun w1 hw=> ?_)
   exact⟨fq,by rw[hE],⟨by rw[hE];rfl, .inr rfl⟩,Mem.cz bf 1 (ah.mem hw:Mem w [] _)⟩
  ·
   replace h1:=bz h1
   have hE:(bq (cv c))=gx (cv c):=by rw[Ai,if_neg (by rw[h0];simp),if_neg (by rw[show(cv c).off=c.off from rfl,h1];simp)]
   refine Gc ?_
   refine Gs ?_
   refine bp rfl h0 fun fE oo=> ?_
   refine ae (aU (v:= .agg (bo fE)) rfl rfl) ?_
   refine ae (aU (v:= .int .i64 ((gx (cv c)).2)) rfl rfl) ?_
   iterate 2 refine Gs ?_
   refine Gc ?_
   refine an (.inl rfl) (aZ rfl (bG rfl) (al rfl)) (fun w1 hw=> ?_)
   exact⟨fE,by rw[hE],by rw[hE];exact oo,ah.mem hw⟩
instance aga{w0:World}{L:List aj}{c:Cp}[hc:aS w0 L c]:bW Tryz.prog 13 w0 L [.agg (aB c)] (bI) (fun zz=> .tuple #[.agg (bo zz), .int .i64 ((bq (cv c)).2)]) (fun zz=>own bf 1 zz.at_.sv zz.at_.xs::L) (fun zz=>vv zz=(bq (cv c)).1∧(zz.ai=c∨zz.ai=ep)) (True):=⟨fun hp w hw=>(Wv w c (hc.h w hw)).mono fun e w' ⟨x,h1,h2,h3⟩=>⟨x,h1,h2,hw.call h3⟩⟩
theorem Ww(w:World)(v:bI)(hv:Deep.bk (hp w) v):Calls Tryz.prog 18 #[.agg (bo v)] w fun e w'=>e= .returned (.bool (gJ (vv v)))∧Mem w [] w':=by
 have ur:bT w v:=⟨hv⟩
 refine aW (args:=[_]) Tryz.func18 rfl Tryz.ntmps18 rfl ?_
 change Cw _ _ _ _ _ [(0, .agg (bo v))] []
 refine Gc ?_
 refine bL rfl fun b1=> ?_
 refine Gs ?_
 refine Gc ?_
 refine Gs ?_
 refine ae (eE rfl) ?_
 iterate 2 refine Gs ?_
 refine Gc ?_
 refine aq rfl (fun h0=> ?_) (fun h0=> ?_)
 ·
  replace h0:=bz h0
  have hE:gJ (vv v)=false:=by rw[IP,show iH (vv v).ai=false from h0];rfl
  refine Gc ?_
  refine Gs ?_
  refine Gc ?_
  refine an (.inl rfl) (aK rfl (al rfl)) (fun w1 hw=> ?_)
  exact⟨congrArg (fun b=>Ending.returned (Value.bool b)) (hE.symm),ah.mem hw⟩
 ·
  replace h0:=bz h0
  refine Gc ?_
  refine Gs ?_
  refine ae (eE rfl) ?_
  refine bp rfl h0 fun fE oo=> ?_
  have Ej:fE.gen.toNat=(gx (cv v.ai)).1.gen:=congrArg VV.gen oo.1
  have v7:fE.last=(gx (cv v.ai)).1.last:=congrArg VV.last oo.1
  have Ek:fE.at_.xs=(gx (cv v.ai)).1.at_:=congrArg VV.at_ oo.1
  have hE:gJ (vv v)=(decide ((gx (cv v.ai)).2=0)&&decide (v.at_.xs=fE.at_.xs)&&decide (v.gen.toNat=fE.gen.toNat)&&decide (v.last=fE.last)):=by rw[IP,show iH (vv v).ai=true from h0,Ej,v7,Ek];rfl
  refine Gs ?_
  refine ae (aU (v:= .agg (bo fE)) rfl rfl) ?_
  refine ae (aU (v:= .int .i64 ((gx (cv v.ai)).2)) rfl rfl) ?_
  refine bx fun b3=> ?_
  iterate 2 refine Gs ?_
  refine Gc ?_
  iterate 3 refine Gs ?_
  iterate 4 refine Gg ?_
  refine dG rfl rfl rfl (fun hg=>bX (cg (av hg rfl) (cg (av hg rfl) dO)) trivial) ?_
  iterate 2 refine Gs ?_
  iterate 5 refine Gg ?_
  iterate 2 refine Gs ?_
  iterate 5 refine Gg ?_
  iterate 2 refine Gs ?_
  refine Gc ?_
  refine an (.inl rfl) (aK rfl (al rfl)) (fun w1 hw=> ?_)
  exact⟨congrArg (fun b=>Ending.returned (Value.bool b)) ((by rw[hE,show decide (((v.gen.toNat:Nat):Int)=((fE.gen.toNat:Nat):Int))=decide (v.gen.toNat=fE.gen.toNat)from decide_eq_decide.2 (by omega)])),ah.mem hw⟩
instance agb{w0:World}{L:List aj}{v:bI}[hv:aS w0 L v]:bU Tryz.prog 18 w0 L [.agg (bo v)] (.bool (gJ (vv v))) (True):=⟨fun hp w hw=>Ww w v (hv.h w hw)⟩
theorem Wx(w:World)(v:bI)(id:Int)(hv:Deep.bk (hp w) v):Calls Tryz.prog 16 #[.agg (bo v), .int .i64 id] w fun e w'=> ∃zz:dk,e= .returned (.tuple #[zz.body.sv.val, .int .i64 ((l4 (vv v) id).2)])∧(zz.body.xs=(l4 (vv v) id).1∧(zz=gF∨ ∃B z,B∈v.ai.blocks.xs∧z∈B.ag.xs∧zz=dw z.sv z.xs))∧Mem w [] w':=by
 have ur:bT w v:=⟨hv⟩
 refine aW (args:=[_,_]) Tryz.func16 rfl Tryz.ntmps16 rfl ?_
 change Cw _ _ _ _ _ [(0, .agg (bo v)),(1, .int .i64 id)] []
 refine Gc ?_
 refine bL rfl fun b2=> ?_
 iterate 2 refine Gs ?_
 refine Gc ?_
 iterate 4 refine Gs ?_
 iterate 2 refine Gg ?_
 iterate 2 refine Gs ?_
 iterate 5 refine Gg ?_
 refine Gs ?_
 refine Gc ?_
 refine aq rfl (fun h0=> ?_) (fun h0=> ?_)
 ·
  replace h0:=bz h0
  have hE:(l4 (vv v) id)=([],1):=by
   rw[l4,if_pos]
   rintro⟨a1,a2,a3⟩
   rw[a1]at h0
   simp only[Bool.true_eq_false,false_or]at h0
   simp only[vv]at a3
   omega
  refine Gc ?_
  iterate 2 refine Gs ?_
  refine Gc ?_
  refine an (.inl rfl) (aZ rfl (al rfl) (al rfl)) (fun w1 hw=> ?_)
  exact⟨(gF),by rw[hE];rfl,⟨by rw[hE];rfl, .inl rfl⟩,ah.mem hw⟩
 ·
  replace h0:=bz h0
  have hq:gJ (vv v)=true∧0≤id∧id<v.at_.xs.length:=⟨h0.1.1,by omega,by omega⟩
  have rh: ¬ ¬(gJ (vv v)=true∧0≤id∧id<(vv v).at_.length):=fun h=>h hq
  refine Gc ?_
  iterate 3 refine Gs ?_
  refine Gc ?_
  refine aq rfl (fun h1=> ?_) (fun h1=> ?_)
  ·
   replace h1:=bz h1
   have hE:(l4 (vv v) id)=([],7):=by rw[l4,if_neg rh,if_pos (show(vv v).ai.off=true from h1)]
   refine Gc ?_
   iterate 2 refine Gs ?_
   refine Gc ?_
   refine an (.inl rfl) (aZ rfl (al rfl) (al rfl)) (fun w1 hw=> ?_)
   exact⟨(gF),by rw[hE];rfl,⟨by rw[hE];rfl, .inl rfl⟩,ah.mem hw⟩
  ·
   replace h1:=bz h1
   have lI: ¬(vv v).ai.off=true:=by rw[show(vv v).ai.off=v.ai.off from rfl,h1];simp
   obtain⟨y,hy⟩:=get_some (xs:=v.at_.xs) (i:=id.toNat) (by omega)
   have iA:(vv v).at_.getD id.toNat 0=y:=oW hy
   refine Gc ?_
   iterate 3 refine Gs ?_
   refine ae (aX rfl rfl id.toNat (by omega) (by omega)) ?_
   refine ae (bn (j:=0) rfl id.toNat hy rfl (by decide)) ?_
   refine Gs ?_
   refine Gc ?_
   refine aq rfl (fun h2=> ?_) (fun h2=> ?_)
   ·
    replace h2:=bz h2
    have hE:(l4 (vv v) id)=([],6):=by rw[l4,if_neg rh,if_neg lI,iA,if_pos h2]
    refine Gc ?_
    iterate 2 refine Gs ?_
    refine Gc ?_
    refine an (.inl rfl) (aZ rfl (al rfl) (al rfl)) (fun w1 hw=> ?_)
    exact⟨(gF),by rw[hE];rfl,⟨by rw[hE];rfl, .inl rfl⟩,ah.mem hw⟩
   ·
    replace h2:=bz h2
    have nj:=C7 hq.1 hy h2
    have KO:=vz hq.1
    have fB:=ik.1 (dE.1 KO.1).1
    have cO:(cv v.ai).blocks.length=v.ai.blocks.xs.length:=dH _
    obtain⟨g1,g2,g3⟩:=tV.1 nj.2.2
    change 2≤((y -1)/v.ai.ag)at g1
    change((y -1)/v.ai.ag)<((cv v.ai).blocks.length:Int)at g2
    rw[cO]at g2
    obtain⟨Bk,qt⟩:=get_some (xs:=v.ai.blocks.xs) (i:=((y -1)/v.ai.ag).toNat) (by omega)
    have KK:Mb Bk v.ai.blocks:=⟨List.mem_of_getElem? qt⟩
    have dx:=na qt
    have eu:=(eM.1 ((dE.1 KO.1).2.2.2.2 (bv Bk) (List.mem_of_getElem? (fK qt)))).1
    have sE:=fk Bk.ag.xs
    simp only[bv]at eu
    change _=v.ai.ag at eu
    simp only[vv,cv]at fB
    have mL:0≤((y -1)%v.ai.ag):=Int.emod_nonneg _ (by omega)
    have sL:((y -1)%v.ai.ag)<v.ai.ag:=Int.emod_lt_of_pos _ (by omega)
    obtain⟨z,hz⟩:=get_some (xs:=Bk.ag.xs) (i:=((y -1)%v.ai.ag).toNat) (by omega)
    have n5:Mb z Bk.ag:=⟨List.mem_of_getElem? hz⟩
    have Fa:r9 (cv v.ai) (y -1)=z.xs:=by
     show(aO (cv v.ai) ((y -1)/v.ai.ag)).ag.getD ((y -1)%v.ai.ag).toNat []=z.xs
     rw[dx]
     simp[bv,List.getD,ib hz]
    have lu:(dw z.sv z.xs).body.xs=(bm z.xs).1.body:=congrArg PV.body (DA z.sv z.xs)
    have hE:(l4 (vv v) id)=((dw z.sv z.xs).body.xs,0):=by
     rw[l4,if_neg rh,if_neg lI,if_neg (by rw[iA];exact h2),iA,jI,show(vv v).ai=cv v.ai from rfl,Fa,lu]
     split
     ·
      rfl
     ·
      rename_i h;rw[IL h];rfl
    refine Gc ?_
    iterate 3 refine Gs ?_
    refine ae (aX rfl rfl id.toNat (by omega) (by omega)) ?_
    refine ae (bn (j:=0) rfl id.toNat hy rfl (by decide)) ?_
    iterate 2 refine Gs ?_
    refine Gc ?_
    refine fw [22,23] [[],[],[],[],[],[],[],[],[],[],[],[],[],[],[],[],[],[],[],[],[],[],[],[22],[22,23]] [0,1,2,3,4,5,6,7,8,9,10,11,12,13,14,15,16,17,18,19,20,21,22,23,24] [ar b2 (bo v) 29] (fun _ hw=>ah.mem hw) (by kernel_rfl) (by kernel_rfl) ?_
    refine ak rfl (aA (o':=0) rfl rfl) ?_
    refine ak rfl (aA (o':=2) rfl rfl) ?_
    refine ak rfl (bl rfl) ?_
    refine ak rfl (au rfl) ?_
    refine ak rfl (aA (o':=0) rfl rfl) ?_
    refine ak rfl (aA (o':=0) rfl rfl) ?_
    refine ak rfl (bl rfl) ?_
    refine ak rfl (gV rfl rfl (by omega) (by omega)) ?_
    refine ak rfl (aX rfl rfl (((y -1)/v.ai.ag).toNat) (by omega) (by omega)) ?_
    refine ak rfl (aA rfl rfl) ?_
    refine ak rfl (bn (j:=0) rfl (((y -1)/v.ai.ag).toNat) qt rfl (by decide)) ?_
    refine ak rfl (au rfl) ?_
    refine ak rfl (aA (o':=0) rfl rfl) ?_
    refine ak rfl (aA (o':=0) rfl rfl) ?_
    refine ak rfl (bl rfl) ?_
    refine ak rfl (ox rfl rfl (by omega) (by omega)) ?_
    refine ak rfl (aX rfl rfl (((y -1)%v.ai.ag).toNat) (by omega) (by omega)) ?_
    refine ak rfl (bn (j:=0) rfl (((y -1)%v.ai.ag).toNat) hz rfl (by decide)) ?_
    refine nM rfl (bX rfl trivial) ?_
    refine ak rfl (au rfl) ?_
    refine ak rfl (aU (v:= .agg (bZ (dw z.sv z.xs))) rfl rfl) ?_
    refine ak rfl (aU (v:= .int .i64 ((bm z.xs).2)) rfl rfl) ?_
    refine cK rfl (zu fun b7=>⟨fun _ hw=>ah.mem hw,?_⟩)
    refine cK rfl (km rfl rfl ⟨fun _ hw=>ah.mem hw,?_⟩)
    refine ak rfl (aP rfl) ?_
    refine Gc ?_
    iterate 4 refine Gs ?_
    refine Gc ?_
    refine an (.inl rfl) (aZ rfl (al rfl) (al rfl)) (fun w1 hw=> ?_)
    exact⟨(dw z.sv z.xs),by rw[hE],⟨by rw[hE], .inr ⟨Bk,z,KK.h,n5.h,rfl⟩⟩,ah.mem hw⟩
instance agc{w0:World}{L:List aj}{v:bI}{id:Int}[hv:aS w0 L v]:bW Tryz.prog 16 w0 L [.agg (bo v), .int .i64 id] (dk) (fun zz=> .tuple #[zz.body.sv.val, .int .i64 ((l4 (vv v) id).2)]) (fun zz=>L) (fun zz=>zz.body.xs=(l4 (vv v) id).1∧(zz=gF∨ ∃B z,B∈v.ai.blocks.xs∧z∈B.ag.xs∧zz=dw z.sv z.xs)) (True):=⟨fun hp w hw=>(Wx w v id (hv.h w hw)).mono fun e w' ⟨x,h1,h2,h3⟩=>⟨x,h1,h2,hw.call h3⟩⟩
theorem Wz(w:World)(a:bI)(d:bI)(ha:Deep.bk (hp w) a)(hd:Deep.bk (hp w) d):Calls Tryz.prog 14 #[.agg (bo a), .agg (bo d)] w fun e w'=>e= .returned (.bool (decide (vv a=vv d)))∧Mem w [] w':=by
 have uq:bT w a:=⟨ha⟩
 have D7:bT w d:=⟨hd⟩
 refine aW (args:=[_,_]) Tryz.func14 rfl Tryz.ntmps14 rfl ?_
 change Cw _ _ _ _ _ [(0, .agg (bo a)),(1, .agg (bo d))] []
 refine Gc ?_
 refine bL rfl fun b2=> ?_
 refine bL rfl fun b3=> ?_
 refine Gs ?_
 refine Gc ?_
 refine Gs ?_
 refine ae (eE rfl) ?_
 refine Gs ?_
 refine ae (eE rfl) ?_
 iterate 2 refine Gs ?_
 iterate 4 refine Gg ?_
 refine dG rfl rfl rfl (fun hg=>bX (cg (av hg rfl) (cg (av hg rfl) dO)) trivial) ?_
 iterate 2 refine Gs ?_
 iterate 5 refine Gg ?_
 iterate 2 refine Gs ?_
 iterate 5 refine Gg ?_
 iterate 2 refine Gs ?_
 refine Gc ?_
 refine an (.inl rfl) (aK rfl (al rfl)) (fun w1 hw=> ?_)
 exact⟨congrArg (fun b=>Ending.returned (Value.bool b)) ((by
  rw[show decide (((a.gen.toNat:Nat):Int)=((d.gen.toNat:Nat):Int))=decide (a.gen.toNat=d.gen.toNat)from decide_eq_decide.2 (by omega),Bool.eq_iff_iff]
  simp only[Bool.and_eq_true,decide_eq_true_eq]
  rw[PH,and_assoc,and_assoc];rfl)),ah.mem hw⟩
instance agd{w0:World}{L:List aj}{a:bI}{d:bI}[ha:aS w0 L a][hd:aS w0 L d]:bU Tryz.prog 14 w0 L [.agg (bo a), .agg (bo d)] (.bool (decide (vv a=vv d))) (True):=⟨fun hp w hw=>Wz w a d (ha.h w hw) (hd.h w hw)⟩
open Go.aL Go.Kb
open Go.RowKit
theorem WA(n s:Int)(b:Sv)(xs:List Bk)(w:World):(Instr.build 25 #[(0, .int .i64 n),(1, .int .i64 s),(2,b.val)]).run Tryz.prog w= .ok (.agg (aB ⟨n,s,⟨b,xs⟩,0,false,⟨Sv.none,[]⟩⟩)) w:=by
 unfold aB
 obtain⟨e,b,o,l,c,p⟩:=b
 cases e<;>kernel_rfl
theorem WB(w:World)(b:Int)(n:Int)(s:Int):Calls Tryz.prog 31 #[.int .i64 b, .int .i64 n, .int .i64 s] w fun e w'=> ∃zz:Cp,e= .returned (.tuple #[.agg (aB zz), .int .i64 ((oR b n s).2)])∧(cv zz=(oR b n s).1)∧Mem w [fz zz] w':=by
 refine aW (args:=[_,_,_]) Tryz.func31 rfl Tryz.ntmps31 rfl ?_
 change Cw _ _ _ _ _ [(0, .int .i64 b),(1, .int .i64 n),(2, .int .i64 s)] []
 refine Gc ?_
 refine bx fun b6=> ?_
 refine Gs ?_
 refine Gc ?_
 iterate 5 refine Gs ?_
 refine Gc ?_
 refine aq rfl (fun h0=> ?_) (fun h0=> ?_)
 ·
  replace h0:=bz h0
  have hN:oR b n s=(⟨0,0,[],0,false,[]⟩,1):=by rw[oR,if_neg (by rw[h0];simp)]
  refine Gc ?_
  refine ae (bV (v:= .agg (aB ep)) rfl (fun w=>by kernel_rfl)) ?_
  iterate 2 refine Gs ?_
  refine Gc ?_
  refine an (.inl rfl) (aZ rfl (bG rfl) (al rfl)) (fun w1 hw=> ?_)
  exact⟨ep,by rw[hN],by rw[hN];rfl,HA (d:=ep) rfl (show Mem w [own bN 4 Sv.none [],aj.all []] _ from ah.mem (Mem.tM (Mem.cz bN 4 (ah.mem hw:Mem w [] _))))⟩
 ·
  replace h0:=bz h0
  have fB:=ik.1 h0
  have hN:oR b n s=(⟨n,s,List.replicate b.toNat (⟨List.replicate n.toNat (gE s),0,0,false⟩:BV),0,false,[]⟩,0):=by rw[oR,if_pos h0]
  refine Gc ?_
  iterate 3 refine Gs ?_
  refine rJ (enc:=bN) (n:=b.toNat) (cap:=b.toNat) k6 rfl rfl rfl (by omega) (by omega) (by omega) (by omega) (by omega) fun gz=> ?_
  refine ae (bV (v:= .agg (aB (⟨n,s,⟨⟨false,gz,0,b.toNat,b.toNat,none⟩,[]⟩,0,false,⟨Sv.none,[]⟩⟩:Cp))) rfl (WA n s ⟨false,gz,0,b.toNat,b.toNat,none⟩ [])) ?_
  refine bx fun b8=> ?_
  refine Gs ?_
  refine Gc ?_
  iterate 2 refine Gs ?_
  refine Gc ?_
  refine bK (X:=Nat×List Bk) (fun zz=>[(23, .int .i64 (zz.1:Nat)),(8, .pointer (some ⟨b8,0,none⟩)),(1, .int .i64 n),(2, .int .i64 s),(6, .pointer (some ⟨b6,0,none⟩)),(22, .int .i64 b)]) (fun zz=>[own bN 4 ⟨false,gz,0,b.toNat,b.toNat,none⟩ zz.2,aj.all ((zz.2.take zz.1).map fun b:Bk=>fz b.ag),ar b8 (aB (⟨n,s,⟨⟨false,gz,0,b.toNat,b.toNat,none⟩,[]⟩,0,false,⟨Sv.none,[]⟩⟩:Cp)) 25,ar b6 (aB ep) 25]) (fun zz=>zz.1≤b.toNat∧zz.2.length=b.toNat∧(zz.2.take zz.1).map bv=List.replicate zz.1 (⟨List.replicate n.toNat (gE s),0,0,false⟩:BV)∧ ∀j,zz.1≤j→j<b.toNat→zz.2[j]? =Option.some k6) (fun zz=>b.toNat -zz.1) (0,List.replicate b.toNat k6) ⟨Nat.zero_le _,by simp,by simp,fun j _ hj=>by simp[hj]⟩ (Sub.cons rfl (Sub.cons rfl (Sub.cons rfl (Sub.cons rfl (Sub.cons rfl (Sub.cons rfl (Sub.nil _))))))) (fun w hw=>by
   simp only[List.take_zero,List.map_nil];exact ah.mem (Mem.tM hw)) ?_
  rintro⟨i,zs⟩ ⟨bb,aH,bu,cJ⟩
  dsimp only
  simp only at bb aH bu cJ
  refine Gc ?_
  refine Gs ?_
  refine Gc ?_
  refine aq rfl (fun h1=> ?_) (fun h1=> ?_)
  ·
   replace h1:=bz h1
   obtain⟨z,hz⟩:=get_some (xs:=zs) (i:=i) (by omega)
   obtain rfl:z=k6:=Option.some.inj (hz.symm.trans (cJ i (Nat.le_refl _) (by omega)))
   have WC:=zT (b:=gz) (n:=b.toNat) (by omega)
   refine Gc ?_
   iterate 2 refine Gs ?_
   refine Gc ?_
   refine fw [4,7] [[],[],[],[],[],[4],[4],[4]] [0,1,2,3,4,5,6,7] [ar b8 (aB (⟨n,s,⟨⟨false,gz,0,b.toNat,b.toNat,none⟩,[]⟩,0,false,⟨Sv.none,[]⟩⟩:Cp)) 25] (fun _ hw=>ah.mem hw) (by kernel_rfl) (by kernel_rfl) ?_
   refine ak rfl (aA (o':=2) rfl rfl) ?_
   refine ak rfl (bl rfl) ?_
   refine ak rfl (au rfl) ?_
   refine ak rfl (au rfl) ?_
   refine cK rfl (GQ (enc:=bP (τ:=UInt8)) (n:=n.toNat) (cap:=n.toNat) (⟨Sv.none,[]⟩:Sl UInt8) rfl rfl rfl (by omega) (by omega) (by omega) (by omega) (by omega) fun eY=>⟨fun _ hw=>ah.mem hw,?_⟩)
   obtain⟨e31,age⟩:=get_some (xs:=zs) (i:=i) (by omega)
   refine ak rfl (jk (s:=⟨false,gz,0,b.toNat,b.toNat,none⟩) (i:=i) rfl rfl rfl WC (by simp only;omega)) ?_
   refine ak rfl (aA rfl rfl) ?_
   refine cK rfl (tJ (s:=⟨false,gz,0,b.toNat,b.toNat,none⟩) (n:=1) (k:=i) (j:=0) (a:=k6) (a':=⟨⟨⟨false,eY,0,n.toNat,n.toNat,none⟩,[]⟩,0,0,false⟩) (xs:=zs) (enc:=bN) (c:=4) (v:=(⟨false,eY,0,n.toNat,n.toNat,none⟩:Sv).val) (by kernel_rfl) rfl rfl rfl hz (by rw[Sv.hQ];simp[Sv.one]) (by rw[Sv.hQ];rfl) (by decide) (by rw[Sv.hQ];rfl) ⟨fun _ hw=>ah.mem hw,?_⟩)
   iterate 3 refine Gi ?_
   have KP:(zs.set i ⟨⟨⟨false,eY,0,n.toNat,n.toNat,none⟩,[]⟩,0,0,false⟩)[i]? =Option.some (⟨⟨⟨false,eY,0,n.toNat,n.toNat,none⟩,[]⟩,0,0,false⟩:Bk):=List.getElem?_set_self (by omega)
   have ui:(zs.set i ⟨⟨⟨false,eY,0,n.toNat,n.toNat,none⟩,[]⟩,0,0,false⟩).length=b.toNat:=by rw[List.length_set];exact aH
   refine Gi ?_
   iterate 2 refine Gs ?_
   refine Gc ?_
   refine bK (X:=Nat×List (Sl UInt8)) (fun zz=>[(34, .int .i64 (zz.1:Nat)),(8, .pointer (some ⟨b8,0,none⟩)),(1, .int .i64 n),(2, .int .i64 s),(6, .pointer (some ⟨b6,0,none⟩)),(9, .int .i64 (i:Nat)),(22, .int .i64 b),(23, .int .i64 (i:Nat)),(33, .int .i64 n)]) (fun zz=>[own (bP (τ:=UInt8)) 1 ⟨false,eY,0,n.toNat,n.toNat,none⟩ zz.2,aj.all ((zz.2.take zz.1).map fun b:Sl UInt8=>fz b),own bN 4 ⟨false,gz,0,b.toNat,b.toNat,none⟩ (zs.set i ⟨⟨⟨false,eY,0,n.toNat,n.toNat,none⟩,[]⟩,0,0,false⟩),aj.all ((zs.take i).map fun b:Bk=>fz b.ag),ar b8 (aB (⟨n,s,⟨⟨false,gz,0,b.toNat,b.toNat,none⟩,[]⟩,0,false,⟨Sv.none,[]⟩⟩:Cp)) 25,ar b6 (aB ep) 25]) (fun zz=>zz.1≤n.toNat∧zz.2.length=n.toNat∧aE (zz.2.take zz.1)=List.replicate zz.1 (gE s)) (fun zz=>n.toNat -zz.1) (0,List.replicate n.toNat ⟨Sv.none,[]⟩) ⟨Nat.zero_le _,by simp,by simp[aE]⟩ (Sub.cons rfl (Sub.cons rfl (Sub.cons rfl (Sub.cons rfl (Sub.cons rfl (Sub.cons rfl (Sub.cons rfl (Sub.cons rfl (Sub.cons rfl (Sub.nil _)))))))))) (fun w hw=>by
    simp only[List.take_zero,List.map_nil]
    exact ah.mem (Mem.tM hw)) ?_
   rintro⟨j,qs⟩ ⟨jA,db,gM⟩
   dsimp only
   simp only at jA db gM
   refine Gc ?_
   refine Gs ?_
   refine Gc ?_
   refine aq rfl (fun h2=> ?_) (fun h2=> ?_)
   ·
    replace h2:=bz h2
    obtain⟨y,hy⟩:=get_some (xs:=qs) (i:=j) (by omega)
    have WD:=zT (b:=eY) (n:=n.toNat) (by omega)
    refine Gc ?_
    iterate 2 refine Gs ?_
    refine Gc ?_
    refine fw [8,10] [[],[],[],[],[],[],[],[],[],[8],[8]] [0,1,2,3,4,5,6,7,8,9,10] [ar b8 (aB (⟨n,s,⟨⟨false,gz,0,b.toNat,b.toNat,none⟩,[]⟩,0,false,⟨Sv.none,[]⟩⟩:Cp)) 25,own bN 4 ⟨false,gz,0,b.toNat,b.toNat,none⟩ (zs.set i ⟨⟨⟨false,eY,0,n.toNat,n.toNat,none⟩,[]⟩,0,0,false⟩)] (fun _ hw=>ah.mem hw) (by kernel_rfl) (by kernel_rfl) ?_
    refine ak rfl (aA (o':=2) rfl rfl) ?_
    refine ak rfl (bl rfl) ?_
    refine ak rfl (au rfl) ?_
    obtain⟨Vr,Vs⟩:=get_some (xs:=(zs.set i ⟨⟨⟨false,eY,0,n.toNat,n.toNat,none⟩,[]⟩,0,0,false⟩)) (i:=i) (by omega)
    refine ak rfl (aX (s:=⟨false,gz,0,b.toNat,b.toNat,none⟩) (xs:=(zs.set i ⟨⟨⟨false,eY,0,n.toNat,n.toNat,none⟩,[]⟩,0,0,false⟩)) rfl rfl i rfl (by omega)) ?_
    refine ak rfl (aA rfl rfl) ?_
    refine ak rfl (Ry.to (v':=(⟨false,eY,0,n.toNat,n.toNat,none⟩:Sv).val) (bn (s:=⟨false,gz,0,b.toNat,b.toNat,none⟩) (j:=0) rfl i KP rfl (by decide)) rfl) ?_
    refine ak rfl (au rfl) ?_
    refine ak rfl (au rfl) ?_
    refine cK rfl (GQ (enc:=aJ) (n:=s.toNat) (cap:=s.toNat) 0 rfl rfl rfl (by omega) (by omega) (by omega) (by omega) (by omega) fun ou=>⟨fun _ hw=>ah.mem hw,?_⟩)
    obtain⟨e46,agf⟩:=get_some (xs:=qs) (i:=j) (by omega)
    refine ak rfl (jk (s:=⟨false,eY,0,n.toNat,n.toNat,none⟩) (i:=j) rfl rfl rfl WD (by simp only;omega)) ?_
    refine cK rfl (Ng (s:=⟨false,eY,0,n.toNat,n.toNat,none⟩) (xs:=qs) (k:=j) (a:=y) (⟨⟨false,ou,0,s.toNat,s.toNat,none⟩,gE s⟩:Sl UInt8) (by kernel_rfl) rfl rfl (by omega) hy ⟨fun _ hw=>ah.mem hw,?_⟩)
    refine Gc ?_
    iterate 3 refine Gs ?_
    obtain⟨e50,agh⟩:=get_some (xs:=(zs.set i ⟨⟨⟨false,eY,0,n.toNat,n.toNat,none⟩,[]⟩,0,0,false⟩)) (i:=i) (by omega)
    refine ae (aX (s:=⟨false,gz,0,b.toNat,b.toNat,none⟩) (xs:=(zs.set i ⟨⟨⟨false,eY,0,n.toNat,n.toNat,none⟩,[]⟩,0,0,false⟩)) rfl rfl i rfl (by omega)) ?_
    refine ae (aA rfl rfl) ?_
    refine ae (Ry.to (v':=(⟨false,eY,0,n.toNat,n.toNat,none⟩:Sv).val) (bn (s:=⟨false,gz,0,b.toNat,b.toNat,none⟩) (j:=0) rfl i KP rfl (by decide)) rfl) ?_
    refine Gs ?_
    refine ae (aX rfl rfl j rfl (by rw[List.length_set];omega)) ?_
    refine ae (Ry.to (v':= .slice (some ⟨(⟨false,ou,0,s.toNat,s.toNat,none⟩:Sv).b,(⟨false,ou,0,s.toNat,s.toNat,none⟩:Sv).o+0,none⟩) s.toNat s.toNat) (bn (s:=⟨false,eY,0,n.toNat,n.toNat,none⟩) (xs:=qs.set j (⟨⟨false,ou,0,s.toNat,s.toNat,none⟩,gE s⟩:Sl UInt8)) (j:=0) rfl j (List.getElem?_set_self (by omega)) rfl (by decide)) rfl) ?_
    refine bp (hc:=Rf (rm:=⟨false,ou,0,s.toNat,s.toNat,none⟩) (k:=0) (n:=s.toNat) (cap:=s.toNat) (xs:=List.replicate s.toNat 0)) rfl ⟨by simp,by omega⟩ fun nx wj=> ?_
    refine Gc ?_
    iterate 2 refine Gs ?_
    refine Gi ?_
    exact bh (x:=(j,qs)) (j+1,qs.set j (⟨⟨false,ou,0,s.toNat,s.toNat,none⟩,gE s⟩:Sl UInt8)) ⟨by first|omega|(simp only[];omega),by rw[List.length_set];exact db,by rw[aE,zS hy,←aE,gM,List.replicate_succ']⟩ (by simp only;omega) (Sub.cons rfl (Sub.cons rfl (Sub.cons rfl (Sub.cons rfl (Sub.cons rfl (Sub.cons rfl (Sub.cons rfl (Sub.cons rfl (Sub.cons rfl (Sub.nil _)))))))))) (fun w hw=>by
     have h1:=CH (a:=(⟨⟨false,ou,0,s.toNat,s.toNat,none⟩,gE s⟩:Sl UInt8)) (by
      simp only[List.take_zero,List.nil_append,Nat.zero_add,List.drop_replicate,Nat.sub_self,List.replicate_zero,List.append_nil]at hw
      exact(ah.mem hw:Mem _ (own aJ 1 ⟨false,ou,0,s.toNat,s.toNat,none⟩ (List.replicate s.toNat 255)::[own (bP (τ:=UInt8)) 1 ⟨false,eY,0,n.toNat,n.toNat,none⟩ (qs.set j (⟨⟨false,ou,0,s.toNat,s.toNat,none⟩,gE s⟩:Sl UInt8)),aj.all ((qs.take j).map fun b:Sl UInt8=>fz b),own bN 4 ⟨false,gz,0,b.toNat,b.toNat,none⟩ (zs.set i ⟨⟨⟨false,eY,0,n.toNat,n.toNat,none⟩,[]⟩,0,0,false⟩),aj.all ((zs.take i).map fun b:Bk=>fz b.ag),ar b8 (aB (⟨n,s,⟨⟨false,gz,0,b.toNat,b.toNat,none⟩,[]⟩,0,false,⟨Sv.none,[]⟩⟩:Cp)) 25,ar b6 (aB ep) 25]) _))
     have h3:=Mem.vm (ah.mem h1:Mem _ (fz (⟨⟨false,ou,0,s.toNat,s.toNat,none⟩,gE s⟩:Sl UInt8)::aj.all ((qs.take j).map fun b:Sl UInt8=>fz b)::[own (bP (τ:=UInt8)) 1 ⟨false,eY,0,n.toNat,n.toNat,none⟩ (qs.set j (⟨⟨false,ou,0,s.toNat,s.toNat,none⟩,gE s⟩:Sl UInt8)),own bN 4 ⟨false,gz,0,b.toNat,b.toNat,none⟩ (zs.set i ⟨⟨⟨false,eY,0,n.toNat,n.toNat,none⟩,[]⟩,0,0,false⟩),aj.all ((zs.take i).map fun b:Bk=>fz b.ag),ar b8 (aB (⟨n,s,⟨⟨false,gz,0,b.toNat,b.toNat,none⟩,[]⟩,0,false,⟨Sv.none,[]⟩⟩:Cp)) 25,ar b6 (aB ep) 25]) _)
     rw[CR (z':=(⟨⟨false,ou,0,s.toNat,s.toNat,none⟩,gE s⟩:Sl UInt8)) hy]at h3
     exact ah.mem h3)
   ·
    replace h2:=bz h2
    have ry:j=n.toNat:=by omega
    have iR:j=qs.length:=by omega
    rw[List.take_of_length_le (by omega)]at gM
    refine Gc ?_
    iterate 2 refine Gs ?_
    refine Gi ?_
    exact bh (x:=(i,zs)) (i+1,zs.set i (⟨⟨⟨false,eY,0,n.toNat,n.toNat,none⟩,qs⟩,0,0,false⟩:Bk)) ⟨by first|omega|(simp only[];omega),by rw[List.length_set];exact aH,by rw[zS hz,bu,List.replicate_succ',show bv (⟨⟨⟨false,eY,0,n.toNat,n.toNat,none⟩,qs⟩,0,0,false⟩:Bk)=(⟨List.replicate n.toNat (gE s),0,0,false⟩:BV) by rw[bv,gM,ry]],fun k hk rI=>by rw[List.getElem?_set_ne (by first|omega|(simp only[];omega))];exact cJ k (by first|omega|(simp only[];omega)) rI⟩ (by simp only;omega) (Sub.cons rfl (Sub.cons rfl (Sub.cons rfl (Sub.cons rfl (Sub.cons rfl (Sub.cons rfl (Sub.nil _))))))) (fun w hw=>by
     rw[List.take_of_length_le (by omega)]at hw
     have h1:=CQ (ah.mem hw:Mem _ (own (bP (τ:=UInt8)) 1 ⟨false,eY,0,n.toNat,n.toNat,none⟩ qs::aj.all (qs.map fun b:Sl UInt8=>fz b)::[own bN 4 ⟨false,gz,0,b.toNat,b.toNat,none⟩ (zs.set i ⟨⟨⟨false,eY,0,n.toNat,n.toNat,none⟩,[]⟩,0,0,false⟩),aj.all ((zs.take i).map fun b:Bk=>fz b.ag),ar b8 (aB (⟨n,s,⟨⟨false,gz,0,b.toNat,b.toNat,none⟩,[]⟩,0,false,⟨Sv.none,[]⟩⟩:Cp)) 25,ar b6 (aB ep) 25]) _)
     have h2:=CJ (ys:=zs.set i (⟨⟨⟨false,eY,0,n.toNat,n.toNat,none⟩,qs⟩,0,0,false⟩:Bk)) (by rw[List.map_set,List.map_set];rfl) (ah.mem h1:Mem _ (own bN 4 ⟨false,gz,0,b.toNat,b.toNat,none⟩ (zs.set i ⟨⟨⟨false,eY,0,n.toNat,n.toNat,none⟩,[]⟩,0,0,false⟩)::[fz (⟨⟨false,eY,0,n.toNat,n.toNat,none⟩,qs⟩:Sl (Sl UInt8)),aj.all ((zs.take i).map fun b:Bk=>fz b.ag),ar b8 (aB (⟨n,s,⟨⟨false,gz,0,b.toNat,b.toNat,none⟩,[]⟩,0,false,⟨Sv.none,[]⟩⟩:Cp)) 25,ar b6 (aB ep) 25]) _)
     have h3:=Mem.vm (ah.mem h2:Mem _ (fz (⟨⟨false,eY,0,n.toNat,n.toNat,none⟩,qs⟩:Sl (Sl UInt8))::aj.all ((zs.take i).map fun b:Bk=>fz b.ag)::[own bN 4 ⟨false,gz,0,b.toNat,b.toNat,none⟩ (zs.set i (⟨⟨⟨false,eY,0,n.toNat,n.toNat,none⟩,qs⟩,0,0,false⟩:Bk)),ar b8 (aB (⟨n,s,⟨⟨false,gz,0,b.toNat,b.toNat,none⟩,[]⟩,0,false,⟨Sv.none,[]⟩⟩:Cp)) 25,ar b6 (aB ep) 25]) _)
     rw[HB (z':=(⟨⟨⟨false,eY,0,n.toNat,n.toNat,none⟩,qs⟩,0,0,false⟩:Bk)) hz]at h3
     exact ah.mem h3)
  ·
   replace h1:=bz h1
   obtain rfl:i=zs.length:=by omega
   rw[List.take_length]at bu
   refine Gc ?_
   iterate 3 refine Gs ?_
   refine Gc ?_
   refine an (.inl rfl) (aZ rfl (bG rfl) (al rfl)) (fun w1 hw=> ?_)
   exact⟨⟨n,s,⟨⟨false,gz,0,b.toNat,b.toNat,none⟩,zs⟩,0,false,⟨Sv.none,[]⟩⟩,by rw[hN];rfl,by rw[hN];simp only[cv,fm];rw[bu,aH],HA rfl (by rw[List.take_length]at hw;exact ah.mem hw)⟩
instance agi{w0:World}{L:List aj}{b:Int}{n:Int}{s:Int}:bW Tryz.prog 31 w0 L [.int .i64 b, .int .i64 n, .int .i64 s] (Cp) (fun zz=> .tuple #[.agg (aB zz), .int .i64 ((oR b n s).2)]) (fun zz=>fz zz::L) (fun zz=>cv zz=(oR b n s).1) (True):=⟨fun hp w hw=>(WB w b n s).mono fun e w' ⟨x,h1,h2,h3⟩=>⟨x,h1,h2,hw.call h3⟩⟩
end Go.Proofs.YtaipiecplldinaaGreat
namespace Go.aL
open Go.RowKit
section
variable {P:Program} {N:cy} {w0:World} {env:Env} {L:List aj} {l:List Oper} {Q:Exit→Act→World→Prop} {rest:List Oper} {d:Option Tmp} {ty:TypeId} {ps:String} {af:Array Edge}
end
end Go.aL
namespace Go.Proofs.YtaipiecplldinaaGreat
open Go.aL Go.Kb
open Go.RowKit
open Go.aL Go.Kb
open Go.RowKit
theorem KQ{w:World}{L:List aj}{c d:Cp}[q:aS w L c](h:d=c∨d=ep):aS w L d:=by
 rcases h with rfl|rfl
 ·
  exact q
 ·
  exact⟨fun _ _=>⟨pJ,pJ⟩⟩
end Go.Proofs.YtaipiecplldinaaGreat
namespace Go.Kb
section
variable {α:Type} (f:α→Nat)
def WE(l:List α):Prop:=l.Pairwise fun a b=>f a≤f b
structure WG(l l':List α):Prop where
 WH:WE f l'
 same: ∀k,l'.filter (fun x=>decide (f x=k))=l.filter (fun x=>decide (f x=k))
variable {f}
def ins(f:α→Nat)(x:α):List α→List α
 |[]=>[x]
 |y::r=>if f y<f x then y::ins f x r else x::y::r
def WH(f:α→Nat)(l:List α):List α:=l.foldr (ins f) []
end
section
variable {α:Type} {f:α→Nat} {xs ys zs:List α} {a b m i j k s e:Nat}
def Ba(xs:List α)(i j:Nat):List α:=(xs.drop i).take (j -i)
theorem parts(h1:a≤b)(h2:b≤xs.length):xs=xs.take a++Ba xs a b++xs.drop b:=by
 rw[Ba,List.append_assoc]
 conv=>lhs;rw[←List.take_append_drop a xs,←List.take_append_drop (b -a) (xs.drop a),List.drop_drop,show a+(b -a)=b by omega]
end
end Go.Kb
namespace Go.aL
open Go.RowKit Go.Kb
section
variable {P:Program} {w0 w:World} {L:List aj} {α:Type} {enc:α→Array Value} {c:Nat} {s:Sv} {xs:List α}
end
section
variable {P:Program} {N:cy} {w0:World} {env:Env} {L:List aj} {l:List Oper} {Q:Exit→Act→World→Prop} {rest:List Oper} {d:Option Tmp} {ty:TypeId} {ps:String} {af:Array Edge} {gd:Option (Nat×Bool)}
end
open Go.Kb
section
variable {α:Type} {f:α→Nat} {xs ys zs ts:List α} {a b m i j k n:Nat}
theorem four{P U W V S:List α}(t:Nat):(P++(U++(W++(V++S))))[t]? =if t<P.length then P[t]?else if t<P.length+U.length then U[t -P.length]?else if t<P.length+U.length+W.length then W[t -P.length -U.length]?else if t<P.length+U.length+W.length+V.length then V[t -P.length -U.length -W.length]?else S[t -P.length -U.length -W.length -V.length]? :=by
 simp only[List.getElem?_append]
 by_cases c1:t<P.length
 ·
  rw[if_pos c1,if_pos c1]
 ·
  rw[if_neg c1,if_neg c1]
  by_cases c2:t<P.length+U.length
  ·
   rw[if_pos c2,if_pos (show t -P.length<U.length by omega)]
  ·
   rw[if_neg c2,if_neg (show ¬t -P.length<U.length by omega)]
   by_cases c3:t<P.length+U.length+W.length
   ·
    rw[if_pos c3,if_pos (show t -P.length -U.length<W.length by omega)]
   ·
    rw[if_neg c3,if_neg (show ¬t -P.length -U.length<W.length by omega)]
    by_cases c4:t<P.length+U.length+W.length+V.length
    ·
     rw[if_pos c4,if_pos (show t -P.length -U.length -W.length<V.length by omega)]
    ·
     rw[if_neg c4,if_neg (show ¬t -P.length -U.length -W.length<V.length by omega)]
end
end Go.aL
namespace Go.Kb
variable {t:List Rt} {k:Key} {bits:Int}
theorem WI{r:Rt}(h:gL k bits r=true):(bits=32∨bits=128)∧dj k bits=k∧cN ⟨bits,bits,k⟩=true:=by
 simp only[gL,Bool.and_eq_true,decide_eq_true_eq]at h
 obtain⟨h1,h2⟩:=h
 obtain⟨h3,h4,_⟩:=(tA _ _).1 h2
 obtain⟨h5,_⟩:=(kX _).1 h3
 rw[h1]at h4 h5
 exact⟨h5,h4,(kX _).2 ⟨h5,by simp only;omega,Int.le_refl _,h4⟩⟩
theorem Fb(h:dD t=true):(jN t k bits=0∧iK t k bits∈t∧gL k bits (iK t k bits)=true∧ ∀q∈t,gL k bits q=true→q.p.len≤(iK t k bits).p.len)∨
  (jN t k bits=(if cN ⟨bits,bits,k⟩=true then 6 else 1)∧iK t k bits=fI∧ ∀q∈t,gL k bits q=false):=by
 by_cases hk:cN ⟨bits,bits,k⟩=true
 ·
  have ho:qh t k bits=true:=by rw[qh,h,hk];rfl
  obtain⟨hb,_,_,hc⟩:=(kX _).1 hk
  have hb:bits=32∨bits=128:=hb
  have hc:dj k bits=k:=hc
  have sH:((bits.toNat:Nat):Int)≤bits:=by omega
  cases hf:lq t k bits bits.toNat with
  |none=>
   refine .inr ⟨by rw[jN,if_pos ho,hf,if_pos hk];rfl,by rw[iK,if_pos ho,hf];rfl,fun q hq=> ?_⟩
   rw[←Bool.not_eq_true]
   intro hw
   simp only[gL,Bool.and_eq_true,decide_eq_true_eq]at hw
   obtain⟨m,hm,e⟩:=I3 hw.1 hw.2
   exact I2 h hb sH hf q hq m (by omega) e
  |some r=>
   obtain⟨h1,⟨m,hm,h2⟩,h3⟩:=I1 h hb sH hf
   have e:iK t k bits=r:=by rw[iK,if_pos ho,hf];rfl
   refine .inl ⟨by rw[jN,if_pos ho,hf];rfl,by rw[e];exact h1,?_,fun q hq hw=> ?_⟩
   ·
    rw[e]
    have:=Qb hb hc (r:=r) (m:=m) (by omega) h2
    rw[gL,this.1,this.2];simp
   ·
    rw[e]
    simp only[gL,Bool.and_eq_true,decide_eq_true_eq]at hw
    obtain⟨m,hm,e⟩:=I3 hw.1 hw.2
    exact h3 q hq m (by omega) e
 ·
  have ho: ¬qh t k bits=true:=by rw[qh,h];simpa using hk
  refine .inr ⟨by rw[jN,if_neg ho,if_neg hk],by rw[iK,if_neg ho],fun q _=> ?_⟩
  rw[←Bool.not_eq_true];intro hw
  exact hk (WI hw).2.2
theorem WJ(h:dD t=true){r:Rt}(hr:r∈t)(hw:gL k bits r=true)(hm: ∀q∈t,gL k bits q=true→q.p.len≤r.p.len):jN t k bits=0∧iK t k bits=r:=by
 rcases Fb (k:=k) (bits:=bits) h with⟨h1,h2,h3,h4⟩|⟨_,_,h3⟩
 ·
  refine⟨h1,?_⟩
  have a:=h4 r hr hw
  have b:=hm _ h2 h3
  exact(Qc h).uniq h2 hr (Qd ((Qh (t:=t) k bits).comp r _ hr h2 hw h3 b) a)
 ·
  rw[h3 r hr]at hw;cases hw
variable {t u:List Rt} {r:Rt} {k:Key} {bits:Int}
variable {t u:List Rt} {r:Rt} {q p:cF}
end Go.Kb
namespace Go.aL
open Go.Kb
section
variable {α:Type} {f:α→Nat} {xs ys zs ts:List α} {a b c m i j k n s e:Nat}
def Bk(f:α→Nat)(xs ys:List α)(c lo hi:Nat):Prop:= ∀s,lo≤s→s<hi→s%c=0→WG f (Ba xs s (min (s+c) xs.length)) (Ba ys s (min (s+c) xs.length))
end
open Go.Kb
open Go.Kb
variable {t ts:List Rt} {k:Key} {bits:Int} {p:cF}
def nW(ts:List Rt):List Rt:=ts.filter fun r=>decide (r.p.bits=32)
def yy:Rt:=⟨⟨0,-1,0#128⟩,0⟩
def mP(ts:List Rt)(k:Key)(bits:Int)(i:Nat)(r:Rt):Prop:=
 (r=yy∧ ∀q∈ts.take i,gL k bits q=false)∨(r∈ts∧gL k bits r=true∧ ∀q∈ts.take i,gL k bits q=true→q.p.len≤r.p.len)
theorem mP.zero:mP ts k bits 0 yy:= .inl ⟨rfl,fun q hq=>by simp at hq⟩
theorem WK{r:Rt}(h:gL k bits r=true):cN r.p=true:=by
 simp only[gL,jX,Bool.and_eq_true]at h;exact h.2.1.1
theorem KR{r:Rt}(h:gL k bits r=true):0≤r.p.len:=((kX _).1 (WK h)).2.1
theorem mP.take{r e:Rt}{i:Nat}(h:mP ts k bits i r)(he:ts[i]? =some e)(ho:gL k bits e=true)(hl:r.p.len<e.p.len):mP ts k bits (i+1) e:=by
 refine .inr ⟨List.mem_of_getElem? he,ho,fun q hq rA=> ?_⟩
 rw[List.take_add_one,he,List.mem_append]at hq
 rcases hq with hq|hq
 ·
  rcases h with⟨_,h2⟩|⟨_,_,h2⟩
  ·
   rw[h2 q hq]at rA;cases rA
  ·
   have:=h2 q hq rA;omega
 ·
  obtain rfl:q=e:=by simpa using hq
  exact Int.le_refl _
theorem mP.pass{r e:Rt}{i:Nat}(h:mP ts k bits i r)(he:ts[i]? =some e)(hn:gL k bits e=true→e.p.len≤r.p.len):mP ts k bits (i+1) r:=by
 rcases h with⟨rfl,h2⟩|⟨h1,h3,h2⟩
 ·
  refine .inl ⟨rfl,fun q hq=> ?_⟩
  rw[List.take_add_one,he,List.mem_append]at hq
  rcases hq with hq|hq
  ·
   exact h2 q hq
  ·
   obtain rfl:q=e:=by simpa using hq
   cases ho:gL k bits q with
   |false=>rfl
   |true=>have h4:q.p.len≤ -1:=hn ho;have:=KR ho;omega
 ·
  refine .inr ⟨h1,h3,fun q hq rA=> ?_⟩
  rw[List.take_add_one,he,List.mem_append]at hq
  rcases hq with hq|hq
  ·
   exact h2 q hq rA
  ·
   obtain rfl:q=e:=by simpa using hq
   exact hn rA
theorem mP.none{r:Rt}(hr:dD ts=true)(hk:cN ⟨bits,bits,k⟩=true)(h:mP ts k bits ts.length r)(hl:r.p.len<0):jN ts k bits=6∧iK ts k bits=fI:=by
 rcases h with⟨_,h2⟩|⟨_,h3,_⟩
 ·
  rw[List.take_length]at h2
  rcases Fb (k:=k) (bits:=bits) hr with⟨_,h4,h5,_⟩|⟨h4,h5,_⟩
  ·
   rw[h2 _ h4]at h5;cases h5
  ·
   rw[if_pos hk]at h4;exact⟨h4,h5⟩
 ·
  have:=KR h3;omega
theorem mP.some{r:Rt}(hr:dD ts=true)(h:mP ts k bits ts.length r)(hl:0≤r.p.len):jN ts k bits=0∧iK ts k bits=r:=by
 rcases h with⟨rfl,_⟩|⟨h1,h3,h2⟩
 ·
  exact absurd hl (by decide)
 ·
  rw[List.take_length]at h2
  exact WJ hr h1 h3 h2
theorem WL(hr:dD ts=true)(hk:cN ⟨bits,bits,k⟩=false):jN ts k bits=1∧iK ts k bits=fI:=by
 rcases Fb (k:=k) (bits:=bits) hr with⟨_,_,h5,_⟩|⟨h4,h5,_⟩
 ·
  simp only[gL,jX,Bool.and_eq_true,decide_eq_true_eq]at h5
  obtain⟨e1,⟨e2,e3⟩,e4⟩:=h5
  obtain⟨a1,a2,a3,a4⟩:=(kX _).1 e2
  have:cN ⟨bits,bits,k⟩=true:=(kX _).2 ⟨by rw[←e1];exact a1,by show 0≤bits;omega,Int.le_refl _,by show dj k bits=k;rw[←e1];exact e3⟩
  rw[hk]at this;cases this
 ·
  rw[if_neg (by rw[hk];simp)]at h4;exact⟨h4,h5⟩
end Go.aL
namespace Go.Proofs.YtaipiecplldinaaGreat
open Go.aL Go.Kb
theorem WM(w:World)(t:Sv)(ts:List Rt)(k:Key)(bits:Int)(ht:bM aw 19 (hp w) t ts)(ba:dD ts=true):Calls Tryz.prog 29 #[t.val, .agg (cc k), .int .i64 bits] w fun e w'=>e= .returned (.tuple #[.agg (aw (iK ts k bits)), .int .i64 (jN ts k bits)])∧Mem w [] w':=by
 have xQ:Gv w t aw 19 ts:=⟨ht⟩
 have hr:=ba
 have hlen:=zF hr
 have htb:=ht.bd
 refine aW (args:=[_,_,_]) Tryz.func29 rfl Tryz.ntmps29 rfl ?_
 change Cw _ _ _ _ _ [(0,t.val),(1, .agg (cc k)),(2, .int .i64 bits)] []
 refine Gc ?_
 refine bL rfl fun b4=> ?_
 refine bx fun b6=> ?_
 refine Gs ?_
 refine Gc ?_
 iterate 3 refine Gs ?_
 refine ae (mV rfl) ?_
 iterate 2 refine Gs ?_
 refine Gc ?_
 refine aq rfl (fun h0=> ?_) (fun h0=> ?_)
 ·
  replace h0:=bz h0
  obtain⟨qp,qq⟩:=WL (k:=k) (bits:=bits) hr (by simpa using h0)
  refine Gc ?_
  refine ae (mV rfl) ?_
  iterate 2 refine Gs ?_
  refine Gc ?_
  refine an (.inl rfl) (aZ rfl (bG rfl) (al rfl)) (fun w1 hw=> ?_)
  exact⟨(by rw[qp,qq]),ah.mem hw⟩
 ·
  replace h0:=bz h0
  have hk:cN ⟨bits,bits,k⟩=true:=by simpa using h0
  refine Gc ?_
  refine ae (bV (v:= .agg (bY yy.p)) rfl (fun w=>by kernel_rfl)) ?_
  refine ae (bV (v:= .agg (aw yy)) rfl (fun w=>by kernel_rfl)) ?_
  refine bx fun b8=> ?_
  refine Gs ?_
  refine Gc ?_
  refine Gs ?_
  refine Gc ?_
  refine bK (X:=Nat×Rt) (fun zz=>[(9, .int .i64 (zz.1:Nat)),(8, .pointer (some ⟨b8,0,none⟩)),(0,t.val),(2, .int .i64 bits),(4, .pointer (some ⟨b4,0,none⟩)),(6, .pointer (some ⟨b6,0,none⟩))]) (fun zz=>[ar b8 (aw zz.2) 68,ar b6 (aw fI) 68,ar b4 (cc k) 56]) (fun zz=>zz.1≤ts.length∧mP ts k bits zz.1 zz.2) (fun zz=>ts.length -zz.1) (0,yy) ⟨Nat.zero_le _,mP.zero⟩ (Sub.cons rfl (Sub.cons rfl (Sub.cons rfl (Sub.cons rfl (Sub.cons rfl (Sub.cons rfl (Sub.nil _))))))) (fun w hw=>ah.mem hw) ?_
  rintro⟨i,r⟩ ⟨bb,aH⟩
  dsimp only
  simp only at bb aH
  refine Gc ?_
  iterate 4 refine Gs ?_
  refine Gc ?_
  refine aq rfl (fun h1=> ?_) (fun h1=> ?_)
  ·
   replace h1:=bz h1
   obtain⟨e,he⟩:=get_some (xs:=ts) (i:=i) (by omega)
   refine Gc ?_
   refine eF (by kernel_rfl) (by kernel_rfl) ?_
   iterate 2 refine Gq ?_
   refine aT (aX rfl rfl i rfl (by omega)) ?_
   refine aT (aA rfl rfl) ?_
   refine aT (aA rfl rfl) ?_
   refine aT (bn (j:=0) rfl i he rfl (by decide)) ?_
   iterate 3 refine Gq ?_
   iterate 2 refine Gh ?_
   refine c5 rfl rfl rfl (fun hg=>(Ry.yl (aX (av hg rfl) (av hg rfl) i rfl (by simp only[Z0,Z1,Z2,Z3,Z4,Z5,Z6,Z7,Z8,Z9]at hg;omega)))) ?_
   refine c5 rfl rfl rfl (fun hg=>(Ry.yl (aA (av hg rfl) rfl))) ?_
   refine c5 rfl rfl rfl (fun hg=>(Ry.yl (BU (j:=0) (av hg rfl) i he rfl (by decide)))) ?_
   refine c5 rfl rfl rfl (fun hg=>(Ry.yl (dW rfl))) ?_
   refine c5 rfl rfl rfl (fun hg=>bX (cg (av hg rfl) (cg (av hg rfl) dO)) trivial) ?_
   iterate 2 refine Gq ?_
   iterate 2 refine Gh ?_
   refine c5 rfl rfl rfl (fun hg=>(Ry.yl (aX (av hg rfl) (av hg rfl) i rfl (by simp only[Z0,Z1,Z2,Z3,Z4,Z5,Z6,Z7,Z8,Z9]at hg;omega)))) ?_
   refine c5 rfl rfl rfl (fun hg=>(Ry.yl (aA (av hg rfl) rfl))) ?_
   refine c5 rfl rfl rfl (fun hg=>(Ry.yl (aA (av hg rfl) rfl))) ?_
   refine c5 rfl rfl rfl (fun hg=>(Ry.yl (bn (j:=1) (av hg rfl) i he rfl (by decide)))) ?_
   refine Gh ?_
   refine c5 rfl rfl rfl (fun hg=>(Ry.yl (aA (o':=1) (av hg rfl) rfl))) ?_
   iterate 2 refine Gh ?_
   refine Gq ?_
   refine Gc ?_
   refine aq rfl (fun h2=> ?_) (fun h2=> ?_)
   ·
    replace h2:=bz h2
    have ho:gL k bits e=true:=by rw[gL,h2.1.2,decide_eq_true h2.1.1];rfl
    refine Gi ?_
    iterate 2 refine Gs ?_
    refine ae (aX rfl rfl i rfl (by omega)) ?_
    refine ae (fH rfl i he rfl) ?_
    refine Gs ?_
    refine Gc ?_
    iterate 3 refine Gs ?_
    refine Gi ?_
    exact bh (x:=(i,r)) (i+1,e) ⟨by first|omega|(simp only[];omega),aH.take he ho (by first|omega|(simp only[];omega))⟩ (by simp only;omega) (Sub.cons rfl (Sub.cons rfl (Sub.cons rfl (Sub.cons rfl (Sub.cons rfl (Sub.cons rfl (Sub.nil _))))))) (fun w hw=>ah.mem hw)
   ·
    replace h2:=bz h2
    have mi:gL k bits e=true→e.p.len≤r.p.len:=by
     intro ho
     simp only[gL,Bool.and_eq_true,decide_eq_true_eq]at ho
     rcases h2 with(h|h)|h
     ·
      exact absurd ho.1 h
     ·
      rw[ho.2]at h;cases h
     ·
      omega
    refine Gc ?_
    iterate 3 refine Gs ?_
    refine Gi ?_
    exact bh (x:=(i,r)) (i+1,r) ⟨by first|omega|(simp only[];omega),aH.pass he mi⟩ (by simp only;omega) (Sub.cons rfl (Sub.cons rfl (Sub.cons rfl (Sub.cons rfl (Sub.cons rfl (Sub.cons rfl (Sub.nil _))))))) (fun w hw=>ah.mem hw)
  ·
   replace h1:=bz h1
   obtain rfl:i=ts.length:=by omega
   refine Gc ?_
   iterate 4 refine Gs ?_
   refine Gc ?_
   refine aq rfl (fun h3=> ?_) (fun h3=> ?_)
   ·
    replace h3:=bz h3
    obtain⟨qp,qq⟩:=aH.none hr hk h3
    refine Gc ?_
    refine ae (mV rfl) ?_
    iterate 2 refine Gs ?_
    refine Gc ?_
    refine an (.inl rfl) (aZ rfl (bG rfl) (al rfl)) (fun w1 hw=> ?_)
    exact⟨(by rw[qp,qq]),ah.mem hw⟩
   ·
    replace h3:=bz h3
    obtain⟨qp,qq⟩:=aH.some hr (by omega)
    refine Gc ?_
    iterate 3 refine Gs ?_
    refine Gc ?_
    refine an (.inl rfl) (aZ rfl (bG rfl) (al rfl)) (fun w1 hw=> ?_)
    exact⟨(by rw[qp,qq]),ah.mem hw⟩
instance agj{w0:World}{L:List aj}{t:Sv}{ts:List Rt}{k:Key}{bits:Int}[ht:cl w0 L aw 19 t ts]:bU Tryz.prog 29 w0 L [t.val, .agg (cc k), .int .i64 bits] (.tuple #[.agg (aw (iK ts k bits)), .int .i64 (jN ts k bits)]) (dD ts=true):=⟨fun hp w hw=>WM w t ts k bits (ht.h w hw) hp⟩
open Go.aL Go.Kb
open Go.RowKit
theorem WN{f g:b0}:bw f=bw g↔vv f.aF=vv g.aF∧f.table.xs=g.table.xs:=by
 simp only[bw,FV.mk.injEq]
theorem WO(c:CV):(cH c).1.table.length<9223372036854775807:=by
 by_cases h:(cH c).2=0
 ·
  obtain⟨g0,g1,g2,g3⟩:=xH h
  rw[(uh g0 g1 g2 g3).1]
  have:=zF (Jk g3)
  show(iu _).length<_
  omega
 ·
  rw[Q0 h];decide
theorem WQ{w:World}{L:List aj}{c:Cp}{p:dk}[q:aS w L c](h:p=gF∨ ∃B z,B∈c.blocks.xs∧z∈B.ag.xs∧p=dw z.sv z.xs):Hd w L p.body.sv aJ 1 p.body.xs:=by
 rcases h with rfl|⟨B,z,hB,hz,rfl⟩
 ·
  exact⟨fun _ _=>bM.nil _ _ _⟩
 ·
  have:aS w L z:=⟨fun w' eZ=>((q.h w' eZ).1.2 B hB).2 z hz⟩
  have:aS w L (dw z.sv z.xs):=inferInstance
  exact inferInstance
theorem WR{w:World}{c:Cp}{q:Sl UInt8}(hc:Deep.bk (hp w) c)(h:q=gF.body∨ ∃B z,B∈c.blocks.xs∧z∈B.ag.xs∧q=(dw z.sv z.xs).body):Deep.bk (hp w) q:=by
 rcases h with rfl|⟨B,z,hB,hz,rfl⟩
 ·
  exact pJ
 ·
  have:aS w [] z:=⟨fun w' eZ=>Deep.mono w w' z ((hc.1.2 B hB).2 z hz) eZ.below⟩
  have h2:aS w [] (dw z.sv z.xs):=inferInstance
  exact h2.h w (Mem.init w)
theorem WS(w:World)(b:Int)(p:Int)(s:Int):Calls Tryz.prog 56 #[.int .i64 b, .int .i64 p, .int .i64 s] w fun e w'=>e= .returned (.int .i64 (mh b p s))∧Mem w [] w':=by
 have Az:=DU s
 have q8:=QO b p s
 refine aW (args:=[_,_,_]) Tryz.func56 rfl Tryz.ntmps56 rfl ?_
 change Cw _ _ _ _ _ [(0, .int .i64 b),(1, .int .i64 p),(2, .int .i64 s)] []
 refine Gc ?_
 refine Gs ?_
 refine Gc ?_
 iterate 3 refine Gs ?_
 iterate 2 refine Gg ?_
 iterate 2 refine Gs ?_
 iterate 2 refine Gg ?_
 iterate 2 refine Gs ?_
 iterate 2 refine Gg ?_
 refine Gs ?_
 refine Gc ?_
 refine aq rfl (fun h0=> ?_) (fun h0=> ?_)
 ·
  replace h0:=bz h0
  have hE:mh b p s=0:=by rw[q8,if_pos (by omega)]
  refine Gc ?_
  refine Gs ?_
  refine Gc ?_
  refine an (.inl rfl) (aK rfl (al rfl)) (fun w1 hw=> ?_)
  exact⟨congrArg (fun b=>Ending.returned (Value.int .i64 b)) (hE.symm),ah.mem hw⟩
 ·
  replace h0:=bz h0
  have hE:mh b p s=if fY s<(b -4)*p/2 then fY s else(b -4)*p/2:=by rw[q8,if_neg (by omega)]
  have mL:0≤(b -4)*p:=Int.mul_nonneg (by omega) (by omega)
  have sL:(b -4)*p≤28*16:=Int.mul_le_mul (by omega) (by omega) (by omega) (by omega)
  refine Gc ?_
  iterate 3 refine Gs ?_
  refine ae (nE rfl rfl (by omega)) ?_
  refine ae (gV rfl rfl (by omega) (by omega)) ?_
  refine Gs ?_
  refine Gc ?_
  iterate 4 refine Gs ?_
  refine Gc ?_
  refine aq rfl (fun h1=> ?_) (fun h1=> ?_)
  ·
   replace h1:=bz h1
   have rR:mh b p s=fY s:=by rw[hE,if_pos (by omega)]
   refine Gc ?_
   iterate 3 refine Gs ?_
   refine Gc ?_
   refine an (.inl rfl) (aK rfl (al rfl)) (fun w1 hw=> ?_)
   exact⟨congrArg (fun b=>Ending.returned (Value.int .i64 b)) (rR.symm),ah.mem hw⟩
  ·
   replace h1:=bz h1
   have rR:mh b p s=(b -4)*p/2:=by rw[hE,if_neg (by omega)]
   refine Gc ?_
   iterate 2 refine Gs ?_
   refine Gc ?_
   refine an (.inl rfl) (aK rfl (al rfl)) (fun w1 hw=> ?_)
   exact⟨congrArg (fun b=>Ending.returned (Value.int .i64 b)) (rR.symm),ah.mem hw⟩
instance agk{w0:World}{L:List aj}{b:Int}{p:Int}{s:Int}:bU Tryz.prog 56 w0 L [.int .i64 b, .int .i64 p, .int .i64 s] (.int .i64 (mh b p s)) (True):=⟨fun hp w hw=>WS w b p s⟩
theorem WT(w:World)(b:Int)(p:Int)(s:Int):Calls Tryz.prog 25 #[.int .i64 b, .int .i64 p, .int .i64 s] w fun e w'=>e= .returned (.int .i64 (qk b p s))∧Mem w [] w':=by
 refine aW (args:=[_,_,_]) Tryz.func25 rfl Tryz.ntmps25 rfl ?_
 change Cw _ _ _ _ _ [(0, .int .i64 b),(1, .int .i64 p),(2, .int .i64 s)] []
 refine Gc ?_
 refine Gs ?_
 refine Gc ?_
 iterate 8 refine Gs ?_
 refine Gc ?_
 refine an (.inl rfl) (aK rfl (al rfl)) (fun w1 hw=> ?_)
 exact⟨congrArg (fun b=>Ending.returned (Value.int .i64 b)) ((by rw[qk])),ah.mem hw⟩
instance agl{w0:World}{L:List aj}{b:Int}{p:Int}{s:Int}:bU Tryz.prog 25 w0 L [.int .i64 b, .int .i64 p, .int .i64 s] (.int .i64 (qk b p s)) (True):=⟨fun hp w hw=>WT w b p s⟩
theorem WU(w:World)(c:Cp)(hc:Deep.bk (hp w) c):Calls Tryz.prog 22 #[.agg (aB c)] w fun e w'=> ∃zz:b0,e= .returned (.tuple #[.agg (bQ zz), .int .i64 ((cH (cv c)).2)])∧(bw zz=(cH (cv c)).1∧(zz.aF.ai=c∨zz.aF.ai=ep))∧Mem w [own bf 1 zz.aF.at_.sv zz.aF.at_.xs,own aw 19 zz.table.sv zz.table.xs] w':=by
 have gy:bT w c:=⟨hc⟩
 have cO:=dH c.blocks.xs
 have KS:kO (cv c)=qk c.blocks.xs.length c.ag c.size:=by simp only[kO,cv,cO]
 have KT:fe (cv c)=mh c.blocks.xs.length c.ag c.size:=by simp only[fe,cv,cO]
 refine aW (args:=[_]) Tryz.func22 rfl Tryz.ntmps22 rfl ?_
 change Cw _ _ _ _ _ [(0, .agg (aB c))] []
 refine Gc ?_
 refine bL rfl fun b1=> ?_
 refine bx fun b2=> ?_
 refine Gs ?_
 refine Gc ?_
 iterate 9 refine Gs ?_
 refine Gc ?_
 refine aq rfl (fun h0=> ?_) (fun h0=> ?_)
 ·
  replace h0:=bz h0
  have hE:=Aq (c:=cv c) (KS.trans h0)
  refine Gc ?_
  refine ae (bV (v:= .agg (bQ iw)) rfl (fun w=>by kernel_rfl)) ?_
  iterate 2 refine Gs ?_
  refine Gc ?_
  refine an (.inl rfl) (aZ rfl (bG rfl) (al rfl)) (fun w1 hw=> ?_)
  exact⟨iw,by rw[hE.1],⟨by rw[hE.1];rfl, .inr rfl⟩,Mem.cz bf 1 (Mem.cz aw 19 (ah.mem hw:Mem w [] _))⟩
 ·
  replace h0:=bz h0
  have pk: ¬kO (cv c)=0:=fun h=>h0 (KS▸h)
  refine Gc ?_
  refine Gs ?_
  refine bp rfl trivial fun cQ n7=> ?_
  have yz:vv cQ=(bq (cv c)).1:=n7.1
  have sZ:cQ.at_.xs=(bq (cv c)).1.at_:=congrArg VV.at_ yz
  have A0:=C4 (cv c)
  rw[←sZ]at A0
  have agm: ∀(L:List aj),aS w L cQ.ai:=fun L=>KQ (c:=c) n7.2
  have agn: ∀(L:List aj) [Hd w L cQ.at_.sv bf 1 cQ.at_.xs],aS w L cQ.at_:=fun L q=>⟨fun w h=>⟨q.h w h,fun _ _=>trivial⟩⟩
  have ago: ∀(L:List aj) [aS w L cQ.ai] [aS w L cQ.at_],aS w L cQ:=fun L p q=>⟨fun w h=>⟨p.h w h,q.h w h⟩⟩
  refine Gs ?_
  refine ae (aU (v:= .agg (bo cQ)) rfl rfl) ?_
  refine ae (aU (v:= .int .i64 ((bq (cv c)).2)) rfl rfl) ?_
  refine bx fun b4=> ?_
  iterate 2 refine Gs ?_
  refine Gc ?_
  iterate 2 refine Gs ?_
  refine Gc ?_
  refine aq rfl (fun h1=> ?_) (fun h1=> ?_)
  ·
   replace h1:=bz h1
   have hE:=Ar pk h1
   refine Gc ?_
   refine ae (bV (v:= .agg (bQ iw)) rfl (fun w=>by kernel_rfl)) ?_
   iterate 3 refine Gs ?_
   refine Gc ?_
   refine an (.inl rfl) (aZ rfl (bG rfl) (al rfl)) (fun w1 hw=> ?_)
   exact⟨iw,by rw[hE.1],⟨by rw[hE.1];rfl, .inr rfl⟩,Mem.cz bf 1 (Mem.cz aw 19 (ah.mem hw:Mem w [] _))⟩
  ·
   replace h1:=bz h1
   have oq:(bq (cv c)).2=0:=h1
   have Fc:gJ (vv cQ)=true:=by rw[yz];exact Jp oq
   have WW:cv cQ.ai=cv c:=by rw[show cv cQ.ai=(vv cQ).ai from rfl,yz];exact Jn oq
   have WX:(vv cQ).ai.off=false:=by rw[show(vv cQ).ai=cv cQ.ai from rfl,WW];exact Jo oq
   have WY:cQ.ai=c:=by
    rcases n7.2 with h|h
    ·
     exact h
    ·
     have h4:=(Dx (b:=false) Fc).qc
     rw[show(({v:=vv cQ,beyond:=false}:WV).v.ai).blocks=fm cQ.ai.blocks.xs from rfl,h]at h4
     exact absurd h4 (by decide)
   refine Gc ?_
   refine Gs ?_
   refine Gc ?_
   refine Gs ?_
   refine Gc ?_
   refine bK (X:=Nat×Sv×List (Sl UInt8)) (fun zz=>[(7, .int .i64 (zz.1:Nat)),(6,zz.2.1.val),(1, .pointer (some ⟨b1,0,none⟩)),(2, .pointer (some ⟨b2,0,none⟩)),(4, .pointer (some ⟨b4,0,none⟩))]) (fun zz=>[own (bP (τ:=UInt8)) 1 zz.2.1 zz.2.2,ar b4 (bo cQ) 29,own bf 1 cQ.at_.sv cQ.at_.xs,ar b1 (aB c) 25,ar b2 (bQ iw) 54]) (fun zz=>zz.1≤cQ.at_.xs.length∧zz.2.2.length=zz.1∧aE zz.2.2=(cQ.at_.xs.take zz.1).map (iz (cv cQ.ai))∧ ∀q∈zz.2.2,(q=gF.body∨ ∃B z,B∈c.blocks.xs∧z∈B.ag.xs∧q=(dw z.sv z.xs).body)) (fun zz=>cQ.at_.xs.length -zz.1) (0,Sv.none,[]) ⟨Nat.zero_le _,rfl,rfl,fun q hq=>by cases hq⟩ (Sub.cons rfl (Sub.cons rfl (Sub.cons rfl (Sub.cons rfl (Sub.cons rfl (Sub.nil _)))))) (fun w hw=>Mem.cz (bP (τ:=UInt8)) 1 (ah.mem hw)) ?_
   rintro⟨i,s,qs⟩ ⟨bb,aH,bu,cJ⟩
   dsimp only
   simp only at bb aH bu cJ
   refine Gc ?_
   iterate 5 refine Gs ?_
   refine Gc ?_
   refine aq rfl (fun h2=> ?_) (fun h2=> ?_)
   ·
    replace h2:=bz h2
    obtain⟨y,hy⟩:=get_some (xs:=cQ.at_.xs) (i:=i) (by omega)
    have iA:cQ.at_.xs.getD i 0=y:=oW hy
    refine Gc ?_
    iterate 2 refine Gs ?_
    refine bp rfl trivial fun fP xU=> ?_
    have WZ:fP.body.xs=(iz (cv cQ.ai) (cQ.at_.xs.getD i 0)):=by rw[xU.1,QZ (v:=vv cQ) Fc WX bb iA (by show i<cQ.at_.xs.length;omega)];rfl
    have agp: ∀(L:List aj),Hd w L fP.body.sv aJ 1 fP.body.xs:=fun L=>WQ (c:=cQ.ai) xU.2
    refine Gs ?_
    refine ae (aU (v:=fP.body.sv.val) rfl rfl) ?_
    refine ae (aU (v:= .int .i64 ((l4 (vv cQ) ((i:Nat):Int)).2)) rfl rfl) ?_
    iterate 2 refine Gs ?_
    refine Gc ?_
    iterate 2 refine Gs ?_
    refine mz (enc:=bP) (vals:=[fP.body.sv.val]) [fP.body] rfl (by simp only[List.map_cons,List.map_nil,Sv.hQ];rfl) rfl (by decide) (by decide) fun KU=> ?_
    refine jG (s:=s) (enc:=(bP (τ:=UInt8))) (ys:=[fP.body]) rfl rfl (by decide) (fun w hw=>gX (s:=⟨false,KU,0,1,1,none⟩) Tryz.underlying46 (by decide) ((inferInstance:cl _ _ (bP (τ:=UInt8)) 1 ⟨false,KU,0,1,1,none⟩ [fP.body]).h w hw)) (by simp only[List.length_append,List.length_cons,List.length_nil];omega) (by simp only[List.length_append,List.length_cons,List.length_nil];omega) fun W0 agq agr=> ?_
    refine Gs ?_
    refine Gc ?_
    iterate 3 refine Gs ?_
    refine Gi ?_
    exact bh (x:=(i,s,qs)) (i+1,W0,qs++[fP.body]) ⟨by first|omega|(simp only[];omega),by rw[List.length_append,aH];rfl,by rw[aE,List.map_append,←aE,bu,List.take_add_one,hy,List.map_append,List.map_cons,WZ,iA];rfl,fun q hq=>(List.mem_append.1 hq).elim (cJ q) fun hq=>by rw[List.mem_singleton.1 hq];rcases xU.2 with h|⟨B,z,hB,hz,h⟩;exact .inl (by rw[h]);exact .inr ⟨B,z,WY▸hB,hz,by rw[h]⟩⟩ (by simp only;omega) (Sub.cons rfl (Sub.cons rfl (Sub.cons rfl (Sub.cons rfl (Sub.cons rfl (Sub.nil _)))))) (fun w hw=>ah.mem hw)
   ·
    replace h2:=bz h2
    obtain rfl:i=cQ.at_.xs.length:=by omega
    have JO:z1 w qs:=⟨fun y hy=>WR hc (cJ y hy)⟩
    have ags:cQ.at_.xs.length≤64:=(Dx (b:=false) Fc).qb
    have nn:lx (⟨s,qs⟩:Sl (Sl UInt8))=lv (bq (cv c)).1:=by
     rw[List.take_of_length_le (Nat.le_refl _)]at bu
     rw[←yz];exact bu
    have KV: ∀x∈qs,x.xs.length≤100000:=fun x hx=>by
     have hm:x.xs∈aE qs:=List.mem_map_of_mem (f:=fun x:Sl UInt8=>x.xs) hx
     rw[bu]at hm
     obtain⟨y,_,E4⟩:=List.mem_map.1 hm
     rw[←E4]
     exact Nat.le_trans (Jq _ _) (by decide)
    refine Gc ?_
    refine Gs ?_
    refine bp (hc:=U9 (a:=(⟨s,qs⟩:Sl (Sl UInt8)))) rfl ⟨by show qs.length≤1000;omega,KV⟩ fun kd sN=> ?_
    refine Gs ?_
    refine ae (aU (v:=kd.val) rfl rfl) ?_
    refine ae (aU (v:= .int .i64 (jy (lx (⟨s,qs⟩:Sl (Sl UInt8))))) rfl rfl) ?_
    iterate 2 refine Gs ?_
    refine Gc ?_
    refine eF (by kernel_rfl) (by kernel_rfl) ?_
    iterate 3 refine Gq ?_
    iterate 10 refine Gh ?_
    refine dB rfl rfl rfl (fun hg=>bX (cg (av hg rfl) (cg (av hg rfl) (cg (av hg rfl) dO))) trivial) ?_
    refine Gh ?_
    refine Gq ?_
    refine Gc ?_
    refine aq rfl (fun h3=> ?_) (fun h3=> ?_)
    ·
     replace h3:=bz h3
     rw[nn]at h3
     have hE:(cH (cv c))=(mg,2)∧True:=⟨QY pk oq (by rw[←sZ];rcases h3 with h|h;exact .inr h;exact .inl (by rw[KT];omega)),trivial⟩
     refine Gc ?_
     refine ae (bV (v:= .agg (bQ iw)) rfl (fun w=>by kernel_rfl)) ?_
     iterate 2 refine Gs ?_
     refine Gc ?_
     refine an (.inl rfl) (aZ rfl (bG rfl) (al rfl)) (fun w1 hw=> ?_)
     exact⟨iw,by rw[hE.1],⟨by rw[hE.1];rfl, .inr rfl⟩,Mem.cz bf 1 (Mem.cz aw 19 (ah.mem hw:Mem w [] _))⟩
    ·
     replace h3:=bz h3
     rw[nn]at h3
     have hE:=uh pk oq (by rw[←sZ,KT];omega) (by exact h3.1)
     refine Gc ?_
     iterate 2 refine Gs ?_
     refine ae (bV (v:= .agg (bQ (⟨cQ,⟨kd,iu (lx (⟨s,qs⟩:Sl (Sl UInt8)))⟩⟩:b0))) rfl (A5 cQ ⟨kd,iu (lx (⟨s,qs⟩:Sl (Sl UInt8)))⟩)) ?_
     iterate 2 refine Gs ?_
     refine Gc ?_
     refine an (.inl rfl) (aZ rfl (bG rfl) (al rfl)) (fun w1 hw=> ?_)
     exact⟨(⟨cQ,⟨kd,iu (lx (⟨s,qs⟩:Sl (Sl UInt8)))⟩⟩:b0),by rw[hE.1],⟨by rw[hE.1];simp only[bw,nn,yz],n7.2⟩,ah.mem hw⟩
instance agt{w0:World}{L:List aj}{c:Cp}[hc:aS w0 L c]:bW Tryz.prog 22 w0 L [.agg (aB c)] (b0) (fun zz=> .tuple #[.agg (bQ zz), .int .i64 ((cH (cv c)).2)]) (fun zz=>own bf 1 zz.aF.at_.sv zz.aF.at_.xs::own aw 19 zz.table.sv zz.table.xs::L) (fun zz=>bw zz=(cH (cv c)).1∧(zz.aF.ai=c∨zz.aF.ai=ep)) (True):=⟨fun hp w hw=>(WU w c (hc.h w hw)).mono fun e w' ⟨x,h1,h2,h3⟩=>⟨x,h1,h2,hw.call h3⟩⟩
theorem W1(w:World)(f:b0)(hf:Deep.bk (hp w) f):Calls Tryz.prog 26 #[.agg (bQ f)] w fun e w'=>e= .returned (.bool (ft (bw f)))∧Mem w [] w':=by
 have uF:bT w f:=⟨hf⟩
 have hbt:=hf.2.1.bd
 refine aW (args:=[_]) Tryz.func26 rfl Tryz.ntmps26 rfl ?_
 change Cw _ _ _ _ _ [(0, .agg (bQ f))] []
 refine Gc ?_
 refine bL rfl fun b1=> ?_
 refine Gs ?_
 refine Gc ?_
 iterate 2 refine Gs ?_
 refine ae (eE rfl) ?_
 refine bx fun b3=> ?_
 refine Gs ?_
 refine Gc ?_
 refine Gs ?_
 refine dM (cs':=aB (⟨f.aF.ai.ag,f.aF.ai.size,f.aF.ai.blocks,f.aF.ai.ops,false,f.aF.ai.bc⟩:Cp)) rfl rfl (by show 4<6;decide) (by first|rfl|exact Sv.one _) rfl ?_
 refine Gc ?_
 refine Gs ?_
 refine bp rfl trivial fun fE oo=> ?_
 have rn:fE.table.xs=(cH {(bw f).aF.ai with off:=false}).1.table:=congrArg FV.table oo.1
 have hS:ft (bw f)=(decide ((cH {(bw f).aF.ai with off:=false}).2=0)&&gJ (bw f).aF&&decide (fE.table.xs=f.table.xs)):=by rw[QM,←rn];rfl
 have KV:fE.table.xs.length<9223372036854775807:=by rw[rn];exact WO _
 refine Gs ?_
 refine ae (aU (v:= .agg (bQ fE)) rfl rfl) ?_
 refine ae (aU (v:= .int .i64 ((cH (cv (⟨f.aF.ai.ag,f.aF.ai.size,f.aF.ai.blocks,f.aF.ai.ops,false,f.aF.ai.bc⟩:Cp))).2)) rfl rfl) ?_
 refine bx fun b4=> ?_
 iterate 2 refine Gs ?_
 refine Gc ?_
 iterate 3 refine Gs ?_
 refine Gg ?_
 refine dG rfl rfl rfl (fun hg=>(Ry.yl (eE (av hg rfl)))) ?_
 refine dG rfl rfl rfl (fun hg=>bX (cg (av hg rfl) dO) trivial) ?_
 iterate 2 refine Gs ?_
 iterate 4 refine Gg ?_
 refine dG rfl rfl rfl (fun hg=>bX (cg (av hg rfl) (cg (av hg rfl) dO)) (by simp only[Z0,Z1,Z2,Z3,Z4,Z5,Z6,Z7,Z8,Z9]at hg;omega)) ?_
 iterate 2 refine Gs ?_
 refine Gc ?_
 refine an (.inl rfl) (aK rfl (al rfl)) (fun w1 hw=> ?_)
 exact⟨congrArg (fun b=>Ending.returned (Value.bool b)) ((by rw[hS];rfl)),ah.mem hw⟩
instance agu{w0:World}{L:List aj}{f:b0}[hf:aS w0 L f]:bU Tryz.prog 26 w0 L [.agg (bQ f)] (.bool (ft (bw f))) (True):=⟨fun hp w hw=>W1 w f (hf.h w hw)⟩
theorem W2(w:World)(f:b0)(g:b0)(hf:Deep.bk (hp w) f)(hg:Deep.bk (hp w) g):Calls Tryz.prog 23 #[.agg (bQ f), .agg (bQ g)] w fun e w'=>e= .returned (.bool (decide (bw f=bw g)))∧Mem w [] w':=by
 have uF:bT w f:=⟨hf⟩
 have ghg:bT w g:=⟨hg⟩
 have KD:=hf.2.1.bd
 have hbg:=hg.2.1.bd
 refine aW (args:=[_,_]) Tryz.func23 rfl Tryz.ntmps23 rfl ?_
 change Cw _ _ _ _ _ [(0, .agg (bQ f)),(1, .agg (bQ g))] []
 refine Gc ?_
 refine bL rfl fun b2=> ?_
 refine bL rfl fun b3=> ?_
 refine Gs ?_
 refine Gc ?_
 refine Gs ?_
 refine ae (eE rfl) ?_
 refine Gs ?_
 refine ae (eE rfl) ?_
 iterate 2 refine Gs ?_
 iterate 4 refine Gg ?_
 refine dG rfl rfl rfl (fun hg=>bX (cg (av hg rfl) (cg (av hg rfl) dO)) (by simp only[Z0,Z1,Z2,Z3,Z4,Z5,Z6,Z7,Z8,Z9]at hg;omega)) ?_
 iterate 2 refine Gs ?_
 refine Gc ?_
 refine an (.inl rfl) (aK rfl (al rfl)) (fun w1 hw=> ?_)
 exact⟨congrArg (fun b=>Ending.returned (Value.bool b)) ((by rw[Bool.eq_iff_iff];simp only[Bool.and_eq_true,decide_eq_true_eq];exact WN.symm)),ah.mem hw⟩
instance agv{w0:World}{L:List aj}{f:b0}{g:b0}[hf:aS w0 L f][hg:aS w0 L g]:bU Tryz.prog 23 w0 L [.agg (bQ f), .agg (bQ g)] (.bool (decide (bw f=bw g))) (True):=⟨fun hp w hw=>W2 w f g (hf.h w hw) (hg.h w hw)⟩
end Go.Proofs.YtaipiecplldinaaGreat
namespace Go.Kb
open Go.aL
def KW:Key:=lQ fun i=>if i=0 then 10 else 0
def uI:Key:=lQ fun i=>if i=0 then 10 else if i=1 then 1 else 0
def ov(h:UInt16):Rt:=⟨⟨32,8,KW⟩,h⟩
def Fe:CV×Int:=oR 6 2 64
def Ff:FV×Int:=pf Fe.1
def Bb:FV×Int:=jO Ff.1 [⟨ov 7,false⟩]
def uJ:FV×Int:=cH Bb.1.aF.ai
theorem W3:Fe.2=0:=by decide+kernel
theorem W4:Ff.2=0:=by decide+kernel
theorem W5:Bb.2=0:=by decide+kernel
theorem W6:uJ.2=0:=by decide+kernel
theorem W7:n4 uJ.1 uI 32=0:=by decide+kernel
theorem W8:(n0 uJ.1 uI 32).eA=7:=by decide+kernel
theorem W9:uJ.1.table.length=1:=by decide+kernel
theorem Xa:ft uJ.1=true:=by decide+kernel
theorem Xb:qk 6 2 64=4:=by decide+kernel
end Go.Kb
namespace Go.Proofs.YtaipiecplldinaaGreat
open Go.aL Go.Kb
open Go.RowKit
theorem Xc{f:b0}{v:FV}(e:bw f=v)(h:Jr v=true):dK f.aF.ai∧f.aF.at_.xs.length≤1000000∧f.table.xs.length≤1000000:=by
 subst e
 simp only[Jr,Bool.and_eq_true,decide_eq_true_eq]at h
 exact⟨pT h.1.1,h.1.2,h.2⟩
theorem Xd(w:World)(h:UInt16):Calls Tryz.prog 53 #[.int .u16 (h.toNat:Nat)] w fun e w'=>e= .returned (.agg (aw (ov h)))∧Mem w [] w':=by
 refine aW (args:=[_]) Tryz.func53 rfl Tryz.ntmps53 rfl ?_
 change Cw _ _ _ _ _ [(0, .int .u16 (h.toNat:Nat))] []
 refine Gc ?_
 refine bx fun b2=> ?_
 refine Gc ?_
 refine ae (bV (v:= .agg (cc KW)) rfl (fun w=>by kernel_rfl)) ?_
 refine ae (bV (v:= .agg (bY (ov h).p)) rfl (fun w=>by kernel_rfl)) ?_
 refine Gs ?_
 refine ae (bV (v:= .agg (aw (ov h))) rfl (fun w=>by kernel_rfl)) ?_
 refine Gs ?_
 refine Gc ?_
 refine an (.inl rfl) (aK rfl (bG rfl)) (fun w1 hw=> ?_)
 exact⟨rfl,ah.mem hw⟩
instance agw{w0:World}{L:List aj}{h:UInt16}:bU Tryz.prog 53 w0 L [.int .u16 (h.toNat:Nat)] (.agg (aw (ov h))) (True):=⟨fun hp w hw=>Xd w h⟩
theorem Xe(w:World):Calls Tryz.prog 20 #[] w fun e w'=>e= .returned (.bool true)∧Mem w [] w':=by
 refine aW (args:=[]) Tryz.func20 rfl Tryz.ntmps20 rfl ?_
 change Cw _ _ _ _ _ [] []
 refine Gc ?_
 refine Gs ?_
 refine Gc ?_
 refine bp rfl trivial fun fE oo=> ?_
 have rn:cv fE=Fe.1:=oo
 have gN:(oR 6 2 64).2=0:=W3
 have Xf:dK fE:=pT (by rw[rn];decide+kernel)
 refine Gs ?_
 refine ae (aU (v:= .agg (aB fE)) rfl rfl) ?_
 refine ae (aU (v:= .int .i64 ((oR 6 2 64).2)) rfl rfl) ?_
 refine bx fun b1=> ?_
 iterate 2 refine Gs ?_
 refine Gc ?_
 refine Gs ?_
 refine bp rfl Xf fun eX yg=> ?_
 have Fg:bw eX=Ff.1:=by rw[yg,rn];rfl
 have gO:(pf (cv fE)).2=0:=by rw[rn];exact W4
 have Xg:=Xc Fg (by decide+kernel)
 refine Gs ?_
 refine ae (aU (v:= .agg (bQ eX)) rfl rfl) ?_
 refine ae (aU (v:= .int .i64 ((pf (cv fE)).2)) rfl rfl) ?_
 refine bx fun b3=> ?_
 iterate 2 refine Gs ?_
 refine Gc ?_
 refine oN [3,4,8,9,2003,2008,4004] [[],[],[],[],[3],[3,4],[3,4],[3,4],[],[3,4,8],[3,4,8,9]] [0,1,2,3,4,5,6,7,8,9,10] [ar b3 (bQ eX) 54,fz eX] [(3,nN gf 20 1 [(⟨ov 7,false⟩:Ch)]),(8,kF Tryz.prog 54)] (by kernel_rfl) (fun _ hw=>ah.mem hw) (by kernel_rfl) (by kernel_rfl) ?_
 refine ak rfl (dW rfl) ?_
 refine nM rfl (bX (vs:=[.int .u16 ((7:UInt16).toNat:Int)]) rfl trivial) ?_
 refine ak rfl (mV rfl) ?_
 refine mZ (m:=nN gf 20 1 [(⟨ov 7,false⟩:Ch)]) rfl rfl (zw (enc:=gf) (c:=20) (n:=1) (vals:=[.agg (gf (⟨ov 7,false⟩:Ch))]) [(⟨ov 7,false⟩:Ch)] rfl rfl rfl (by decide) (by decide)) (Cert.one (i:=8) rfl rfl rfl jZ (Cert.none rfl)) fun KX=> ?_
 change Ln _ _ _ _ _ _ _ _ (cm _ _ (Sv.val ⟨false,KX,0,1,1,none⟩)) (own gf 20 ⟨false,KX,0,1,1,none⟩ [(⟨ov 7,false⟩:Ch)]::_) _
 refine rS rfl rfl Xg (fun e x w hw=>ah.mem hw) (Cert.one (i:=8) rfl rfl rfl jZ (Cert.none rfl)) fun uz En=>⟨fun _ hw=>ah.mem hw,?_⟩
 have Xh:bw uz=Bb.1:=by rw[En,Fg];rfl
 have gP:(jO (bw eX) [(⟨ov 7,false⟩:Ch)]).2=0:=by rw[Fg];exact W5
 have KY:cv uz.aF.ai=Bb.1.aF.ai:=congrArg (fun z:FV=>z.aF.ai) Xh
 refine ak rfl (au rfl) ?_
 refine ak rfl (aU (v:= .agg (bQ uz)) rfl rfl) ?_
 refine ak rfl (aU (v:= .int .i64 ((jO (bw eX) [(⟨ov 7,false⟩:Ch)]).2)) rfl rfl) ?_
 refine mZ (m:=kF Tryz.prog 54) rfl rfl jZ (Cert.none rfl) fun b5=> ?_
 change Ln _ _ _ _ _ _ _ _ (cm _ _ (.pointer (some ⟨b5,0,none⟩))) (ar b5 (bQ iw) 54::_) _
 refine cK rfl (km rfl rfl ⟨fun _ hw=>ah.mem hw,?_⟩)
 refine ak rfl (aP rfl) ?_
 refine Gc ?_
 iterate 2 refine Gs ?_
 refine ae (eE rfl) ?_
 refine bp rfl trivial fun aC rf=> ?_
 have Bc:bw aC=uJ.1:=by rw[rf,KY];rfl
 have gQ:(cH (cv uz.aF.ai)).2=0:=by rw[KY];exact W6
 have gR:aC.table.xs.length=1:=by rw[show aC.table.xs=uJ.1.table from congrArg FV.table Bc];exact W9
 have gS:n4 (bw aC) uI 32=0:=by rw[Bc];exact W7
 have gT:(n0 (bw aC) uI 32).eA=7:=by rw[Bc];exact W8
 have gU:ft (bw aC)=true:=by rw[Bc];exact Xa
 have gA:qk 6 2 64=4:=Xb
 refine Gs ?_
 refine ae (aU (v:= .agg (bQ aC)) rfl rfl) ?_
 refine ae (aU (v:= .int .i64 ((cH (cv uz.aF.ai)).2)) rfl rfl) ?_
 refine bx fun b7=> ?_
 iterate 2 refine Gs ?_
 refine Gc ?_
 refine Gs ?_
 refine ae (bV (v:= .agg (cc uI)) rfl (fun w=>by kernel_rfl)) ?_
 iterate 2 refine Gs ?_
 refine ae (aU (v:= .agg (aw (n0 (bw aC) uI 32))) rfl rfl) ?_
 refine ae (aU (v:= .int .i64 (n4 (bw aC) uI 32)) rfl rfl) ?_
 refine bx fun b9=> ?_
 iterate 2 refine Gs ?_
 refine Gc ?_
 iterate 3 refine Gs ?_
 refine jV rfl rfl rfl (by simp[gN,gO,gP,gQ,gS,gT,gR,gU,gA]) (Ry.yl (au rfl)) ?_
 refine jV rfl rfl rfl (by simp[gN,gO,gP,gQ,gS,gT,gR,gU,gA]) (Ry.yl (bt rfl rfl rfl)) ?_
 refine ae (rN rfl (by simp[gN,gO,gP,gQ,gS,gT,gR,gU,gA]) rfl rfl) ?_
 refine Gs ?_
 refine jV rfl rfl rfl (by simp[gN,gO,gP,gQ,gS,gT,gR,gU,gA]) (Ry.yl (au rfl)) ?_
 refine jV rfl rfl rfl (by simp[gN,gO,gP,gQ,gS,gT,gR,gU,gA]) (Ry.yl (bt rfl rfl rfl)) ?_
 refine ae (rN rfl (by simp[gN,gO,gP,gQ,gS,gT,gR,gU,gA]) rfl rfl) ?_
 refine Gs ?_
 refine jV rfl rfl rfl (by simp[gN,gO,gP,gQ,gS,gT,gR,gU,gA]) (Ry.yl (au rfl)) ?_
 refine jV rfl rfl rfl (by simp[gN,gO,gP,gQ,gS,gT,gR,gU,gA]) (Ry.yl (bt rfl rfl rfl)) ?_
 refine ae (rN rfl (by simp[gN,gO,gP,gQ,gS,gT,gR,gU,gA]) rfl rfl) ?_
 refine Gs ?_
 refine jV rfl rfl rfl (by simp[gN,gO,gP,gQ,gS,gT,gR,gU,gA]) (Ry.yl (au rfl)) ?_
 refine jV rfl rfl rfl (by simp[gN,gO,gP,gQ,gS,gT,gR,gU,gA]) (Ry.yl (bt rfl rfl rfl)) ?_
 refine ae (rN rfl (by simp[gN,gO,gP,gQ,gS,gT,gR,gU,gA]) rfl rfl) ?_
 refine Gs ?_
 refine jV rfl rfl rfl (by simp[gN,gO,gP,gQ,gS,gT,gR,gU,gA]) (Ry.yl (aA (o':=18) rfl rfl)) ?_
 refine jV rfl rfl rfl (by simp[gN,gO,gP,gQ,gS,gT,gR,gU,gA]) (Ry.yl (bl rfl)) ?_
 refine jV rfl rfl rfl (by simp[gN,gO,gP,gQ,gS,gT,gR,gU,gA]) (Ry.yl (bt rfl rfl rfl)) ?_
 refine ae (rN rfl (by simp[gN,gO,gP,gQ,gS,gT,gR,gU,gA]) rfl rfl) ?_
 refine Gs ?_
 refine jV rfl rfl rfl (by simp[gN,gO,gP,gQ,gS,gT,gR,gU,gA]) (Ry.yl (aA (o':=9) rfl rfl)) ?_
 refine jV rfl rfl rfl (by simp[gN,gO,gP,gQ,gS,gT,gR,gU,gA]) (Ry.yl (bl rfl)) ?_
 refine jV rfl rfl rfl (by simp[gN,gO,gP,gQ,gS,gT,gR,gU,gA]) (Ry.yl (iT rfl)) ?_
 refine jV rfl rfl rfl (by simp[gN,gO,gP,gQ,gS,gT,gR,gU,gA]) (Ry.yl (bt rfl rfl rfl)) ?_
 refine ae (rN rfl (by simp[gN,gO,gP,gQ,gS,gT,gR,gU,gA]) rfl rfl) ?_
 refine Gs ?_
 refine jV rfl rfl rfl (by simp[gN,gO,gP,gQ,gS,gT,gR,gU,gA]) (Ry.yl (dW rfl)) ?_
 refine jV rfl rfl rfl (by simp[gN,gO,gP,gQ,gS,gT,gR,gU,gA]) (bX rfl trivial) ?_
 refine ae (rN rfl (by simp[gN,gO,gP,gQ,gS,gT,gR,gU,gA]) rfl rfl) ?_
 refine Gs ?_
 refine jV rfl rfl rfl (by simp[gN,gO,gP,gQ,gS,gT,gR,gU,gA]) (bX rfl trivial) ?_
 refine jV rfl rfl rfl (by simp[gN,gO,gP,gQ,gS,gT,gR,gU,gA]) (Ry.yl (bt rfl rfl rfl)) ?_
 refine ae (rN rfl (by simp[gN,gO,gP,gQ,gS,gT,gR,gU,gA]) rfl rfl) ?_
 refine Gs ?_
 refine Gc ?_
 refine an (.inl rfl) (aK rfl (al rfl)) (fun w1 hw=> ?_)
 exact⟨congrArg (fun b=>Ending.returned (Value.bool b)) ((by simp[gA])),ah.mem hw⟩
instance agx{w0:World}{L:List aj}:bU Tryz.prog 20 w0 L [] (.bool true) (True):=⟨fun hp w hw=>Xe w⟩
open Go.aL Go.Kb
open Go.RowKit
theorem Xi(w:World)(c:Cp)(f:b0)(k:Key)(bits:Int)(n:Int)(p:Int)(s:Int)(hc:Deep.bk (hp w) c)(hf:Deep.bk (hp w) f):Calls Tryz.prog 4 #[.agg (aB c), .agg (bQ f), .agg (cc k), .int .i64 bits, .int .i64 n, .int .i64 p, .int .i64 s] w fun e w'=>e= .returned (.bool true)∧Mem w [] w':=by
 have gy:bT w c:=⟨hc⟩
 have uF:bT w f:=⟨hf⟩
 have KD:=hf.2.1.bd
 have yo:=hf.1.2.1.bd
 refine aW (args:=[_,_,_,_,_,_,_]) Tryz.func4 rfl Tryz.ntmps4 rfl ?_
 change Cw _ _ _ _ _ [(0, .agg (aB c)),(1, .agg (bQ f)),(2, .agg (cc k)),(3, .int .i64 bits),(4, .int .i64 n),(5, .int .i64 p),(6, .int .i64 s)] []
 refine Gc ?_
 refine bL rfl fun b7=> ?_
 refine bL rfl fun b8=> ?_
 refine bL rfl fun b9=> ?_
 refine Gs ?_
 refine Gc ?_
 iterate 2 refine Gs ?_
 refine Gc ?_
 refine aq rfl (fun h0=> ?_) (fun h0=> ?_)
 ·
  exfalso;simp at h0
 ·
  replace h0:=bz h0
  refine Gc ?_
  iterate 4 refine Gs ?_
  refine Gg ?_
  refine bD rfl rfl rfl (fun hg=>(Ry.yl (aA (o':=0) (av hg rfl) rfl))) ?_
  refine bD rfl rfl rfl (fun hg=>(Ry.yl (eE (av hg rfl)))) ?_
  refine bD rfl rfl rfl (fun hg=>bX (cg (av hg rfl) dO) trivial) ?_
  refine bD rfl rfl rfl (fun hg=>(Ry.yl (fU (av hg rfl)))) ?_
  iterate 2 refine Gs ?_
  refine Gg ?_
  refine bD rfl rfl rfl (fun hg=>(Ry.yl (aA (o':=6) (av hg rfl) rfl))) ?_
  iterate 3 refine Gg ?_
  iterate 2 refine Gs ?_
  iterate 4 refine Gg ?_
  refine Gs ?_
  refine Gc ?_
  refine aq rfl (fun h1=> ?_) (fun h1=> ?_)
  ·
   replace h1:=bz h1
   refine Gc ?_
   refine Gs ?_
   refine Gc ?_
   refine an (.inl rfl) (aK rfl (al rfl)) (fun w1 hw=> ?_)
   exact⟨congrArg (fun b=>Ending.returned (Value.bool b)) (rfl),ah.mem hw⟩
  ·
   replace h1:=bz h1
   refine Gc ?_
   refine Gs ?_
   refine bp rfl trivial fun A7 E6=> ?_
   refine Gs ?_
   refine ae (aU (v:= .agg (bQ A7)) rfl rfl) ?_
   refine ae (aU (v:= .int .i64 ((cH (cv c)).2)) rfl rfl) ?_
   refine bx fun J1=> ?_
   iterate 2 refine Gs ?_
   refine Gc ?_
   refine Gs ?_
   refine bp rfl trivial fun nx wj=> ?_
   have Xj:bw A7=bw nx:=E6.trans wj.1.symm
   have Xk: ∀(L:List aj),aS w L nx.aF.ai:=fun L=>KQ (c:=c) wj.2
   have agy: ∀(L:List aj) [Hd w L nx.aF.at_.sv bf 1 nx.aF.at_.xs] [Hd w L nx.table.sv aw 19 nx.table.xs],aS w L nx:=fun L p q=>⟨fun w h=>⟨⟨(Xk L).h w h,⟨p.h w h,fun _ _=>trivial⟩⟩,⟨q.h w h,fun _ _=>trivial⟩⟩⟩
   refine Gs ?_
   refine ae (aU (v:= .agg (bQ nx)) rfl rfl) ?_
   refine ae (aU (v:= .int .i64 ((cH (cv c)).2)) rfl rfl) ?_
   refine bx fun b17=> ?_
   iterate 2 refine Gs ?_
   refine Gc ?_
   iterate 5 refine Gs ?_
   iterate 3 refine Gg ?_
   iterate 2 refine Gs ?_
   iterate 3 refine Gg ?_
   refine bD rfl rfl rfl (fun hg=>bX (cg (av hg rfl) (cg (av hg rfl) (cg (av hg rfl) dO))) trivial) ?_
   iterate 3 refine Gg ?_
   refine bD rfl rfl rfl (fun hg=>bX (cg (av hg rfl) (cg (av hg rfl) (cg (av hg rfl) dO))) trivial) ?_
   refine Gg ?_
   refine Gs ?_
   refine Gc ?_
   refine aq rfl (fun h2=> ?_) (fun h2=> ?_)
   ·
    exfalso;simp[Xj]at h2
   ·
    replace h2:=bz h2
    refine Gc ?_
    iterate 3 refine Gs ?_
    refine Gc ?_
    iterate 5 refine Gs ?_
    refine ae (aU (v:= .agg (aw (n0 (bw f) k bits))) rfl rfl) ?_
    refine ae (aU (v:= .int .i64 (n4 (bw f) k bits)) rfl rfl) ?_
    refine bx fun gz=> ?_
    iterate 2 refine Gs ?_
    refine Gc ?_
    iterate 3 refine Gs ?_
    refine ae (BB rfl rfl Tryz.underlying4) ?_
    refine Gc ?_
    refine aq rfl (fun h3=> ?_) (fun h3=> ?_)
    ·
     exfalso;simp at h3
    ·
     replace h3:=bz h3
     refine Gc ?_
     iterate 2 refine Gs ?_
     refine Gc ?_
     refine aq rfl (fun h4=> ?_) (fun h4=> ?_)
     ·
      replace h4:=bz h4
      have qp:n4 (bw f) k bits=1:=by rw[n4,if_neg (by rw[h4];simp)]
      have qq:n0 (bw f) k bits=fI:=by rw[n0,if_neg (by rw[h4];simp)]
      refine Gc ?_
      iterate 3 refine Gs ?_
      refine dG rfl rfl rfl (fun hg=>(Ry.yl (dW rfl))) ?_
      refine dG rfl rfl rfl (fun hg=>(Ry.yl (bV (v:= .agg (aw fI)) rfl (fun w=>by unfold aw bY fI;rw[ug];kernel_rfl)))) ?_
      refine dG rfl rfl rfl (fun hg=>(Ry.yl (yU (av hg rfl) (av hg rfl)))) ?_
      iterate 2 refine Gs ?_
      refine Gc ?_
      refine an (.inl rfl) (aK rfl (al rfl)) (fun w1 hw=> ?_)
      exact⟨congrArg (fun b=>Ending.returned (Value.bool b)) ((by simp[qp,qq])),ah.mem hw⟩
     ·
      replace h4:=bz h4
      have qp:n4 (bw f) k bits=jN f.table.xs k bits:=by rw[n4,if_pos h4];rfl
      have qq:n0 (bw f) k bits=iK f.table.xs k bits:=by rw[n0,if_pos h4];rfl
      have nw:dD f.table.xs=true:=QN h4
      refine Gc ?_
      iterate 4 refine Gs ?_
      refine dQ (bX rfl nw) ?_
      refine Gs ?_
      refine ae (aU (v:= .agg (aw (iK f.table.xs k bits))) rfl rfl) ?_
      refine ae (aU (v:= .int .i64 (jN f.table.xs k bits)) rfl rfl) ?_
      refine bx fun uo=> ?_
      iterate 2 refine Gs ?_
      refine Gc ?_
      iterate 2 refine Gs ?_
      refine ae (yU rfl rfl) ?_
      refine Gs ?_
      iterate 3 refine Gg ?_
      iterate 2 refine Gs ?_
      refine Gc ?_
      refine an (.inl rfl) (aK rfl (al rfl)) (fun w1 hw=> ?_)
      exact⟨congrArg (fun b=>Ending.returned (Value.bool b)) ((by simp[qp,qq])),ah.mem hw⟩
end Go.Proofs.YtaipiecplldinaaGreat
namespace Go.aL
open Go.ChangeShapes Go.WideShapes Go.ChangeAt Go.RowKit Go.Kb
variable {H:Type} {enc:TypeId×Value→H} {P:Program}
theorem KZ(hl:laidOutB P=true){W W':World}{sp:Nat→Bool}: ∀{ts:List TypeId} {vs:List Value} {ds:List (DataW H)} {ps:List MemPlace},
  (∀t∈ts,P.readableRec t=true∧t<P.types.size)→DataW.TrodAll enc P W 0 (fun _=>true) true ts vs ds ps→(∀p∈ps,W.sameAt W' p)→(∀p∈ps,sp p.block=true)→
  DataW.TrodAll enc P W' 0 sp true ts vs ds ps
 |[],_,_,_,_,h,_,_=>by
  obtain⟨rfl,rfl,rfl⟩:=trodAll_nil h
  exact rfl
 |t::_,_,_,_,ht,h,hs,hp=>by
  obtain⟨v,K0,d,K1,a,b,rfl,rfl,rfl,h1,h2⟩:=trodAll_cons h
  exact⟨a,b,WideElems.Trod_stays hl (ht t (by simp)).1 (ht t (by simp)).2 h1 (fun p h=>hs p (by simp[h])) (fun p h=>hp p (by simp[h])),
   KZ hl (fun t h=>ht t (by simp[h])) h2 (fun p h=>hs p (by simp[h])) (fun p h=>hp p (by simp[h])),rfl⟩
theorem Fh{W:World}{b:Nat}{sp:Nat→Bool}{hd:Bool}: ∀{ts:List TypeId} {vs:List Value} {ds:List (DataW H)} {ps:List MemPlace},
  DataW.TrodAll enc P W b sp hd ts vs ds ps→vs.length=ts.length∧ds.length=ts.length
 |[],_,_,_,h=>by
  obtain⟨rfl,rfl,rfl⟩:=trodAll_nil h
  exact⟨rfl,rfl⟩
 |_::_,_,_,_,h=>by
  obtain⟨v,K0,d,K1,a,b,rfl,rfl,rfl,h1,h2⟩:=trodAll_cons h
  have:=Fh h2
  simp[this.1,this.2]
theorem Xl(hl:laidOutB P=true){f:Func}{s:ChangeSpec}{apart fresh handsOn:Bool}{W W':World}{args:Array Value}{ds gs:List (DataW H)}{before:List MemPlace}{tb:TypeId}
  (hp:f.params.toList.all (fun t=>P.readableRec t&&decide (t<P.types.size))=true) (hr:f.resultTypes= #[tb]) (hb:P.underlying tb=some .bool) (hv:s.vars=[])
  (rp: ∀ds:List (DataW H),ds.length=f.params.size→s.fn H ds={results:=[.lit (.bool true)],args:=ds})
  (hW:DataW.Whole enc P f.params.toList s.vars apart W args.toList ds gs before) (K2:Below W.heap.size W W'):
  s.post enc P f apart fresh handsOn false W args (.bool true) W':=by
 have bB:=hW.lt
 have Xm:=hW
 obtain⟨p,q,hA,hV,rfl,kC,cr⟩:=hW
 rw[hv]at hV
 obtain⟨rfl,rfl⟩:=trodVars_none hV
 have hlen:=Fh hA
 have e1:s.fn H (ds++[])={results:=[.lit (.bool true)],args:=ds}:=by rw[List.append_nil];exact rp ds (by rw[hlen.2];simp)
 have kt: ∀t∈f.params.toList,P.readableRec t=true∧t<P.types.size:=fun t ht=>by
  simpa using List.all_eq_true.1 hp t ht
 refine⟨ds,[],p++[],[],p,[],Xm,?_,?_,?_,K2.frame _,fun h=>by cases h⟩
 ·
  rw[e1,hr];exact trodAll_mk1 (shut_bool hb true)
 ·
  rw[e1]
  exact KZ hl kt hA (fun x hx=>K2.same (bB x (by simp[hx]))) (fun x hx=>by simpa using bB x (by simp[hx]))
 ·
  rw[e1,hv];exact rfl
theorem Xn{w:World}{b:Nat}{e:TypeId}{v:Value}(he:P.underlying e=some (.int .i64))(h:Cell.okWide P w .any b e v): ∃n:Int,v= .int .i64 n∧ -2^63≤n∧n<2^63:=by
 cases v with
 |int k n=>
  simp only[Cell.okWide,he,Cell.ok,IntKind.has]at h
  obtain⟨rfl,h1,h2⟩:=h
  have a1:(-2^63:Int)≤n:=h1
  have a2:n≤(2^63 -1:Int):=h2
  exact⟨n,rfl,a1,by omega⟩
 |_=>simp[Cell.okWide,he,Cell.ok]at h
theorem Bd{w:World}{b:Nat}{t:TypeId}{v:Value}(he:P.underlying t=some (.int .i64))(h:Value.okWide P w .any b t v): ∃n:Int,v= .int .i64 n∧ -2^63≤n∧n<2^63:=by
 unfold Value.okWide at h
 rw[he]at h
 exact Xn he h
theorem K3{α:Type}{l:List α}(h:l.length=7): ∃a b c d e f g,l=[a,b,c,d,e,f,g]:=match l,h with|[a,b,c,d,e,f,g],_=>⟨a,b,c,d,e,f,g,rfl⟩
open Go.ChangeShapes Go.WideShapes Go.ChangeAt Go.RowKit Go.Kb
variable {P:Program}
theorem Fi{α:Type}{p:Nat→α→Prop}: ∀{n:Nat},(∀i,i<n→ ∃x,p i x)→ ∃l:List α,l.length=n∧ ∀i x,l[i]? =some x→p i x
 |0,_=>⟨[],rfl,fun i x h=>by simp at h⟩
 |n+1,h=>by
  obtain⟨l,hl,hp⟩:=Fi (n:=n) fun i hi=>h i (by omega)
  obtain⟨x,hx⟩:=h n (by omega)
  refine⟨l++[x],by simp[hl],fun i y hy=> ?_⟩
  by_cases hi:i<n
  ·
   rw[List.getElem?_append_left (by omega)]at hy;exact hp i y hy
  ·
   have:i=n:=by
    have:=(List.getElem?_eq_some_iff.1 hy).1
    rw[List.length_append,hl]at this;simp at this;omega
   subst this
   rw[List.getElem?_append_right (by omega),hl]at hy
   have:x=y:=by simpa using hy
   exact this▸hx
class fR(P:Program)(t:TypeId)(τ:Type)[Deep τ]:Prop where
 sz:P.cellsOf t=Deep.c τ
 h: ∀{H:Type} {enc:TypeId×Value→H} {w:World} {fuel:Nat} {cs:List Value} {d:DataW H} {ps:List MemPlace},DataW.trod enc P w 0 (fun _=>true) true fuel t cs=some (d,ps)→(∀n∈d.weights P t,n≤reachBytes)→
  ∃x:τ,(Deep.cells x).toList=cs∧Deep.bk (hp w) x
theorem Xo{w:World}{b:Nat}{a:Addr}{n:Nat}{cs:List Value}(h:w.cells? b a n=some cs):cs.length=n∧ ∀j,j<n→w.cell? (a.add j)=cs[j]? :=by
 unfold World.cells? at h
 split at h
 ·
  have hl:=mapM_some_length h
  refine⟨by simpa using hl,fun j hj=> ?_⟩
  exact mapM_some_get h j j (by simp[hj])
 ·
  cases h
theorem Fj{H:Type}{e:TypeId}{n:Nat}: ∀{l:List (DataW H)} {d:DataW H},d∈l→n∈d.weights P e→n∈DataW.weightsAll P e l
 |x::l,d,hd,hn=>by
  rw[DataW.weightsAll]
  rcases List.mem_cons.1 hd with rfl|hd
  ·
   exact List.mem_append_left _ hn
  ·
   exact List.mem_append_right _ (Fj hd hn)
theorem Fk{H:Type}{n:Nat}: ∀{ts:List TypeId} {l:List (DataW H)} {i:Nat} {t:TypeId} {d:DataW H},ts[i]? =some t→l[i]? =some d→n∈d.weights P t→n∈DataW.weightsEach P ts l
 |[],_,i,_,_,h,_,_=>by simp at h
 |_::_,[],i,_,_,_,h,_=>by simp at h
 |t0::ts,d0::l,0,t,d,ht,hd,hn=>by
  obtain rfl:t0=t:=by simpa using ht
  obtain rfl:d0=d:=by simpa using hd
  rw[DataW.weightsEach];exact List.mem_append_left _ hn
 |t0::ts,d0::l,i+1,t,d,ht,hd,hn=>by
  rw[DataW.weightsEach];exact List.mem_append_right _ (Fk (i:=i) (by simpa using ht) (by simpa using hd) hn)
theorem Xp:reachBytes≤140737488355328:=by decide
theorem oG{t e:TypeId}{τ:Type}[Deep τ](hu:P.underlying t=some (.slice e))(lP:Nat.ble 1 (P.bytesOf e)=true)(hc:1≤Deep.c τ)(hs:P.cellsOf t=1)[o:fR P e τ]:fR P t (Sl τ):=⟨hs,fun{H enc w fuel cs d ps} h hw=>by
 have hb:1≤P.bytesOf e:=Nat.le_of_ble_eq_true lP
 rcases Go.Deep.open_slice hu h with⟨rfl,_⟩|⟨a,len,cap,m,n,D,Pl,rfl,_,hl,_,hm,hx,zm⟩
 ·
  exact⟨⟨Sv.none,[]⟩,rfl,pJ⟩
 ·
  simp only[if_true]at hm
  subst hm
  have hd:d= .slice ((List.range len).map D) ((List.range (m -len)).map fun j=>D (len+j)):=congrArg Prod.fst hx
  subst hd
  simp only[DataW.weights,hu,List.length_map,List.length_range]at hw
  have tt:m≤140737488355328:=by
   have h1:=hw _ (List.mem_cons_self ..)
   have h2:(len+(m -len))*1≤(len+(m -len))*P.bytesOf e:=Nat.mul_le_mul_left _ hb
   have:=Xp;omega
  have K4: ∀i,i<m→ ∃cs',(cs'.length=Deep.c τ∧ ∀j,j<Deep.c τ→w.cell? ((a.add (i*Deep.c τ)).add j)=cs'[j]?)∧DataW.trod enc P w 0 (fun _=>true) true n e cs'=some (D i,Pl i):=fun i hi=>by
   obtain⟨cs',h1,h2⟩:=zm i hi
   rw[o.sz]at h1
   exact⟨cs',Xo h1,h2⟩
  have K5:0<m→a.spot=none:=fun hm=>by
   obtain⟨cs',⟨h1,h2⟩,_⟩:=K4 0 hm
   have h3:=h2 0 (by omega)
   have e0:(a.add (0*Deep.c τ)).add 0=a:=by simp[Addr.add]
   rw[e0,List.getElem?_eq_getElem (by omega)]at h3
   unfold World.cell? at h3
   split at h3
   ·
    split at h3
    ·
     cases h3
    ·
     rename_i hs;simpa using hs
   ·
    cases h3
  obtain⟨l,la,Be⟩:=Fi (p:=fun i (x:τ)=>(∀j,j<Deep.c τ→w.cell? ((a.add (i*Deep.c τ)).add j)=(Deep.cells x)[j]?)∧Deep.bk (hp w) x) (n:=len) fun i hi=>by
   obtain⟨cs',⟨h1,h2⟩,h3⟩:=K4 i (by omega)
   obtain⟨x,nT,m8⟩:=o.h h3 (fun k hk=>hw k (List.mem_cons_of_mem _ (List.mem_append_left _ (Fj (List.mem_map.2 ⟨i,List.mem_range.2 hi,rfl⟩) hk))))
   refine⟨x,fun j hj=> ?_,m8⟩
   rw[h2 j hj,←nT];simp
  refine⟨⟨⟨false,a.block,a.off,len,m,a.spot⟩,l⟩,rfl,⟨⟨(fun h=>by cases h),hl,by simp only;omega,K5⟩,by simp[la],fun i x hi j hj=> ?_⟩,fun x hx=> ?_⟩
  ·
   have gm:i<len:=by rw[←la];exact(List.getElem?_eq_some_iff.1 hi).1
   have h1:=(Be i x hi).1 j hj
   have hs:=K5 (by omega)
   have ea:(a.add (i*Deep.c τ)).add j=⟨a.block,a.off+i*Deep.c τ+j,none⟩:=by
    obtain⟨ab,ao,asp⟩:=a
    simp only at hs
    subst hs
    rw[Addr.fF,Addr.fF]
   rw[ea,pF]at h1
   exact h1
  ·
   obtain⟨i,hi⟩:=List.getElem?_of_mem hx
   exact(Be i x hi).2⟩
theorem ig{H:Type}{enc:TypeId×Value→H}{w:World}{fuel:Nat}{t:TypeId}{cs:List Value}{d:DataW H}{ps:List MemPlace}{fs:Array Field}(hu:P.underlying t=some (.struct fs))(h:DataW.trod enc P w 0 (fun _=>true) true fuel t cs=some (d,ps))(hw: ∀n∈d.weights P t,n≤reachBytes)
  {i tf off:Nat} (kW:(fs[i]?).map (fun f=>(f.type,f.offset))=some (tf,off)) (τ:Type) [Deep τ] [o:fR P tf τ]:cs.length=P.cellsOf t∧ ∃x:τ,(Deep.cells x).toList=(cs.drop off).take (Deep.c τ)∧Deep.bk (hp w) x:=by
 obtain⟨f,hf,e⟩:=Option.map_eq_some_iff.1 kW
 obtain⟨rfl,rfl⟩:=Prod.mk.inj e
 obtain⟨xs,n,_,hx,hl,hlen,hg⟩:=DataW.trod_struct hu h
 have h1:=hg i f hf
 have hi:i<xs.length:=by rw[hlen];exact(Array.getElem?_eq_some_iff.1 hf).1
 rw[List.getElem?_eq_getElem hi,o.sz]at h1
 have hd:d= .agg (xs.map (·.1)):=congrArg Prod.fst hx
 subst hd
 obtain⟨x,nT,m8⟩:=o.h (d:=xs[i].1) (ps:=xs[i].2) h1 (fun k hk=>hw k (by
  simp only[DataW.weights,hu]
  exact Fk (i:=i) (t:=f.type) (d:=xs[i].1) (by
   have:fs.toList[i]? =some f:=by simpa using hf
   rw[List.getElem?_map,this];rfl) (by simp[hi]) hk))
 exact⟨hl,x,nT,m8⟩
theorem Xq{H:Type}{enc:TypeId×Value→H}{w:World}{fuel:Nat}{t e:TypeId}{m:Nat}{cs:List Value}{d:DataW H}{ps:List MemPlace}(hu:P.underlying t=some (.array m e))(h:DataW.trod enc P w 0 (fun _=>true) true fuel t cs=some (d,ps))(hw: ∀n∈d.weights P t,n≤reachBytes)
  (τ:Type) [Deep τ] [o:fR P e τ]:cs.length=P.cellsOf t∧ ∀i,i<m→ ∃x:τ,(Deep.cells x).toList=(cs.drop (i*Deep.c τ)).take (Deep.c τ)∧Deep.bk (hp w) x:=by
 cases fuel with
 |zero=>simp[DataW.trod]at h
 |succ n=>
  unfold DataW.trod at h
  rw[hu]at h
  split at h<;>simp_all
  rename_i m' e' heq
  obtain⟨hl,xs,gW,hd⟩:=h
  obtain⟨rfl,rfl⟩:=heq
  intro i hi
  have hlen:=mapM_some_length gW
  have nB:i<xs.length:=by simpa[hlen]using hi
  have h1:=mapM_some_get gW i i (by simp[hi])
  rw[List.getElem?_eq_getElem nB,o.sz]at h1
  obtain⟨rfl,-⟩:=hd
  exact o.h (d:=xs[i].1) (ps:=xs[i].2) h1 (fun k hk=>hw k (by
   simp only[DataW.weights,hu]
   exact Fj (List.mem_map_of_mem (List.getElem_mem nB)) hk))
theorem wu{α:Type}{cs:List α}{a b:Nat}(h:cs.length=a+b):(cs.drop 0).take a++(cs.drop a).take b=cs:=by
 rw[List.drop_zero,List.take_of_length_le (l:=cs.drop a) (by rw[List.length_drop];omega),List.take_append_drop]
theorem Xr{α:Type}{cs:List α}{a b c:Nat}(h:cs.length=a+b+c):(cs.drop 0).take a++(cs.drop a).take b++(cs.drop (a+b)).take c=cs:=by
 have h1:=wu (cs:=cs) (a:=a+b) (b:=c) (by omega)
 conv=>rhs;rw[←h1]
 congr 1
 rw[List.drop_zero,List.take_add]
theorem Bf{α:Type}{cs:List α}{a b c d:Nat}(h:cs.length=a+b+c+d):(cs.drop 0).take a++(cs.drop a).take b++(cs.drop (a+b)).take c++(cs.drop (a+b+c)).take d=cs:=by
 have h1:=wu (cs:=cs) (a:=a+b+c) (b:=d) (by omega)
 conv=>rhs;rw[←h1]
 congr 1
 rw[List.drop_zero,List.take_add,List.take_add]
def Bg(n:Int):Array Value:= #[.int .i64 n]
instance:bF Bg 1:=⟨fun _=>rfl,fun _=>by simp[Bg,Value.oneCell']⟩
instance:Deep Int:=Deep.flat Bg 1
def yA(n:UInt16):Array Value:= #[.int .u16 n.toNat]
instance:bF yA 1:=⟨fun _=>rfl,fun _=>by simp[yA,Value.oneCell']⟩
instance:Deep UInt16:=Deep.flat yA 1
def Bh(b:Bool):Array Value:= #[.bool b]
instance:bF Bh 1:=⟨fun _=>rfl,fun _=>by simp[Bh,Value.oneCell']⟩
instance:Deep Bool:=Deep.flat Bh 1
theorem Xs{t:TypeId}(hu:P.underlying t=some (.int .i64))(hs:P.cellsOf t=1):fR P t Int:=⟨hs,fun h _=>by
 obtain⟨n,rfl,_,_⟩:=DataW.trod_int hu h
 exact⟨n,rfl,trivial⟩⟩
theorem Xt{t:TypeId}(hu:P.underlying t=some (.int .u8))(hs:P.cellsOf t=1):fR P t UInt8:=⟨hs,fun h _=>by
 obtain⟨n,rfl,_,hw⟩:=DataW.trod_int hu h
 simp only[Lit.wf,Bool.and_eq_true,decide_eq_true_eq]at hw
 have h1:(0:Int)≤n:=hw.1
 have h2:n≤(255:Int):=hw.2
 refine⟨UInt8.ofNat n.toNat,?_,trivial⟩
 have:((UInt8.ofNat n.toNat).toNat:Int)=n:=by simp;omega
 show(aJ (UInt8.ofNat n.toNat)).toList=_
 simp only[aJ,this]⟩
theorem Xu{t:TypeId}(hu:P.underlying t=some (.int .u16))(hs:P.cellsOf t=1):fR P t UInt16:=⟨hs,fun h _=>by
 obtain⟨n,rfl,_,hw⟩:=DataW.trod_int hu h
 simp only[Lit.wf,Bool.and_eq_true,decide_eq_true_eq]at hw
 have h1:(0:Int)≤n:=hw.1
 have h2:n≤(65535:Int):=hw.2
 refine⟨UInt16.ofNat n.toNat,?_,trivial⟩
 have:((UInt16.ofNat n.toNat).toNat:Int)=n:=by simp;omega
 show(yA (UInt16.ofNat n.toNat)).toList=_
 simp only[yA,this]⟩
theorem open_bool{t:TypeId}(hu:P.underlying t=some .bool)(hs:P.cellsOf t=1):fR P t Bool:=⟨hs,fun h _=>by
 obtain⟨n,rfl,_⟩:=DataW.trod_bool hu h
 exact⟨n,rfl,trivial⟩⟩
theorem Xv{H:Type}{enc:TypeId×Value→H}{w:World}{b:Nat}{t:TypeId}{τ:Type}[Deep τ][o:fR P t τ](hu: ∃d,P.underlying t=some d∧rB d=true){v:Value}{d:DataW H}{ps:List MemPlace}(hv:Value.okWide P w .any b t v)(h:DataW.Trod enc P w 0 (fun _=>true) true t v d ps)(hw: ∀n∈d.weights P t,n≤reachBytes):
  ∃x:τ,v= .agg (Deep.cells x)∧Deep.bk (hp w) x:=by
 obtain⟨fuel,h⟩:=h
 obtain⟨x,h1,h2⟩:=o.h h hw
 refine⟨x,?_,h2⟩
 obtain⟨dd,J2,Dj⟩:=hu
 have hc: ∃cs,v= .agg cs:=by
  unfold Value.okWide at hv
  rw[J2]at hv
  cases dd<;>simp[rB]at Dj
  ·
   obtain⟨cs,rfl,_⟩:=hv;exact⟨cs,rfl⟩
  ·
   obtain⟨cs,rfl,_⟩:=hv;exact⟨cs,rfl⟩
 obtain⟨cs,rfl⟩:=hc
 have:(Deep.cells x).toList=cs.toList:=h1
 rw[Array.toList_inj.1 this]
structure Arg(H:Type)(enc:TypeId×Value→H)(P:Program)(W:World)(b:Nat)(t:TypeId)(v:Value):Prop where
 ok:Value.okWide P W .any b t v
 trod: ∃d ps,DataW.Trod enc P W 0 (fun _=>true) true t v d ps∧ ∀n∈d.weights P t,n≤reachBytes
theorem Arg.agg{H:Type}{enc:TypeId×Value→H}{W:World}{b:Nat}{t:TypeId}{v:Value}(h:Arg H enc P W b t v){n:Nat}(hu:eQ P t n)(τ:Type)[Deep τ][o:fR P t τ]: ∃x:τ,v= .agg (Deep.cells x)∧Deep.bk (hp W) x:=by
 obtain⟨d,ps,h1,h2⟩:=h.trod
 exact Xv hu.row h.ok h1 h2
theorem K6{H:Type}{enc:TypeId×Value→H}{W:World}{sp:Nat→Bool}{hd:Bool}: ∀{ts:List TypeId} {vs:List Value} {ds:List (DataW H)} {ps:List MemPlace},DataW.TrodAll enc P W 0 sp hd ts vs ds ps→ ∀(j:Nat) (t:TypeId) (v:Value),ts[j]? =some t→vs[j]? =some v→
  ∃d p,ds[j]? =some d∧DataW.Trod enc P W 0 sp hd t v d p
 |[],_,_,_,h,j,_,_,ht,_=>by simp at ht
 |t0::ts,vs,ds,ps,h,j,t,v,ht,hv=>by
  obtain⟨v0,K0,d0,K1,a,b,rfl,rfl,rfl,h1,h2⟩:=trodAll_cons h
  cases j with
  |zero=>
   obtain rfl:t0=t:=by simpa using ht
   obtain rfl:v0=v:=by simpa using hv
   exact⟨d0,a,rfl,h1⟩
  |succ j=>exact K6 h2 j t v (by simpa using ht) (by simpa using hv)
theorem Xw{H:Type}{enc:TypeId×Value→H}{C:Checked}{os:Os}{f:FuncId}{fn:Func}{s:ChangeSpec}{conds:List PathCond}{apart fresh handsOn:Bool}{tb:TypeId}
  (own:ownKnob C.prog.godebug=none) (started:os.Started) (Xx:C.prog.inits.idxOf? f=none) (Xy:C.prog.funcs[f]? =some fn)
  (Xz: ∃(w:World) (tape:Tape) (i:Input),w.os=os∧(w.forCall tape i).Shaped C.prog∧i.vars=[]∧Input.okWide C.prog (w.forCall tape i) .any w.heap.size f i∧
   s.pre6 enc C.prog fn conds apart (w.forCall tape i).memory i.args∧({}:Assume).holds C.prog (lone (Frame.enter C.prog f i.args .normal) [] (w.forCall tape i)))
  (hl:laidOutB C.prog=true) (hp:fn.params.toList.all (fun t=>C.prog.readableRec t&&decide (t<C.prog.types.size))=true) (hr:fn.resultTypes= #[tb]) (hb:C.prog.underlying tb=some .bool)
  (hv:s.vars=[]) (rp: ∀ds:List (DataW H),ds.length=fn.params.size→s.fn H ds={results:=[.lit (.bool true)],args:=ds})
  (XA: ∀(W:World) (base:Nat) (vs:List Value),vs.length=fn.params.size→(∀(j:Nat) t v,fn.params[j]? =some t→vs[j]? =some v→Arg H enc C.prog W base t v)→
   Calls C.prog f vs.toArray W fun e W'=>e= .returned (.bool true)∧Mem W [] W'):
  ReturnsInHanded {} C os f .any (s.pre6 enc C.prog fn conds apart) (s.post enc C.prog fn apart fresh handsOn false):=by
 refine returnsInHanded_of_change_shaped own started Xx Xy Xz ?_
 intro W base args ds gs before XB hW _ nC _ _
 have hlen:args.toList.length=fn.params.size:=by
  obtain⟨p,q,hA,_⟩:=hW
  rw[(Fh hA).1];simp
 have h:=XA W base args.toList hlen (fun j t v h1 h2=>⟨XB j t v h1 (by simpa using h2),by
  obtain⟨p,q,hA,_⟩:=hW
  obtain⟨d,pp,hd,ht⟩:=K6 hA j t v (by simpa using h1) h2
  refine⟨d,pp,ht,fun n hn=> ?_⟩
  have hh:=List.all_eq_true.1 nC n (Fk (i:=j) (t:=t) (d:=d) (by rw[List.getElem?_append_left (by have:=(Array.getElem?_eq_some_iff.1 h1).1;simpa using this)];simpa using h1)
   (by rw[List.getElem?_append_left (List.getElem?_eq_some_iff.1 hd).1];exact hd) hn)
  simpa using hh⟩)
 rw[Array.toArray_toList]at h
 exact h.mono fun e W' hh=>⟨_,hh.1,Xl hl hp hr hb hv rp hW hh.2.below⟩
end Go.aL
namespace Go.Proofs.YtaipiecplldinaaGreat
open Go.aL Go.Kb
instance op3:fR Tryz.prog 3 Int:=Xs Tryz.underlying3 (by kernel_rfl)
instance op4:fR Tryz.prog 4 Bool:=open_bool Tryz.underlying4 (by kernel_rfl)
instance op5:fR Tryz.prog 5 UInt8:=Xt Tryz.underlying5 (by kernel_rfl)
instance agz:fR Tryz.prog 66 UInt16:=Xu Tryz.underlying66 (by kernel_rfl)
instance:bF cc 16:=⟨fX,fun k=>(inferInstance:fv (cc k) 16).one⟩
instance:Deep Key:=Deep.flat cc 16
instance:bF bY 18:=⟨mW,fun k=>(inferInstance:fv (bY k) 18).one⟩
instance:Deep cF:=Deep.flat bY 18
instance agA:fR Tryz.prog 56 Key:=⟨by kernel_rfl,fun h hw=>by
 obtain⟨hl,he⟩:=Xq Tryz.underlying56 h hw UInt8
 rw[show Tryz.prog.cellsOf 56=16 from by kernel_rfl]at hl
 obtain⟨l,la,Be⟩:=Fi (p:=fun i (x:UInt8)=>_) he
 refine⟨lQ fun i=>(l.getD i 0).toNat,?_,trivial⟩
 refine List.ext_getElem? fun i=> ?_
 rw[Array.getElem?_toList]
 rcases Nat.lt_or_ge i 16 with hi|hi
 ·
  have hx:l[i]? =some (l.getD i 0):=iU (by omega)
  have h1:=congrArg (·[0]?) (Be i _ hx).1
  simp only[List.getElem?_take,List.getElem?_drop]at h1
  rw[if_pos (by decide),show i*Deep.c UInt8+0=i from Nat.mul_one i]at h1
  have h3:some (Value.int .u8 (l.getD i 0).toNat)=_:=h1
  have e8:(l.getD i 0).toNat%2^8=(l.getD i 0).toNat:=Nat.mod_eq_of_lt (l.getD i 0).toNat_lt
  show(cc _)[i]? =_
  rw[jn _ _ hi,nI _ _ hi,e8,←h3]
 ·
  show(cc _)[i]? =_
  rw[Gb _ _ hi,List.getElem?_eq_none (by omega)]⟩
instance agB:fR Tryz.prog 65 cF:=⟨by kernel_rfl,fun h hw=>by
 obtain⟨hl,x0,h0,-⟩:=ig Tryz.underlying65 h hw (i:=0) (tf:=3) (off:=0) rfl Int
 obtain⟨-,x1,h1,-⟩:=ig Tryz.underlying65 h hw (i:=1) (tf:=3) (off:=1) rfl Int
 obtain⟨-,x2,h2,-⟩:=ig Tryz.underlying65 h hw (i:=2) (tf:=56) (off:=2) rfl Key
 refine⟨⟨x0,x1,x2⟩,?_,trivial⟩
 refine Eq.trans ?_ (Xr (a:=1) (b:=1) (c:=16) (hl.trans (by kernel_rfl)))
 rw[show(Deep.cells (⟨x0,x1,x2⟩:cF)).toList=(Deep.cells x0).toList++(Deep.cells x1).toList++(Deep.cells x2).toList from by show(bY _).toList=_;unfold bY;rw[Array.toList_append];rfl,h0,h1,h2]
 rfl⟩
instance agC:fR Tryz.prog 68 Rt:=⟨by kernel_rfl,fun h hw=>by
 obtain⟨hl,x0,h0,-⟩:=ig Tryz.underlying68 h hw (i:=0) (tf:=65) (off:=0) rfl cF
 obtain⟨-,x1,h1,-⟩:=ig Tryz.underlying68 h hw (i:=1) (tf:=66) (off:=18) rfl UInt16
 refine⟨⟨x0,x1⟩,?_,trivial⟩
 refine Eq.trans ?_ (wu (a:=18) (b:=1) (hl.trans (by kernel_rfl)))
 rw[show(Deep.cells (⟨x0,x1⟩:Rt)).toList=(Deep.cells x0).toList++(Deep.cells x1).toList from by show(aw _).toList=_;unfold aw;rw[Array.toList_append];rfl,h0,h1]
 rfl⟩
instance agD:fR Tryz.prog 26 (Sl Int):=oG Tryz.underlying26 (by kernel_rfl) (by decide) (by kernel_rfl)
instance agE:fR Tryz.prog 38 (Sl UInt8):=oG Tryz.underlying38 (by kernel_rfl) (by decide) (by kernel_rfl)
instance agF:fR Tryz.prog 46 (Sl (Sl UInt8)):=oG Tryz.underlying46 (by kernel_rfl) (by decide) (by kernel_rfl)
instance agG:fR Tryz.prog 52 (Sl Rt):=oG Tryz.underlying52 (by kernel_rfl) (by decide) (by kernel_rfl)
end Go.Proofs.YtaipiecplldinaaGreat
namespace Go.aL
open Go.RowKit Go.Kb
instance (priority:=high) agH:Deep Int:=Deep.flat Bg 1
open Go.RowKit Go.Kb
def yB(n:UInt64):Array Value:= #[.int .u64 n.toNat]
instance:bF yB 1:=⟨fun _=>rfl,fun _=>by simp[yB,Value.oneCell']⟩
instance agI:Deep UInt64:=Deep.flat yB 1
instance (priority:=high) agJ:Deep Bool:=Deep.flat Bh 1
theorem XC{P:Program}{t:TypeId}(hu:P.underlying t=some (.int .u64))(hs:P.cellsOf t=1):fR P t UInt64:=⟨hs,fun h _=>by
 obtain⟨n,rfl,_,hw⟩:=DataW.trod_int hu h
 simp only[Lit.wf,Bool.and_eq_true,decide_eq_true_eq]at hw
 have h1:(0:Int)≤n:=hw.1
 have h2:n≤(18446744073709551615:Int):=hw.2
 refine⟨UInt64.ofNat n.toNat,?_,trivial⟩
 have:((UInt64.ofNat n.toNat).toNat:Int)=n:=by simp;omega
 show(yB (UInt64.ofNat n.toNat)).toList=_
 simp only[yB,this]⟩
theorem XD{α:Type}{cs:List α}{a b c d e f:Nat}(h:cs.length=a+b+c+d+e+f):(cs.drop 0).take a++(cs.drop a).take b++(cs.drop (a+b)).take c++(cs.drop (a+b+c)).take d++(cs.drop (a+b+c+d)).take e++(cs.drop (a+b+c+d+e)).take f=cs:=by
 have h1:=wu (cs:=cs) (a:=a+b+c+d+e) (b:=f) (by omega)
 have h2:=wu (cs:=cs.take (a+b+c+d+e)) (a:=a+b+c+d) (b:=e) (by rw[List.length_take];omega)
 have h3:=Bf (cs:=(cs.take (a+b+c+d+e)).take (a+b+c+d)) (a:=a) (b:=b) (c:=c) (d:=d) (by simp only[List.length_take];omega)
 conv=>rhs;rw[←h1]
 congr 1
 rw[List.drop_zero,List.take_add,List.take_add,List.take_add,List.take_add]
end Go.aL
namespace Go.Proofs.YtaipiecplldinaaGreat
open Go.aL Go.Kb
open Go.ChangeShapes Go.WideShapes Go.ChangeAt Go.RowKit
instance agK:fR Tryz.prog 27 UInt64:=XC Tryz.underlying27 (by kernel_rfl)
instance agL:fR Tryz.prog 94 Ft:=⟨by kernel_rfl,fun h hw=>by
 obtain⟨hl,x0,h0,-⟩:=ig Tryz.underlying94 h hw (i:=0) (tf:=3) (off:=0) rfl Int
 obtain⟨-,x1,h1,-⟩:=ig Tryz.underlying94 h hw (i:=1) (tf:=4) (off:=1) rfl Bool
 obtain⟨-,x2,h2,-⟩:=ig Tryz.underlying94 h hw (i:=2) (tf:=4) (off:=2) rfl Bool
 obtain⟨-,x3,h3,-⟩:=ig Tryz.underlying94 h hw (i:=3) (tf:=5) (off:=3) rfl UInt8
 refine⟨⟨x0,x1,x2,x3⟩,?_,trivial⟩
 refine Eq.trans ?_ (Bf (a:=1) (b:=1) (c:=1) (d:=1) (hl.trans (by kernel_rfl)))
 rw[show(Deep.cells (⟨x0,x1,x2,x3⟩:Ft)).toList=(Deep.cells x0).toList++(Deep.cells x1).toList++(Deep.cells x2).toList++(Deep.cells x3).toList from rfl,h0,h1,h2,h3]
 rfl⟩
instance agM:fR Tryz.prog 23 (Sl Ft):=oG Tryz.underlying23 (by kernel_rfl) (by decide) (by kernel_rfl)
instance agN:fR Tryz.prog 48 Bk:=⟨by kernel_rfl,fun h hw=>by
 obtain⟨hl,x0,h0,g0⟩:=ig Tryz.underlying48 h hw (i:=0) (tf:=46) (off:=0) rfl (Sl (Sl UInt8))
 obtain⟨-,x1,h1,-⟩:=ig Tryz.underlying48 h hw (i:=1) (tf:=3) (off:=1) rfl Int
 obtain⟨-,x2,h2,-⟩:=ig Tryz.underlying48 h hw (i:=2) (tf:=3) (off:=2) rfl Int
 obtain⟨-,x3,h3,-⟩:=ig Tryz.underlying48 h hw (i:=3) (tf:=4) (off:=3) rfl Bool
 refine⟨⟨x0,x1,x2,x3⟩,?_,g0⟩
 refine Eq.trans ?_ (Bf (a:=1) (b:=1) (c:=1) (d:=1) (hl.trans (by kernel_rfl)))
 rw[show(Deep.cells (⟨x0,x1,x2,x3⟩:Bk)).toList=(Deep.cells x0).toList++(Deep.cells x1).toList++(Deep.cells x2).toList++(Deep.cells x3).toList from rfl,h0,h1,h2,h3]
 rfl⟩
instance agO:fR Tryz.prog 22 (Sl Bk):=oG Tryz.underlying22 (by kernel_rfl) (by decide) (by kernel_rfl)
instance agP:fR Tryz.prog 25 Cp:=⟨by kernel_rfl,fun h hw=>by
 obtain⟨hl,x0,h0,-⟩:=ig Tryz.underlying25 h hw (i:=0) (tf:=3) (off:=0) rfl Int
 obtain⟨-,x1,h1,-⟩:=ig Tryz.underlying25 h hw (i:=1) (tf:=3) (off:=1) rfl Int
 obtain⟨-,x2,h2,g2⟩:=ig Tryz.underlying25 h hw (i:=2) (tf:=22) (off:=2) rfl (Sl Bk)
 obtain⟨-,x3,h3,-⟩:=ig Tryz.underlying25 h hw (i:=3) (tf:=3) (off:=3) rfl Int
 obtain⟨-,x4,h4,-⟩:=ig Tryz.underlying25 h hw (i:=4) (tf:=4) (off:=4) rfl Bool
 obtain⟨-,x5,h5,g5⟩:=ig Tryz.underlying25 h hw (i:=5) (tf:=23) (off:=5) rfl (Sl Ft)
 refine⟨⟨x0,x1,x2,x3,x4,x5⟩,?_,⟨g2,g5⟩⟩
 refine Eq.trans ?_ (XD (a:=1) (b:=1) (c:=1) (d:=1) (e:=1) (f:=1) (hl.trans (by kernel_rfl)))
 rw[show(Deep.cells (⟨x0,x1,x2,x3,x4,x5⟩:Cp)).toList=(Deep.cells x0).toList++(Deep.cells x1).toList++(Deep.cells x2).toList++(Deep.cells x3).toList++(Deep.cells x4).toList++(Deep.cells x5).toList from rfl,h0,h1,h2,h3,h4,h5]
 rfl⟩
instance agQ:fR Tryz.prog 29 bI:=⟨by kernel_rfl,fun h hw=>by
 obtain⟨hl,x0,h0,g0⟩:=ig Tryz.underlying29 h hw (i:=0) (tf:=25) (off:=0) rfl Cp
 obtain⟨-,x1,h1,g1⟩:=ig Tryz.underlying29 h hw (i:=1) (tf:=26) (off:=6) rfl (Sl Int)
 obtain⟨-,x2,h2,-⟩:=ig Tryz.underlying29 h hw (i:=2) (tf:=27) (off:=7) rfl UInt64
 obtain⟨-,x3,h3,-⟩:=ig Tryz.underlying29 h hw (i:=3) (tf:=3) (off:=8) rfl Int
 refine⟨⟨x0,x1,x2,x3⟩,?_,⟨g0,g1⟩⟩
 refine Eq.trans ?_ (Bf (a:=6) (b:=1) (c:=1) (d:=1) (hl.trans (by kernel_rfl)))
 rw[show(Deep.cells (⟨x0,x1,x2,x3⟩:bI)).toList=(Deep.cells x0).toList++(Deep.cells x1).toList++(Deep.cells x2).toList++(Deep.cells x3).toList from rfl,h0,h1,h2,h3]
 rfl⟩
open Go.aL Go.Kb
open Go.ChangeShapes Go.WideShapes Go.ChangeAt Go.RowKit
instance agR:fR Tryz.prog 54 b0:=⟨by kernel_rfl,fun h hw=>by
 obtain⟨hl,x0,h0,g0⟩:=ig Tryz.underlying54 h hw (i:=0) (tf:=29) (off:=0) rfl bI
 obtain⟨-,x1,h1,g1⟩:=ig Tryz.underlying54 h hw (i:=1) (tf:=52) (off:=9) rfl (Sl Rt)
 refine⟨⟨x0,x1⟩,?_,⟨g0,g1⟩⟩
 refine Eq.trans ?_ (wu (a:=9) (b:=1) (hl.trans (by kernel_rfl)))
 rw[show(Deep.cells (⟨x0,x1⟩:b0)).toList=(Deep.cells x0).toList++(Deep.cells x1).toList from rfl,h0,h1]
 rfl⟩
open Go.aL Go.Kb Go.ChangeShapes Go.WideShapes Go.ChangeAt Go.RowKit
theorem Tryz.own:ownKnob Tryz.prog.godebug=none:=by kernel_rfl
theorem Tryz.laidOut:laidOutB Tryz.prog=true:=by kernel_rfl
set_option maxRecDepth 100000 in
theorem XE{H:Type}{enc:TypeId×Value→H}(W:World)(base:Nat)(vs:List Value)(hl:vs.length=7)(h: ∀(j:Nat) t v,Tryz.f4.params[j]? =some t→vs[j]? =some v→Arg H enc Tryz.prog W base t v):
  Calls Tryz.prog 4 vs.toArray W fun e W'=>e= .returned (.bool true)∧Mem W [] W':=by
 rw[Tryz.params4]at h
 obtain⟨v0,v1,v2,v3,v4,v5,v6,rfl⟩:=K3 hl
 obtain⟨x0,rfl,g0⟩:=(h 0 25 v0 rfl rfl).agg (inferInstance:eQ Tryz.prog 25 _) Cp
 obtain⟨x1,rfl,g1⟩:=(h 1 54 v1 rfl rfl).agg (inferInstance:eQ Tryz.prog 54 _) b0
 obtain⟨x2,rfl,-⟩:=(h 2 56 v2 rfl rfl).agg (inferInstance:eQ Tryz.prog 56 _) Key
 obtain⟨x3,rfl,b3⟩:=Bd (t:=3) Tryz.underlying3 (h 3 3 v3 rfl rfl).ok
 obtain⟨x4,rfl,b4⟩:=Bd (t:=3) Tryz.underlying3 (h 4 3 v4 rfl rfl).ok
 obtain⟨x5,rfl,b5⟩:=Bd (t:=3) Tryz.underlying3 (h 5 3 v5 rfl rfl).ok
 obtain⟨x6,rfl,b6⟩:=Bd (t:=3) Tryz.underlying3 (h 6 3 v6 rfl rfl).ok
 exact Xi W x0 x1 x2 x3 x4 x5 x6 g0 g1
set_option maxRecDepth 100000 in
theorem XF(os:Os)(started:os.Started)(H:Type)(enc:TypeId×Value→H):
  ReturnsInHanded {} Tryz.checked os 4 .any (Rows.fibMountsSpec.pre6 enc Tryz.prog Tryz.f4 Rows.fibMountsRow.domain false) (Rows.fibMountsSpec.post enc Tryz.prog Tryz.f4 false true false false):=
 Xw (C:=Tryz.checked) Tryz.own started (by kernel_rfl) Tryz.func4
  (ChangeSpec.witness6 (enc:=enc) (C:=Tryz.checked) false ⟨#[],#[.agg #[.int .i64 0, .int .i64 0, .slice none 0 0, .int .i64 0, .bool false, .slice none 0 0], .agg #[.int .i64 0, .int .i64 0, .slice none 0 0, .int .i64 0, .bool false, .slice none 0 0, .slice none 0 0, .int .u64 0, .int .i64 0, .slice none 0 0], .agg #[.int .u8 0, .int .u8 0, .int .u8 0, .int .u8 0, .int .u8 0, .int .u8 0, .int .u8 0, .int .u8 0, .int .u8 0, .int .u8 0, .int .u8 0, .int .u8 0, .int .u8 0, .int .u8 0, .int .u8 0, .int .u8 0], .int .i64 0, .int .i64 0, .int .i64 0, .int .i64 0],[]⟩ 24 (by kernel_rfl) (by kernel_rfl) (by kernel_rfl) (by kernel_rfl))
  Tryz.laidOut (by kernel_rfl) rfl Tryz.underlying4 rfl (fun ds hd=>by obtain⟨d0,d1,d2,d3,d4,d5,d6,rfl⟩:=K3 (hd.trans (by kernel_rfl));rfl)
  (fun W base vs hl h=>XE W base vs (hl.trans (by kernel_rfl)) h)
theorem fibMounts_holds:Rows.FibMountsSaid:=
 OpenClaim.holds_of_wide 4 Tryz.f4 rfl rfl rfl rfl rfl rfl rfl ⟨rfl,rfl,rfl,rfl,rfl⟩ rfl rfl rfl rfl rfl (by kernel_rfl) Tryz.func4 (by kernel_rfl)
  (of_decide_eq_true (by kernel_rfl)) (by unfold Func.isWrapper;first|(rw[if_pos (by decide+kernel)];kernel_rfl)|(rw[if_neg (by decide+kernel)];exact⟨rfl,rfl⟩))
  (fun os started H enc _=>XF os started H enc)
end Go.Proofs.YtaipiecplldinaaGreat
