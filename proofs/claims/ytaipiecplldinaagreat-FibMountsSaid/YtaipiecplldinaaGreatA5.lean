/- Part of a proof. -/
import Derived.Test.YtaipiecplldinaaGreatA4
import Derived.Test.YtaipiecplldinaaGreatA3
import Derived.Test.YtaipiecplldinaaGreatA1
import Derived.Test.YtaipiecplldinaaGreatA2
set_option maxRecDepth 20000
set_option linter.unusedSimpArgs false
set_option linter.unusedVariables false
namespace Go.Proofs.YtaipiecplldinaaGreat
open Go.aL Go.Kb
open Go.RowKit
theorem Te(w:World)(c:Cp)(b:Int)(hc:Deep.bk (hp w) c)(ba:dK c):Calls Tryz.prog 145 #[.agg (aB c), .int .i64 b] w fun e w'=> ∃zz:Cp,e= .returned (.tuple #[.agg (aB zz), .int .i64 (eD (cv c) b)])∧(cv zz=k9 (cv c) b)∧Mem w [fz zz] w':=by
 have gy:bT w c:=⟨hc⟩
 have kv:dK c:=ba
 obtain⟨kQ,kr,np⟩:=ba
 have o8:dJ=1099511627776:=rfl
 have n9:=rZ (c:=c) (b:=b)
 have hwe:(c.blocks.xs.getD b.toNat k6).bE=(aO (cv c) b).bE:=congrArg BV.bE n9
 refine aW (args:=[_,_]) Tryz.func145 rfl Tryz.ntmps145 rfl ?_
 change Cw _ _ _ _ _ [(0, .agg (aB c)),(1, .int .i64 b)] []
 refine Gc ?_
 refine bL rfl fun b2=> ?_
 refine bx fun b4=> ?_
 refine Gs ?_
 refine Gc ?_
 refine Gs ?_
 refine bp rfl (by assumption) fun aD jB=> ?_
 refine bx fun b6=> ?_
 refine Gs ?_
 refine Gc ?_
 iterate 5 refine Gs ?_
 iterate 3 refine Gg ?_
 iterate 2 refine Gs ?_
 iterate 3 refine Gg ?_
 refine bD rfl rfl rfl (fun hg=>(Ry.yl (aX (av hg rfl) (av hg rfl) b.toNat (by simp only[Z0,Z1,Z2,Z3,Z4,Z5,Z6,Z7,Z8,Z9]at hg;have:=(CP hg.1).1;omega) (by simp only[Z0,Z1,Z2,Z3,Z4,Z5,Z6,Z7,Z8,Z9]at hg;exact(CP hg.1).2)))) ?_
 refine bD rfl rfl rfl (fun hg=>(Ry.yl (aA (av hg rfl) rfl))) ?_
 refine bD rfl rfl rfl (fun hg=>(Ry.yl (bn (j:=2) (av hg rfl) b.toNat (iU (xs:=c.blocks.xs) (i:=b.toNat) (d:=k6) (by simp only[Z0,Z1,Z2,Z3,Z4,Z5,Z6,Z7,Z8,Z9]at hg;exact(CP hg.1).2)) rfl (by decide)))) ?_
 refine Gg ?_
 refine Gs ?_
 refine Gc ?_
 refine aq rfl (fun h0=> ?_) (fun h0=> ?_)
 ·
  replace h0:=bz h0
  have hz: ¬qN (cv c) b=true:=fun hk=>by
   obtain⟨k1,k2,k3⟩:=vj.1 hk
   rw[k1]at h0
   simp only[cv]at k2
   simp only[Bool.true_eq_false,false_or]at h0
   omega
  refine Gc ?_
  iterate 3 refine Gs ?_
  refine Gc ?_
  refine an (.inl rfl) (aZ rfl (bG rfl) (al rfl)) (fun w1 hw=> ?_)
  exact⟨aD,by rw[eD,if_neg hz],by rw[jB,k9,if_neg (fun h=>hz h.1)],lZ aD (ah.mem hw)⟩
 ·
  replace h0:=bz h0
  have hk:qN (cv c) b=true:=by
   cases k1:ko (cv c) b with
   |false=>rw[k1]at h0;simp at h0
   |true=>
    rw[k1]at h0
    simp only[Bool.true_eq_false,false_or]at h0
    exact vj.2 ⟨k1,by simp only[cv];omega,by omega⟩
  have hh:=(vj.1 hk).1
  have sH:=(lX.1 hh).2
  have cO:aD.blocks.xs.length=c.blocks.xs.length:=by have:=congrArg (fun v:CV=>v.blocks.length) jB;simpa only[cv,dH]using this
  have xN:aD.ops=c.ops:=congrArg CV.ops jB
  have mf:(cv c).blocks.length=c.blocks.xs.length:=dH _
  obtain⟨B,hB⟩:=get_some (xs:=aD.blocks.xs) (i:=b.toNat) (by omega)
  have lA:b.toNat<aD.blocks.xs.length:=(List.getElem?_eq_some_iff.1 hB).1
  have dx:bv B=aO (cv c) b:=by
   have h1:=zK hh
   have h2:=fK hB
   rw[show fm aD.blocks.xs=(cv c).blocks from congrArg CV.blocks jB,h1]at h2
   exact(Option.some.inj h2).symm
  have eu:k7 c.ag c.size (bv B)=true:=by rw[dx];exact tO hh
  obtain⟨o1,o2,o3,o4,o5,o6⟩:=eM.1 eu
  have fB:=ik.1 (dE.1 (lX.1 hh).1).1
  have xO:=(dE.1 (lX.1 hh).1).2.1
  simp only[bv,cv]at o1 o2 o3 o4 o5 o6 fB xO
  have Jx:=fk B.ag.xs
  obtain⟨_,k2,k3⟩:=vj.1 hk
  rw[←dx]at k3
  simp only[cv,bv]at k2 k3
  refine Gc ?_
  iterate 2 refine Gs ?_
  refine Gc ?_
  refine aq rfl (fun h1=> ?_) (fun h1=> ?_)
  ·
   replace h1:=bz h1
   refine Gc ?_
   iterate 3 refine Gs ?_
   refine Gc ?_
   refine an (.inl rfl) (aZ rfl (bG rfl) (al rfl)) (fun w1 hw=> ?_)
   exact⟨aD,by rw[eD,if_pos hk,if_pos (show(cv c).off=true from h1)],by rw[jB,k9,if_neg (fun h=>absurd (h1.symm.trans h.2.1) (by simp))],lZ aD (ah.mem hw)⟩
  ·
   replace h1:=bz h1
   have pn:(cv c).off=false:=h1
   refine Gc ?_
   iterate 3 refine Gs ?_
   refine ae (aX rfl rfl b.toNat (by omega) lA) ?_
   refine Gs ?_
   refine Gc ?_
   iterate 2 refine Gs ?_
   refine ae (aA rfl rfl) ?_
   refine ae (bn (j:=3) rfl b.toNat hB rfl (by decide)) ?_
   refine Gc ?_
   refine aq rfl (fun h2=> ?_) (fun h2=> ?_)
   ·
    replace h2:=bz h2
    have fu:(aO (cv c) b).bad=true:=by rw[←dx];exact h2
    refine Gc ?_
    iterate 3 refine Gs ?_
    refine Gc ?_
    refine an (.inl rfl) (aZ rfl (bG rfl) (al rfl)) (fun w1 hw=> ?_)
    exact⟨aD,by rw[eD,if_pos hk,if_neg (by rw[pn];simp),if_pos fu],by rw[jB,k9,if_neg (fun h=>absurd (fu.symm.trans h.2.2) (by simp))],lZ aD (ah.mem hw)⟩
   ·
    replace h2:=bz h2
    have fu:(aO (cv c) b).bad=false:=by rw[←dx];exact h2
    have cR:B.ag.xs≠[]:=fun e=>by
     have h9:(aE B.ag.xs).length=0:=by rw[e];rfl
     omega
    have mj:(aD.blocks.xs.set b.toNat ({B with bE:=B.bE+1}:Bk))[b.toNat]? =Option.some ({B with bE:=B.bE+1}:Bk):=List.getElem?_set_self lA
    have jJ:k9 (cv c) b=rY (cv c) b:=by
     rw[k9,if_pos ⟨hk,pn,fu⟩]
    have w7: ∀x∈(aE B.ag.xs),((fun _:List UInt8=>gE c.size) x).length=x.length:=fun x hx=>by have:=o6 x hx;simp only[gE,List.length_replicate];omega
    have El: ∀x∈(aE B.ag.xs),((cU (bR (cv c)).1.mask) x).length=x.length:=fun x _=>by rw[cU,List.length_map]
    iterate 3 refine Gi ?_
    refine HC (pr:=fun rm:Sv=>rm.nil=false∧rm.sp=none∧B.ag.xs=cZ rm 0 (aE B.ag.xs)) (fun rm:Sv=>[own (bP (τ:=UInt8)) 1 B.ag.sv B.ag.xs,own aJ 1 rm (aE B.ag.xs).flatten,own bN 4 aD.blocks.sv aD.blocks.xs,aj.all ((aD.blocks.xs.eraseIdx b.toNat).map fun b:Bk=>dY b.ag),own cX 4 aD.bc.sv aD.bc.xs,ar b6 (aB aD) 25,ar b4 (aB ep) 25,ar b2 (aB c) 25]) (fun w hw=>Hn hB cR (ah.mem hw)) fun rm sJ=> ?_
    obtain⟨hn,hs,wa⟩:=sJ
    have JY: ∀f:List UInt8→List UInt8,(∀x∈(aE B.ag.xs),(f x).length=x.length)→B.ag.xs.map (fun x=>x.sv)=(cZ rm 0 ((aE B.ag.xs).map f)).map (fun x=>x.sv):=fun f hf=>(congrArg (List.map fun x:Sl UInt8=>x.sv) wa).trans (Of hf)
    refine Gi ?_
    refine Gs ?_
    refine dQ (bX rfl (by omega)) ?_
    refine Gs ?_
    refine ae (aU (v:= .agg (cX ((bR (cv c)).1))) rfl rfl) ?_
    refine ae (aU (v:= .bool ((bR (cv c)).2)) rfl rfl) ?_
    refine bx fun b8=> ?_
    iterate 2 refine Gs ?_
    refine Gc ?_
    iterate 4 refine Gs ?_
    refine dM (cs':=aB (⟨aD.ag,aD.size,aD.blocks,(aD.ops+1),aD.off,aD.bc⟩:Cp)) rfl rfl (by show 3<6;decide) (by first|rfl|exact Sv.one _) rfl ?_
    refine Gc ?_
    iterate 2 refine Gs ?_
    refine ae (aA rfl rfl) ?_
    refine ae (bn (j:=2) rfl b.toNat hB rfl (by decide)) ?_
    iterate 2 refine Gs ?_
    refine ae (aA rfl rfl) ?_
    refine jU (s:=aD.blocks.sv) (n:=1) (k:=b.toNat) (j:=2) (a:=B) (a':=({B with bE:=B.bE+1}:Bk)) (xs:=aD.blocks.xs) (enc:=bN) (c:=4) (v:= .int .i64 (B.bE+1)) (by kernel_rfl) rfl rfl rfl hB (by simp[Value.cells,Value.oneCell']) (by rfl) (by decide) (by rfl) ?_
    try simp only[List.set_set]
    refine Gc ?_
    iterate 2 refine Gs ?_
    refine Gc ?_
    refine aq rfl (fun h3=> ?_) (fun h3=> ?_)
    ·
     replace h3:=bz h3
     have kt:rX (cv c) (aE B.ag.xs)=(aE B.ag.xs).map (fun _:List UInt8=>gE c.size):=by rw[rX,if_neg (by rw[h3];simp)];rfl
     have Em:(aD.blocks.xs.set b.toNat ({B with bE:=B.bE+1,used:=0}:Bk))[b.toNat]? =Option.some ({B with bE:=B.bE+1,used:=0}:Bk):=List.getElem?_set_self lA
     refine Gc ?_
     iterate 2 refine Gs ?_
     refine ae (aA rfl rfl) ?_
     refine jU (s:=aD.blocks.sv) (n:=1) (k:=b.toNat) (j:=1) (a:=({B with bE:=B.bE+1}:Bk)) (a':=({B with bE:=B.bE+1,used:=0}:Bk)) (xs:=(aD.blocks.xs.set b.toNat ({B with bE:=B.bE+1}:Bk))) (enc:=bN) (c:=4) (v:= .int .i64 0) (by kernel_rfl) rfl rfl rfl mj (by simp[Value.cells,Value.oneCell']) (by rfl) (by decide) (by rfl) ?_
     try simp only[List.set_set]
     refine Gc ?_
     iterate 3 refine Gs ?_
     refine Gc ?_
     refine bK (X:=Nat) (fun zz=>[(71, .int .i64 (zz:Nat)),(4, .pointer (some ⟨b4,0,none⟩)),(6, .pointer (some ⟨b6,0,none⟩)),(7, .pointer (some ⟨aD.blocks.sv.b,aD.blocks.sv.o+b.toNat*4,none⟩)),(70, .int .i64 c.ag)]) (fun zz=>[ar b8 (cX (bR (cv c)).1) 94,own (bP (τ:=UInt8)) 1 B.ag.sv B.ag.xs,own aJ 1 rm (mixed (fun _:List UInt8=>gE c.size) (aE B.ag.xs) zz).flatten,own bN 4 aD.blocks.sv (aD.blocks.xs.set b.toNat ({B with bE:=B.bE+1,used:=0}:Bk)),aj.all ((aD.blocks.xs.eraseIdx b.toNat).map fun b:Bk=>dY b.ag),own cX 4 aD.bc.sv aD.bc.xs,ar b6 (aB (⟨aD.ag,aD.size,aD.blocks,(aD.ops+1),aD.off,aD.bc⟩:Cp)) 25,ar b4 (aB ep) 25,ar b2 (aB c) 25]) (fun zz=>zz≤(aE B.ag.xs).length) (fun zz=>(aE B.ag.xs).length -zz) 0 (Nat.zero_le _) (Sub.cons rfl (Sub.cons rfl (Sub.cons rfl (Sub.cons rfl (Sub.cons rfl (Sub.nil _)))))) (fun w hw=>by
      rw[Hv];exact ah.mem hw) ?_
     rintro k bb
     refine Gc ?_
     refine Gs ?_
     refine Gc ?_
     refine aq rfl (fun h4=> ?_) (fun h4=> ?_)
     ·
      replace h4:=bz h4
      obtain⟨q,hq⟩:=get_some (xs:=(aE B.ag.xs)) (i:=k) (by omega)
      have yH:=o6 q (List.mem_of_getElem? hq)
      have wb:B.ag.xs[k]? =Option.some ⟨(eV rm ((aE B.ag.xs).take k).flatten.length (((aE B.ag.xs).take k).flatten.length+q.length)),q⟩:=by rw[wa,rW,zO hq,Nat.zero_add]
      refine Gc ?_
      iterate 2 refine Gs ?_
      refine Gc ?_
      iterate 2 refine Gs ?_
      refine ae (aA rfl rfl) ?_
      refine ae (Ry.to (v':=B.ag.sv.val) (bn (j:=0) rfl b.toNat Em rfl (by decide)) rfl) ?_
      refine Gs ?_
      refine ae (aX rfl rfl k rfl (by omega)) ?_
      refine ae (Ry.to (v':= .slice (some ⟨rm.b,rm.o+((aE B.ag.xs).take k).flatten.length,none⟩) q.length q.length) (bn (j:=0) rfl k wb rfl (by decide)) (Og hn hs (by omega))) ?_
      refine bp rfl ⟨by have h9:=congrArg List.length (CO (f:=(fun _:List UInt8=>gE c.size)) hq);have h8:=xr (mixed (fun _:List UInt8=>gE c.size) (aE B.ag.xs) k) (k+1);have h7:=xq (xt (f:=(fun _:List UInt8=>gE c.size)) hq);rw[zR w7 (by omega)]at h7;omega,by omega⟩ fun x81 ad5=> ?_
      refine Gc ?_
      iterate 2 refine Gs ?_
      refine Gi ?_
      exact bh (x:=(k)) (k+1) (by first|omega|(simp only[];omega)) (by first|omega|(simp only[];omega)) (Sub.cons rfl (Sub.cons rfl (Sub.cons rfl (Sub.cons rfl (Sub.cons rfl (Sub.nil _)))))) (fun w hw=>by
       rw[Oe hq w7 (n:=q.length) (by simp only[gE];congr 1;omega) rfl];exact ah.mem hw)
     ·
      replace h4:=bz h4
      refine Gc ?_
      iterate 3 refine Gs ?_
      refine Gc ?_
      refine an (.inl rfl) (aZ rfl (bG rfl) (al rfl)) (fun w1 hw=> ?_)
      exact⟨(⟨aD.ag,aD.size,⟨aD.blocks.sv,aD.blocks.xs.set b.toNat ⟨⟨B.ag.sv,cZ rm 0 ((aE B.ag.xs).map (fun _:List UInt8=>gE c.size))⟩,0,B.bE+1,B.bad⟩⟩,aD.ops+1,aD.off,aD.bc⟩:Cp),by rw[eD,if_pos hk,if_neg (by rw[pn];simp),if_neg (by rw[fu];simp),if_neg (by rw[h3];simp)];rfl,by rw[Hx jB dx,jJ,rY,←dx,show(bv B).ag=(aE B.ag.xs)from rfl,kt,h3,Bool.false_and,if_neg (by simp),show aD.off=(cv c).off from congrArg CV.off jB,pn],(by
       rw[Hw (by omega)]at hw
       exact lZ (⟨aD.ag,aD.size,⟨aD.blocks.sv,aD.blocks.xs.set b.toNat ⟨⟨B.ag.sv,cZ rm 0 ((aE B.ag.xs).map (fun _:List UInt8=>gE c.size))⟩,0,B.bE+1,B.bad⟩⟩,aD.ops+1,aD.off,aD.bc⟩:Cp) (zP (rm:=rm) (l:=(aE B.ag.xs).map (fun _:List UInt8=>gE c.size)) (B:=({B with bE:=B.bE+1,used:=0}:Bk)) (B':=⟨⟨B.ag.sv,cZ rm 0 ((aE B.ag.xs).map (fun _:List UInt8=>gE c.size))⟩,0,B.bE+1,B.bad⟩) (sp:=B.ag.sv) (ps:=B.ag.xs) lA (JY _ w7) hn rfl rfl (ah.mem hw)))⟩
    ·
     replace h3:=bz h3
     have kt:rX (cv c) (aE B.ag.xs)=(aE B.ag.xs).map (cU (bR (cv c)).1.mask):=by rw[rX,if_pos h3]
     have Em:(aD.blocks.xs.set b.toNat ({B with bE:=B.bE+1,used:=c.ag}:Bk))[b.toNat]? =Option.some ({B with bE:=B.bE+1,used:=c.ag}:Bk):=List.getElem?_set_self lA
     refine Gc ?_
     iterate 4 refine Gs ?_
     refine ae (aA rfl rfl) ?_
     refine jU (s:=aD.blocks.sv) (n:=1) (k:=b.toNat) (j:=1) (a:=({B with bE:=B.bE+1}:Bk)) (a':=({B with bE:=B.bE+1,used:=c.ag}:Bk)) (xs:=(aD.blocks.xs.set b.toNat ({B with bE:=B.bE+1}:Bk))) (enc:=bN) (c:=4) (v:= .int .i64 c.ag) (by kernel_rfl) rfl rfl rfl mj (by simp[Value.cells,Value.oneCell']) (by rfl) (by decide) (by rfl) ?_
     try simp only[List.set_set]
     refine Gc ?_
     iterate 3 refine Gs ?_
     refine Gc ?_
     refine bK (X:=Nat) (fun zz=>[(91, .int .i64 (zz:Nat)),(2, .pointer (some ⟨b2,0,none⟩)),(4, .pointer (some ⟨b4,0,none⟩)),(6, .pointer (some ⟨b6,0,none⟩)),(7, .pointer (some ⟨aD.blocks.sv.b,aD.blocks.sv.o+b.toNat*4,none⟩)),(8, .pointer (some ⟨b8,0,none⟩)),(90, .int .i64 c.ag)]) (fun zz=>[ar b8 (cX (bR (cv c)).1) 94,own (bP (τ:=UInt8)) 1 B.ag.sv B.ag.xs,own aJ 1 rm (mixed (cU (bR (cv c)).1.mask) (aE B.ag.xs) zz).flatten,own bN 4 aD.blocks.sv (aD.blocks.xs.set b.toNat ({B with bE:=B.bE+1,used:=c.ag}:Bk)),aj.all ((aD.blocks.xs.eraseIdx b.toNat).map fun b:Bk=>dY b.ag),own cX 4 aD.bc.sv aD.bc.xs,ar b6 (aB (⟨aD.ag,aD.size,aD.blocks,(aD.ops+1),aD.off,aD.bc⟩:Cp)) 25,ar b4 (aB ep) 25,ar b2 (aB c) 25]) (fun zz=>zz≤(aE B.ag.xs).length) (fun zz=>(aE B.ag.xs).length -zz) 0 (Nat.zero_le _) (Sub.cons rfl (Sub.cons rfl (Sub.cons rfl (Sub.cons rfl (Sub.cons rfl (Sub.cons rfl (Sub.cons rfl (Sub.nil _)))))))) (fun w hw=>by
      rw[Hv];exact ah.mem hw) ?_
     rintro k D2
     refine Gc ?_
     refine Gs ?_
     refine Gc ?_
     refine aq rfl (fun h5=> ?_) (fun h5=> ?_)
     ·
      replace h5:=bz h5
      obtain⟨q,hq⟩:=get_some (xs:=(aE B.ag.xs)) (i:=k) (by omega)
      have yH:=o6 q (List.mem_of_getElem? hq)
      have wb:B.ag.xs[k]? =Option.some ⟨(eV rm ((aE B.ag.xs).take k).flatten.length (((aE B.ag.xs).take k).flatten.length+q.length)),q⟩:=by rw[wa,rW,zO hq,Nat.zero_add]
      refine Gc ?_
      iterate 2 refine Gs ?_
      refine Gc ?_
      iterate 3 refine Gs ?_
      refine Gc ?_
      refine bK (X:=Nat) (fun zz=>[(96, .int .i64 (zz:Nat)),(2, .pointer (some ⟨b2,0,none⟩)),(4, .pointer (some ⟨b4,0,none⟩)),(6, .pointer (some ⟨b6,0,none⟩)),(7, .pointer (some ⟨aD.blocks.sv.b,aD.blocks.sv.o+b.toNat*4,none⟩)),(8, .pointer (some ⟨b8,0,none⟩)),(11, .int .i64 (k:Nat)),(90, .int .i64 c.ag),(91, .int .i64 (k:Nat)),(95, .int .i64 c.size)]) (fun zz=>[ar b8 (cX (bR (cv c)).1) 94,own (bP (τ:=UInt8)) 1 B.ag.sv B.ag.xs,own aJ 1 rm ((mixed (cU (bR (cv c)).1.mask) (aE B.ag.xs) k).set k (cU (bR (cv c)).1.mask (q.take zz)++q.drop zz)).flatten,own bN 4 aD.blocks.sv (aD.blocks.xs.set b.toNat ({B with bE:=B.bE+1,used:=c.ag}:Bk)),aj.all ((aD.blocks.xs.eraseIdx b.toNat).map fun b:Bk=>dY b.ag),own cX 4 aD.bc.sv aD.bc.xs,ar b6 (aB (⟨aD.ag,aD.size,aD.blocks,(aD.ops+1),aD.off,aD.bc⟩:Cp)) 25,ar b4 (aB ep) 25,ar b2 (aB c) 25]) (fun zz=>zz≤q.length) (fun zz=>q.length -zz) 0 (Nat.zero_le _) (Sub.cons rfl (Sub.cons rfl (Sub.cons rfl (Sub.cons rfl (Sub.cons rfl (Sub.cons rfl (Sub.cons rfl (Sub.cons rfl (Sub.cons rfl (Sub.cons rfl (Sub.nil _))))))))))) (fun w hw=>by
       rw[List.take_zero,List.drop_zero,cU,List.map_nil,List.nil_append,vn (xt hq)];exact ah.mem hw) ?_
      rintro j jA
      refine Gc ?_
      refine Gs ?_
      refine Gc ?_
      refine aq rfl (fun h6=> ?_) (fun h6=> ?_)
      ·
       replace h6:=bz h6
       have q6:(cU (bR (cv c)).1.mask (q.take j)++q.drop j).length=q.length:=CN (by omega)
       obtain⟨z,hz⟩:=get_some (xs:=q) (i:=j) (by omega)
       have n8:((mixed (cU (bR (cv c)).1.mask) (aE B.ag.xs) k).set k (cU (bR (cv c)).1.mask (q.take j)++q.drop j)).flatten[((aE B.ag.xs).take k).flatten.length+j]? =Option.some z:=by
        have h9:=vo (l:=(mixed (cU (bR (cv c)).1.mask) (aE B.ag.xs) k).set k (cU (bR (cv c)).1.mask (q.take j)++q.drop j)) (i:=k) (j:=j) (List.getElem?_set_self (List.getElem?_eq_some_iff.1 (xt (f:=(cU (bR (cv c)).1.mask)) hq)).1) (by omega)
        rw[CM,zR El (by omega)]at h9
        rw[h9,Ht (by omega),hz]
       refine Gc ?_
       iterate 2 refine Gs ?_
       refine Gc ?_
       refine fw [14,1009] [[],[],[],[],[],[],[],[],[],[],[],[],[9],[9],[9]] [0,1,2,3,4,5,6,7,8,9,10,11,12,13,14] [own (bP (τ:=UInt8)) 1 B.ag.sv B.ag.xs,own bN 4 aD.blocks.sv (aD.blocks.xs.set b.toNat ({B with bE:=B.bE+1,used:=c.ag}:Bk)),ar b8 (cX (bR (cv c)).1) 94] (fun _ hw=>ah.mem hw) (by kernel_rfl) (by kernel_rfl) ?_
       refine ak rfl (au rfl) ?_
       refine ak rfl (iV rfl) ?_
       refine ak rfl (aA rfl rfl) ?_
       refine ak rfl (Ry.to (v':=B.ag.sv.val) (bn (j:=0) rfl b.toNat Em rfl (by decide)) rfl) ?_
       refine ak rfl (au rfl) ?_
       refine ak rfl (aX rfl rfl k rfl (by omega)) ?_
       refine ak rfl (Ry.to (v':=(eV rm ((aE B.ag.xs).take k).flatten.length (((aE B.ag.xs).take k).flatten.length+q.length)).val) (bn (j:=0) rfl k wb rfl (by decide)) rfl) ?_
       refine ak rfl (au rfl) ?_
       obtain⟨Tc,Td⟩:=get_some (xs:=q) (i:=j) (by omega)
       refine ak rfl (jk (s:=(eV rm ((aE B.ag.xs).take k).flatten.length (((aE B.ag.xs).take k).flatten.length+q.length))) (i:=j) rfl rfl rfl (zQ hn hs (by omega)) (by simp only[eV];omega)) ?_
       refine jo rfl (bn (s:=rm) (enc:=aJ) (c:=1) (xs:=((mixed (cU (bR (cv c)).1.mask) (aE B.ag.xs) k).set k (cU (bR (cv c)).1.mask (q.take j)++q.drop j)).flatten) (a:=z) (j:=0) (v:= .int .u8 z.toNat) rfl (((aE B.ag.xs).take k).flatten.length+j) n8 (by rw[vp (by omega)];omega) (by decide)) ?_
       refine ak rfl (aA (o':=3) rfl rfl) ?_
       refine ak rfl (bl rfl) ?_
       refine ak rfl (Ho rfl rfl) ?_
       obtain⟨ad6,ad7⟩:=get_some (xs:=q) (i:=j) (by omega)
       refine ak rfl (jk (s:=(eV rm ((aE B.ag.xs).take k).flatten.length (((aE B.ag.xs).take k).flatten.length+q.length))) (i:=j) rfl rfl rfl (zQ hn hs (by omega)) (by simp only[eV];omega)) ?_
       refine cK rfl (tJ (s:=rm) (n:=1) (k:=((aE B.ag.xs).take k).flatten.length+j) (j:=0) (a:=z) (a':=z|||(bR (cv c)).1.mask) (xs:=((mixed (cU (bR (cv c)).1.mask) (aE B.ag.xs) k).set k (cU (bR (cv c)).1.mask (q.take j)++q.drop j)).flatten) (enc:=aJ) (c:=1) (v:= .int .u8 (z|||(bR (cv c)).1.mask).toNat) (by kernel_rfl) rfl rfl (by rw[vp (by omega)];omega) n8 (by simp[Value.cells,Value.oneCell']) rfl (by omega) (by rfl) ⟨fun _ hw=>ah.mem hw,?_⟩)
       refine Gc ?_
       iterate 2 refine Gs ?_
       refine Gi ?_
       exact bh (x:=(j)) (j+1) (by first|omega|(simp only[];omega)) (by first|omega|(simp only[];omega)) (Sub.cons rfl (Sub.cons rfl (Sub.cons rfl (Sub.cons rfl (Sub.cons rfl (Sub.cons rfl (Sub.cons rfl (Sub.cons rfl (Sub.cons rfl (Sub.cons rfl (Sub.nil _))))))))))) (fun w hw=>by
        rw[Hu (xt hq) hz,zR El (by omega)];exact ah.mem hw)
      ·
       replace h6:=bz h6
       obtain rfl:j=q.length:=by omega
       refine Gc ?_
       iterate 2 refine Gs ?_
       refine Gi ?_
       exact bh (x:=(k)) (k+1) (by first|omega|(simp only[];omega)) (by first|omega|(simp only[];omega)) (Sub.cons rfl (Sub.cons rfl (Sub.cons rfl (Sub.cons rfl (Sub.cons rfl (Sub.cons rfl (Sub.cons rfl (Sub.nil _)))))))) (fun w hw=>by
        rw[←CO hq]
        rw[List.take_length,List.drop_length,List.append_nil]at hw
        exact ah.mem hw)
     ·
      replace h5:=bz h5
      refine Gc ?_
      iterate 3 refine Gs ?_
      refine ae (aU (v:= .bool (((bR (cv c)).1).cut)) rfl rfl) ?_
      refine ae (aU (v:= .int .i64 (mG ((bR (cv c)).1))) rfl rfl) ?_
      iterate 2 refine Gs ?_
      refine Gc ?_
      iterate 2 refine Gs ?_
      refine dM (cs':=aB (⟨aD.ag,aD.size,aD.blocks,(aD.ops+1),((bR (cv c)).1).cut,aD.bc⟩:Cp)) rfl rfl (by show 4<6;decide) (by first|rfl|exact Sv.one _) rfl ?_
      refine Gc ?_
      iterate 4 refine Gs ?_
      refine Gc ?_
      refine an (.inl rfl) (aZ rfl (bG rfl) (al rfl)) (fun w1 hw=> ?_)
      exact⟨(⟨aD.ag,aD.size,⟨aD.blocks.sv,aD.blocks.xs.set b.toNat ⟨⟨B.ag.sv,cZ rm 0 ((aE B.ag.xs).map (cU (bR (cv c)).1.mask))⟩,c.ag,B.bE+1,B.bad⟩⟩,aD.ops+1,(bR (cv c)).1.cut,aD.bc⟩:Cp),by rw[eD,if_pos hk,if_neg (by rw[pn];simp),if_neg (by rw[fu];simp),if_pos h3];rfl,by rw[Hx jB dx,jJ,rY,←dx,show(bv B).ag=(aE B.ag.xs)from rfl,kt,h3,Bool.true_and,if_pos rfl];rfl,(by
       rw[Hw (by omega)]at hw
       exact lZ (⟨aD.ag,aD.size,⟨aD.blocks.sv,aD.blocks.xs.set b.toNat ⟨⟨B.ag.sv,cZ rm 0 ((aE B.ag.xs).map (cU (bR (cv c)).1.mask))⟩,c.ag,B.bE+1,B.bad⟩⟩,aD.ops+1,(bR (cv c)).1.cut,aD.bc⟩:Cp) (zP (rm:=rm) (l:=(aE B.ag.xs).map (cU (bR (cv c)).1.mask)) (B:=({B with bE:=B.bE+1,used:=c.ag}:Bk)) (B':=⟨⟨B.ag.sv,cZ rm 0 ((aE B.ag.xs).map (cU (bR (cv c)).1.mask))⟩,c.ag,B.bE+1,B.bad⟩) (sp:=B.ag.sv) (ps:=B.ag.xs) lA (JY _ El) hn rfl rfl (ah.mem hw)))⟩
instance ad8{w0:World}{L:List aj}{c:Cp}{b:Int}[hc:aS w0 L c]:bW Tryz.prog 145 w0 L [.agg (aB c), .int .i64 b] (Cp) (fun zz=> .tuple #[.agg (aB zz), .int .i64 (eD (cv c) b)]) (fun zz=>fz zz::L) (fun zz=>cv zz=k9 (cv c) b) (dK c):=⟨fun hp w hw=>(Te w c b (hc.h w hw) hp).mono fun e w' ⟨x,h1,h2,h3⟩=>⟨x,h1,h2,hw.call h3⟩⟩
open Go.aL Go.Kb
open Go.RowKit
theorem Tf(w:World):(Instr.build 110 #[(0, .int .i64 1)]).run Tryz.prog w= .ok (.agg (bZ ⟨1,0,0,⟨Sv.none,[]⟩⟩)) w:=by kernel_rfl
theorem Tg(w0 w:World)(L:List aj)(k:Nat)(xc:Cp)(xa:Sl Int)(xg:UInt64)(xl:Int)(xy:Bool)(b:Int)(er:Int)(hw:Mem w0 (ar k (aR (⟨⟨xc,xa,xg,xl⟩,xy⟩:aV)) 141::fz xc::L) w)(ba:bg (cv xc)=true):Calls Tryz.prog 146 #[.pointer (some ⟨k,0,none⟩), .int .i64 b, .int .i64 er] w fun e w'=> ∃zz:Cp,e= .returned (.tuple #[])∧(cv zz=lf (cv xc) b er)∧Mem w0 (ar k (aR (⟨⟨zz,xa,xg,xl⟩,xy⟩:aV)) 141::fz zz::L) w':=by
 have kv:dK xc:=pT ba
 refine jH (args:=[_,_,_]) Tryz.func146 rfl Tryz.ntmps146 rfl hw ?_
 change Cw _ _ _ _ _ [(0, .pointer (some ⟨k,0,none⟩)),(1, .int .i64 b),(2, .int .i64 er)] (ar k (aR (⟨⟨xc,xa,xg,xl⟩,xy⟩:aV)) 141::fz xc::L)
 refine Gc ?_
 iterate 2 refine Gs ?_
 refine Gc ?_
 refine aq rfl (fun h0=> ?_) (fun h0=> ?_)
 ·
  replace h0:=bz h0
  have hE:lf (cv xc) b er=nP (cv xc) b:=by rw[lf,if_pos h0]
  refine Gi ?_
  iterate 5 refine Gs ?_
  refine ae (Ry.to (v':= .agg (aB xc)) (eE rfl) rfl) ?_
  refine Gs ?_
  refine bp rfl (by assumption) fun aD jB=> ?_
  refine Gs ?_
  refine ae (aU (v:= .agg (aB aD)) rfl rfl) ?_
  refine ae (aU (v:= .int .i64 (oT (cv xc) b)) rfl rfl) ?_
  iterate 3 refine Gs ?_
  refine wJ (cs':=aR (⟨⟨aD,xa,xg,xl⟩,xy⟩:aV)) rfl rfl (by show 0+6≤10;decide) rfl ?_
  refine Gi ?_
  refine an (.inr rfl) (DV rfl) (fun w1 hw=> ?_)
  exact⟨aD,rfl,by rw[hE,jB],ah.mem hw⟩
 ·
  replace h0:=bz h0
  have hE:lf (cv xc) b er=(cv xc):=by rw[lf,if_neg h0]
  refine Gi ?_
  refine an (.inr rfl) (DV rfl) (fun w1 hw=> ?_)
  exact⟨xc,rfl,by rw[hE],ah.mem hw⟩
instance ad9{w0:World}{L R1 L2:List aj}{i0 i1:Nat}{k:Nat}{xc:Cp}{xa:Sl Int}{xg:UInt64}{xl:Int}{xy:Bool}{b:Int}{er:Int}[q0:Has L k (aR (⟨⟨xc,xa,xg,xl⟩,xy⟩:aV)) 141 i0][d0:c8 L i0 R1][q1:At R1 (fz xc) i1][d1:c8 R1 i1 L2]:bW Tryz.prog 146 w0 L [.pointer (some ⟨k,0,none⟩), .int .i64 b, .int .i64 er] (Cp) (fun zz=> .tuple #[]) (fun zz=>ar k (aR (⟨⟨zz,xa,xg,xl⟩,xy⟩:aV)) 141::fz zz::L2) (fun zz=>cv zz=lf (cv xc) b er) (bg (cv xc)=true):=⟨fun hp w hw=>Tg w0 w L2 k xc xa xg xl xy b er (qZ q0.h d0.h q1.h d1.h hw) hp⟩
theorem Th(w0 w:World)(L:List aj)(k:Nat)(xc:Cp)(xa:Sl Int)(xg:UInt64)(xl:Int)(xy:Bool)(b:Int)(y:Sv)(ys:List UInt8)[hy:Hd w0 L y aJ 1 ys](hw:Mem w0 (ar k (aR (⟨⟨xc,xa,xg,xl⟩,xy⟩:aV)) 141::fz xc::L) w)(ba:bg (cv xc)=true∧0≤b∧b<(cv xc).blocks.length):Calls Tryz.prog 125 #[.pointer (some ⟨k,0,none⟩), .int .i64 b,y.val] w fun e w'=> ∃zz:Cp,e= .returned (.int .i64 (cq (cv xc) b ys))∧(cv zz=dh (cv xc) b ys)∧Mem w0 (ar k (aR (⟨⟨zz,xa,xg,xl⟩,xy⟩:aV)) 141::fz zz::L) w':=by
 obtain⟨hk,xV,xW⟩:=ba
 have kv:dK xc:=pT hk
 have cO:(cv xc).blocks.length=xc.blocks.xs.length:=dH _
 obtain⟨B,hB⟩:=get_some (xs:=xc.blocks.xs) (i:=b.toNat) (by omega)
 have pg:Mb B xc.blocks:=⟨List.mem_of_getElem? hB⟩
 have dx:=na hB
 have eu:=eM.1 ((dE.1 hk).2.2.2.2 (bv B) (List.mem_of_getElem? (fK hB)))
 have fB:=ik.1 (dE.1 hk).1
 have nv:(aO (cv xc) b).used=B.used:=by rw[dx];rfl
 simp only[bv,cv]at eu fB
 refine jH (args:=[_,_,_]) Tryz.func125 rfl Tryz.ntmps125 rfl hw ?_
 change Cw _ _ _ _ _ [(0, .pointer (some ⟨k,0,none⟩)),(1, .int .i64 b),(2,y.val)] (ar k (aR (⟨⟨xc,xa,xg,xl⟩,xy⟩:aV)) 141::fz xc::L)
 refine Gc ?_
 refine Gs ?_
 refine Gc ?_
 refine oN [17,21,22,2021,4017] [[],[],[],[],[],[],[],[],[],[],[],[],[],[],[],[],[],[],[17],[17],[17],[],[17,21],[17,21,22]] [0,1,2,3,4,5,6,7,8,9,10,11,12,13,14,15,16,17,18,19,20,21,22,23] [ar k (aR (⟨⟨xc,xa,xg,xl⟩,xy⟩:aV)) 141,fz xc] [(21,kF Tryz.prog 25)] (by kernel_rfl) (fun _ hw=>ah.mem hw) (by kernel_rfl) (by kernel_rfl) ?_
 refine ak rfl (au rfl) ?_
 refine ak rfl (iV rfl) ?_
 refine ak rfl (aA (o':=0) rfl rfl) ?_
 refine ak rfl (aA (o':=0) rfl rfl) ?_
 refine ak rfl (Ry.to (v':= .agg (aB xc)) (eE rfl) rfl) ?_
 refine ak rfl (au rfl) ?_
 refine ak rfl (au rfl) ?_
 refine ak rfl (iV rfl) ?_
 refine ak rfl (aA (o':=0) rfl rfl) ?_
 refine ak rfl (aA (o':=0) rfl rfl) ?_
 refine ak rfl (aA (o':=2) rfl rfl) ?_
 refine ak rfl (Ry.to (v':=xc.blocks.sv.val) (bl rfl) rfl) ?_
 refine ak rfl (au rfl) ?_
 refine ak rfl (aX rfl rfl b.toNat (by omega) (by omega)) ?_
 refine ak rfl (aA rfl rfl) ?_
 refine ak rfl (bn (j:=1) rfl b.toNat hB rfl (by decide)) ?_
 refine ak rfl (au rfl) ?_
 refine rS rfl rfl (by assumption) (fun e x w hw=>ah.mem hw) (Cert.one (i:=21) rfl rfl rfl jZ (Cert.none rfl)) fun dg oh=>⟨fun _ hw=>ah.mem hw,?_⟩
 refine ak rfl (au rfl) ?_
 refine ak rfl (aU (v:= .agg (aB dg)) rfl rfl) ?_
 refine ak rfl (aU (v:= .int .i64 (kG (cv xc) b B.used ys)) rfl rfl) ?_
 refine mZ (m:=kF Tryz.prog 25) rfl rfl jZ (Cert.none rfl) fun b7=> ?_
 change Ln _ _ _ _ _ _ _ _ (cm _ _ (.pointer (some ⟨b7,0,none⟩))) (ar b7 (aB ep) 25::_) _
 refine cK rfl (km rfl rfl ⟨fun _ hw=>ah.mem hw,?_⟩)
 refine ak rfl (aP rfl) ?_
 refine Gc ?_
 iterate 5 refine Gs ?_
 refine wJ (cs':=aR (⟨⟨dg,xa,xg,xl⟩,xy⟩:aV)) rfl rfl (by show 0+6≤10;decide) rfl ?_
 refine Gc ?_
 iterate 3 refine Gs ?_
 refine bp rfl (by rw[oh];exact HW hk _ _ _) fun ky sR=> ?_
 refine Gc ?_
 iterate 2 refine Gs ?_
 refine Gc ?_
 refine an (.inl rfl) (aK rfl (al rfl)) (fun w1 hw=> ?_)
 exact⟨ky,by rw[cq,nv],by rw[sR,oh,dh,cq,nv],ah.mem hw⟩
instance aea{w0:World}{L R1 L2:List aj}{i0 i1:Nat}{k:Nat}{xc:Cp}{xa:Sl Int}{xg:UInt64}{xl:Int}{xy:Bool}{b:Int}{y:Sv}{ys:List UInt8}[q0:Has L k (aR (⟨⟨xc,xa,xg,xl⟩,xy⟩:aV)) 141 i0][d0:c8 L i0 R1][q1:At R1 (fz xc) i1][d1:c8 R1 i1 L2][hy:Hd w0 L2 y aJ 1 ys]:bW Tryz.prog 125 w0 L [.pointer (some ⟨k,0,none⟩), .int .i64 b,y.val] (Cp) (fun zz=> .int .i64 (cq (cv xc) b ys)) (fun zz=>ar k (aR (⟨⟨zz,xa,xg,xl⟩,xy⟩:aV)) 141::fz zz::L2) (fun zz=>cv zz=dh (cv xc) b ys) (bg (cv xc)=true∧0≤b∧b<(cv xc).blocks.length):=⟨fun hp w hw=>Th w0 w L2 k xc xa xg xl xy b y ys (qZ q0.h d0.h q1.h d1.h hw) hp⟩
theorem Ti(w0 w:World)(L:List aj)(k:Nat)(xc:Cp)(xa:Sl Int)(xg:UInt64)(xl:Int)(xy:Bool)(b:Int)(hw:Mem w0 (ar k (aR (⟨⟨xc,xa,xg,xl⟩,xy⟩:aV)) 141::fz xc::L) w)(ba:bg (cv xc)=true∧0≤b∧b<(cv xc).blocks.length):Calls Tryz.prog 121 #[.pointer (some ⟨k,0,none⟩), .int .i64 b] w fun e w'=> ∃zz:Cp,e= .returned (.int .i64 (eD (cv xc) b))∧(cv zz=jb (cv xc) b)∧Mem w0 (ar k (aR (⟨⟨zz,xa,xg,xl⟩,xy⟩:aV)) 141::fz zz::L) w':=by
 obtain⟨hk,xV,xW⟩:=ba
 have kv:dK xc:=pT hk
 have cO:(cv xc).blocks.length=xc.blocks.xs.length:=dH _
 obtain⟨B,hB⟩:=get_some (xs:=xc.blocks.xs) (i:=b.toNat) (by omega)
 have pg:Mb B xc.blocks:=⟨List.mem_of_getElem? hB⟩
 have dx:=na hB
 have eu:=eM.1 ((dE.1 hk).2.2.2.2 (bv B) (List.mem_of_getElem? (fK hB)))
 have fB:=ik.1 (dE.1 hk).1
 have nv:(aO (cv xc) b).used=B.used:=by rw[dx];rfl
 simp only[bv,cv]at eu fB
 refine jH (args:=[_,_]) Tryz.func121 rfl Tryz.ntmps121 rfl hw ?_
 change Cw _ _ _ _ _ [(0, .pointer (some ⟨k,0,none⟩)),(1, .int .i64 b)] (ar k (aR (⟨⟨xc,xa,xg,xl⟩,xy⟩:aV)) 141::fz xc::L)
 refine Gc ?_
 refine Gs ?_
 refine Gc ?_
 iterate 4 refine Gs ?_
 refine ae (Ry.to (v':= .agg (aB xc)) (eE rfl) rfl) ?_
 refine Gs ?_
 refine bp rfl (by assumption) fun kS wc=> ?_
 refine Gs ?_
 refine ae (aU (v:= .agg (aB kS)) rfl rfl) ?_
 refine ae (aU (v:= .int .i64 (eD (cv xc) b)) rfl rfl) ?_
 refine bx fun b5=> ?_
 iterate 2 refine Gs ?_
 refine Gc ?_
 iterate 5 refine Gs ?_
 refine wJ (cs':=aR (⟨⟨kS,xa,xg,xl⟩,xy⟩:aV)) rfl rfl (by show 0+6≤10;decide) rfl ?_
 refine Gc ?_
 iterate 3 refine Gs ?_
 refine bp rfl (by rw[wc];exact HX hk _) fun uz En=> ?_
 refine Gc ?_
 iterate 2 refine Gs ?_
 refine Gc ?_
 refine an (.inl rfl) (aK rfl (al rfl)) (fun w1 hw=> ?_)
 exact⟨uz,rfl,by rw[En,wc,jb],ah.mem hw⟩
instance aeb{w0:World}{L R1 L2:List aj}{i0 i1:Nat}{k:Nat}{xc:Cp}{xa:Sl Int}{xg:UInt64}{xl:Int}{xy:Bool}{b:Int}[q0:Has L k (aR (⟨⟨xc,xa,xg,xl⟩,xy⟩:aV)) 141 i0][d0:c8 L i0 R1][q1:At R1 (fz xc) i1][d1:c8 R1 i1 L2]:bW Tryz.prog 121 w0 L [.pointer (some ⟨k,0,none⟩), .int .i64 b] (Cp) (fun zz=> .int .i64 (eD (cv xc) b)) (fun zz=>ar k (aR (⟨⟨zz,xa,xg,xl⟩,xy⟩:aV)) 141::fz zz::L2) (fun zz=>cv zz=jb (cv xc) b) (bg (cv xc)=true∧0≤b∧b<(cv xc).blocks.length):=⟨fun hp w hw=>Ti w0 w L2 k xc xa xg xl xy b (qZ q0.h d0.h q1.h d1.h hw) hp⟩
theorem Tj(w0 w:World)(L:List aj)(k:Nat)(xc:Cp)(xa:Sl Int)(xg:UInt64)(xl:Int)(xy:Bool)(b:Int)(hw:Mem w0 (ar k (aR (⟨⟨xc,xa,xg,xl⟩,xy⟩:aV)) 141::fz xc::L) w)(ba:bg (cv xc)=true∧0≤b∧b<(cv xc).blocks.length):Calls Tryz.prog 173 #[.pointer (some ⟨k,0,none⟩), .int .i64 b] w fun e w'=> ∃zz:Cp,e= .returned (.int .i64 ((dU (cv xc) b).2))∧(cv zz=(dU (cv xc) b).1)∧Mem w0 (ar k (aR (⟨⟨zz,xa,xg,xl⟩,xy⟩:aV)) 141::fz zz::L) w':=by
 obtain⟨hk,xV,xW⟩:=ba
 refine jH (args:=[_,_]) Tryz.func173 rfl Tryz.ntmps173 rfl hw ?_
 change Cw _ _ _ _ _ [(0, .pointer (some ⟨k,0,none⟩)),(1, .int .i64 b)] (ar k (aR (⟨⟨xc,xa,xg,xl⟩,xy⟩:aV)) 141::fz xc::L)
 refine Gc ?_
 refine Gs ?_
 refine Gc ?_
 refine bK (X:=Cp) (fun zz=>[(0, .pointer (some ⟨k,0,none⟩)),(1, .int .i64 b)]) (fun zz=>ar k (aR (⟨⟨zz,xa,xg,xl⟩,xy⟩:aV)) 141::fz zz::L) (fun zz=>dU (cv xc) b=dU (cv zz) b∧bg (cv zz)=true∧eH (cv xc) (cv zz)) (fun zz=>(fy (cv zz) b).toNat) xc ⟨rfl,hk, .fZ _⟩ (Sub.cons rfl (Sub.cons rfl (Sub.nil _))) (fun w hw=>ah.mem hw) ?_
 rintro d ⟨bb,aH,bu⟩
 have JZ:=bu.len
 refine Gc ?_
 iterate 2 refine Gs ?_
 refine dQ (bX rfl ⟨aH,by omega,by omega⟩) ?_
 refine Gs ?_
 refine Gc ?_
 refine aq rfl (fun h0=> ?_) (fun h0=> ?_)
 ·
  replace h0:=bz h0
  have bH:=OU (c:=cv d) (b:=b) h0
  refine Gc ?_
  refine ae (bV (v:= .agg (bZ ⟨1,0,0,⟨Sv.none,[]⟩⟩)) rfl Tf) ?_
  iterate 5 refine Gs ?_
  refine ae (Ry.to (v':= .int .i64 d.size) (bl rfl) rfl) ?_
  refine bp rfl trivial fun gg um=> ?_
  refine Gs ?_
  refine ae (aU (v:=gg.val) rfl rfl) ?_
  refine ae (aU (v:= .int .i64 ((dZ (cA (⟨1,0,0,⟨Sv.none,[]⟩⟩:dk)) d.size).2)) rfl rfl) ?_
  iterate 2 refine Gs ?_
  refine Gc ?_
  iterate 3 refine Gs ?_
  refine bp rfl ⟨aH,by omega,by omega⟩ fun jC po=> ?_
  have Tk:cv jC=dh (cv d) b (jc (cv d)):=po
  clear po
  have po:=Tk
  refine Gs ?_
  refine Gc ?_
  iterate 2 refine Gs ?_
  refine Gc ?_
  refine aq rfl (fun h1=> ?_) (fun h1=> ?_)
  ·
   replace h1:=bz h1
   have dz:cq (cv d) b (jc (cv d))≠0:=h1
   refine Gc ?_
   iterate 2 refine Gs ?_
   refine Gc ?_
   refine an (.inl rfl) (aK rfl (al rfl)) (fun w1 hw=> ?_)
   exact⟨jC,by rw[bb,bH,if_pos dz];rfl,by rw[po,bb,bH,if_pos dz],ah.mem hw⟩
  ·
   replace h1:=bz h1
   have dz:cq (cv d) b (jc (cv d))=0:=h1
   iterate 2 refine Gi ?_
   exact bh (x:=(d)) jC ⟨by rw[bb,po,bH,if_neg (by first|omega|(simp only[];omega))],by rw[po];exact lg aH _ _,by rw[po];exact bu.trans (l5 _ _ _)⟩ (by have h9:=H3 (c:=cv d) (b:=b) (p:=jc (cv d)) (by first|omega|(simp only[];omega));rw[po];omega) (Sub.cons rfl (Sub.cons rfl (Sub.nil _))) (fun w hw=>ah.mem hw)
 ·
  replace h0:=bz h0
  have AM:=OV (c:=cv d) (b:=b) (by omega)
  refine Gc ?_
  iterate 2 refine Gs ?_
  refine bp rfl ⟨aH,by omega,by omega⟩ fun aC rf=> ?_
  refine Gs ?_
  refine Gc ?_
  refine an (.inl rfl) (aK rfl (al rfl)) (fun w1 hw=> ?_)
  exact⟨aC,by rw[bb,AM],by rw[rf,bb,AM],ah.mem hw⟩
instance aec{w0:World}{L R1 L2:List aj}{i0 i1:Nat}{k:Nat}{xc:Cp}{xa:Sl Int}{xg:UInt64}{xl:Int}{xy:Bool}{b:Int}[q0:Has L k (aR (⟨⟨xc,xa,xg,xl⟩,xy⟩:aV)) 141 i0][d0:c8 L i0 R1][q1:At R1 (fz xc) i1][d1:c8 R1 i1 L2]:bW Tryz.prog 173 w0 L [.pointer (some ⟨k,0,none⟩), .int .i64 b] (Cp) (fun zz=> .int .i64 ((dU (cv xc) b).2)) (fun zz=>ar k (aR (⟨⟨zz,xa,xg,xl⟩,xy⟩:aV)) 141::fz zz::L2) (fun zz=>cv zz=(dU (cv xc) b).1) (bg (cv xc)=true∧0≤b∧b<(cv xc).blocks.length):=⟨fun hp w hw=>Tj w0 w L2 k xc xa xg xl xy b (qZ q0.h d0.h q1.h d1.h hw) hp⟩
open Go.aL Go.Kb
open Go.RowKit
theorem AN(w:World):(Instr.build 50 #[(3, .bool true)]).run Tryz.prog w= .ok (.agg (bC cd)) w:=by kernel_rfl
theorem Tl(w:World)(xb:Nat)(xc:Cp)(xa:Sl Int)(xg:UInt64)(xl:Int)(xy:Bool)(l:Sl (Sl Int))(dV:w.heap[xb]? =Option.some (.cells (aR (⟨⟨xc,xa,xg,xl⟩,xy⟩:aV)) 141 (0,0)))(dr:Deep.bk (hp w) xc)(hl:Deep.bk (hp w) l)(ba:oX (cv xc) (az l.xs)):Calls Tryz.prog 165 #[.pointer (some ⟨xb,0,none⟩),l.sv.val] w fun e w'=> ∃zz:Sv,e= .returned (zz.val)∧(True)∧Mem w [own bC 4 zz (aY (cv xc) (az l.xs))] w':=by
 have ra:od w xb (aR (⟨⟨xc,xa,xg,xl⟩,xy⟩:aV)) 141:=⟨dV⟩
 have rb:bT w xc:=⟨dr⟩
 have nt:bT w l:=⟨hl⟩
 refine aW (args:=[_,_]) Tryz.func165 rfl Tryz.ntmps165 rfl ?_
 change Cw _ _ _ _ _ [(0, .pointer (some ⟨xb,0,none⟩)),(1,l.sv.val)] []
 refine Gc ?_
 refine Gs ?_
 refine Gc ?_
 iterate 4 refine Gs ?_
 refine ae (Ry.to (v':= .agg (aB xc)) (Sc rfl) rfl) ?_
 refine Gs ?_
 refine bp rfl (by assumption) fun Eo aed=> ?_
 have tE:(ic (cv xc) (az l.xs)).length=(cv xc).blocks.length -2:=by rw[ic,vA]
 have fB:=ik.1 (dE.1 ba.1.1).1
 have ui: ∀i,i≤(ic (cv xc) (az l.xs)).length→(((ic (cv xc) (az l.xs)).take i).map m9++(ic (cv xc) (az l.xs)).drop i).length=(ic (cv xc) (az l.xs)).length:=fun i hi=>by rw[List.length_append,List.length_map,List.length_take,List.length_drop];omega
 refine Gs ?_
 refine Gc ?_
 iterate 3 refine Gs ?_
 refine Gc ?_
 refine bK (X:=Nat) (fun zz=>[(16, .int .i64 (zz:Nat)),(5,Eo.val),(15, .int .i64 ((ic (cv xc) (az l.xs)).length:Nat))]) (fun zz=>[own bC 4 Eo (((ic (cv xc) (az l.xs)).take zz).map m9++(ic (cv xc) (az l.xs)).drop zz)]) (fun zz=>zz≤(ic (cv xc) (az l.xs)).length) (fun zz=>(ic (cv xc) (az l.xs)).length -zz) 0 (Nat.zero_le _) (Sub.cons rfl (Sub.cons rfl (Sub.cons rfl (Sub.nil _)))) (fun w hw=>by simp only[List.take_zero,List.map_nil,List.nil_append,List.drop_zero];exact ah.mem hw) ?_
 rintro i bb
 have sG:=ui i bb
 refine Gc ?_
 refine Gs ?_
 refine Gc ?_
 refine aq rfl (fun h0=> ?_) (fun h0=> ?_)
 ·
  replace h0:=bz h0
  obtain⟨z,hz⟩:=get_some (xs:=(ic (cv xc) (az l.xs))) (i:=i) (by omega)
  have xX:=Ia (f:=m9) hz
  refine Gc ?_
  iterate 2 refine Gs ?_
  refine Gc ?_
  iterate 2 refine Gs ?_
  refine ae (aX rfl rfl i rfl (by omega)) ?_
  refine ae (aA rfl rfl) ?_
  refine ae (bn (j:=3) rfl i xX rfl (by decide)) ?_
  refine Gc ?_
  refine aq rfl (fun h1=> ?_) (fun h1=> ?_)
  ·
   replace h1:=bz h1
   have hf:m9 z=cd:=by rw[m9,if_pos h1]
   refine Gi ?_
   iterate 2 refine Gs ?_
   refine ae (bV (v:= .agg (bC cd)) rfl AN) ?_
   refine ae (aX rfl rfl i rfl (by omega)) ?_
   refine jU (n:=4) (k:=i) (j:=0) (a:=z) (a':=cd) (xs:=(((ic (cv xc) (az l.xs)).take i).map m9++(ic (cv xc) (az l.xs)).drop i)) (enc:=bC) (c:=4) (v:= .agg (bC cd)) (by kernel_rfl) rfl rfl rfl xX (bF.one (enc:=bC) (c:=4) _) rfl (by decide) (by rfl) ?_
   refine Gc ?_
   iterate 2 refine Gs ?_
   refine Gi ?_
   exact bh (x:=(i)) (i+1) (by first|omega|(simp only[];omega)) (by first|omega|(simp only[];omega)) (Sub.cons rfl (Sub.cons rfl (Sub.cons rfl (Sub.nil _)))) (fun w hw=>by rw[←H8 hz,hf];exact ah.mem hw)
  ·
   replace h1:=bz h1
   have hf:m9 z=z:=by rw[m9,if_neg (by rw[h1];simp)]
   refine Gc ?_
   iterate 2 refine Gs ?_
   refine Gi ?_
   exact bh (x:=(i)) (i+1) (by first|omega|(simp only[];omega)) (by first|omega|(simp only[];omega)) (Sub.cons rfl (Sub.cons rfl (Sub.cons rfl (Sub.nil _)))) (fun w hw=>by rw[←H9 hz hf];exact ah.mem hw)
 ·
  replace h0:=bz h0
  obtain rfl:i=(ic (cv xc) (az l.xs)).length:=by omega
  have hE:aY (cv xc) (az l.xs)=(((ic (cv xc) (az l.xs)).take (ic (cv xc) (az l.xs)).length).map m9++(ic (cv xc) (az l.xs)).drop (ic (cv xc) (az l.xs)).length):=by rw[aY,List.take_length,List.drop_length,List.append_nil]
  refine Gc ?_
  iterate 2 refine Gs ?_
  refine Gc ?_
  refine an (.inl rfl) (aK rfl (al rfl)) (fun w1 hw=> ?_)
  exact⟨Eo,rfl,trivial,by rw[hE];exact ah.mem hw⟩
instance Ep{w0:World}{L:List aj}{xb:Nat}{xc:Cp}{xa:Sl Int}{xg:UInt64}{xl:Int}{xy:Bool}{l:Sl (Sl Int)}[dV:kx w0 L xb (aR (⟨⟨xc,xa,xg,xl⟩,xy⟩:aV)) 141][dr:aS w0 L xc][hl:aS w0 L l]:bW Tryz.prog 165 w0 L [.pointer (some ⟨xb,0,none⟩),l.sv.val] (Sv) (fun zz=>zz.val) (fun zz=>own bC 4 zz (aY (cv xc) (az l.xs))::L) (fun zz=>True) (oX (cv xc) (az l.xs)):=⟨fun hp w hw=>(Tl w xb xc xa xg xl xy l (dV.h w hw) (dr.h w hw) (hl.h w hw) hp).mono fun e w' ⟨x,h1,h2,h3⟩=>⟨x,h1,h2,hw.call h3⟩⟩
theorem Tm(w:World)(s:Sv)(ss:List aN)(hs:bM bC 4 (hp w) s ss)(ba:ss.length≤1000000):Calls Tryz.prog 180 #[s.val] w fun e w'=> ∃zz:Sv,e= .returned (zz.val)∧(True)∧Mem w [own bC 4 zz ss] w':=by
 have uj:Gv w s bC 4 ss:=⟨hs⟩
 refine aW (args:=[_]) Tryz.func180 rfl Tryz.ntmps180 rfl ?_
 change Cw _ _ _ _ _ [(0,s.val)] []
 refine Gc ?_
 refine Gs ?_
 refine Gc ?_
 refine Gs ?_
 refine ae (qC Tryz.underlying43 rfl) ?_
 refine Gc ?_
 refine aq rfl (fun h0=> ?_) (fun h0=> ?_)
 ·
  replace h0:=bz h0
  have e0:ss=[]:=List.length_eq_zero_iff.1 (by have:=hs.ok.nil h0;have:=hs.len;omega)
  refine Gc ?_
  refine Gs ?_
  refine Gc ?_
  refine an (.inl rfl) (aK rfl (al rfl)) (fun w1 hw=> ?_)
  exact⟨Sv.none,rfl,trivial,by rw[e0];exact(ah.mem hw:Mem w [] _).cz bC 4⟩
 ·
  replace h0:=bz h0
  refine Gc ?_
  refine qD bC fun b5=> ?_
  refine Gs ?_
  refine jG (s:=⟨false,b5,0,0,0,none⟩) (enc:=bC) (ys:=ss) rfl rfl (by decide) (fun w hw=>gX (s:=s) Tryz.underlying43 (by decide) ((inferInstance:cl _ _ bC 4 s ss).h w hw)) (by simp only[List.length_nil];omega) (by simp only[List.length_nil];omega) fun s7 uk sD=> ?_
  refine Gs ?_
  refine Gc ?_
  refine an (.inl rfl) (aK rfl (al rfl)) (fun w1 hw=> ?_)
  exact⟨s7,rfl,trivial,by rw[List.nil_append]at hw;exact ah.mem hw⟩
instance aee{w0:World}{L:List aj}{s:Sv}{ss:List aN}[hs:cl w0 L bC 4 s ss]:bW Tryz.prog 180 w0 L [s.val] (Sv) (fun zz=>zz.val) (fun zz=>own bC 4 zz ss::L) (fun zz=>True) (ss.length≤1000000):=⟨fun hp w hw=>(Tm w s ss (hs.h w hw) hp).mono fun e w' ⟨x,h1,h2,h3⟩=>⟨x,h1,h2,hw.call h3⟩⟩
theorem Tn(w:World)(f:FuncId)(jf:Array Value)(R:aN→Bool)(hr:ph Tryz.prog w [] f jf bC R)(l:Sv)(ls:List aN)(hl:bM bC 4 (hp w) l ls)(ba:ls.length≤1000000):Calls Tryz.prog 169 #[l.val, .func (.func f) #[] jf] w fun e w'=> ∃zz:Sv,e= .returned (zz.val)∧(True)∧Mem w [own bC 4 zz (cB R ls)] w':=by
 have nt:Gv w l bC 4 ls:=⟨hl⟩
 have St:=hr.fn
 have ui: ∀i,i≤ls.length→((ls.take i).map (kJ R)++ls.drop i).length=ls.length:=fun i hi=>by rw[List.length_append,List.length_map,List.length_take,List.length_drop];omega
 refine aW (args:=[_,_]) Tryz.func169 rfl Tryz.ntmps169 rfl ?_
 change Cw _ _ _ _ _ [(0,l.val),(1, .func (.func f) #[] jf)] []
 refine Gc ?_
 refine Gs ?_
 refine Gc ?_
 refine Gs ?_
 refine bp rfl (by omega) fun x9 vW=> ?_
 refine Gs ?_
 refine Gc ?_
 iterate 3 refine Gs ?_
 refine Gc ?_
 refine bK (X:=Nat) (fun zz=>[(12, .int .i64 (zz:Nat)),(5,x9.val),(10,x9.val),(1, .func (.func f) #[] jf),(11, .int .i64 (ls.length:Nat))]) (fun zz=>[own bC 4 x9 ((ls.take zz).map (kJ R)++ls.drop zz)]) (fun zz=>zz≤ls.length) (fun zz=>ls.length -zz) 0 (Nat.zero_le _) (Sub.cons rfl (Sub.cons rfl (Sub.cons rfl (Sub.cons rfl (Sub.cons rfl (Sub.nil _)))))) (fun w hw=>by simp only[List.take_zero,List.map_nil,List.nil_append,List.drop_zero];exact ah.mem hw) ?_
 rintro i bb
 have sG:=ui i bb
 refine Gc ?_
 refine Gs ?_
 refine Gc ?_
 refine aq rfl (fun h0=> ?_) (fun h0=> ?_)
 ·
  replace h0:=bz h0
  obtain⟨z,hz⟩:=get_some (xs:=ls) (i:=i) (by omega)
  have xX:=Ia (f:=kJ R) hz
  refine Gc ?_
  refine Gs ?_
  refine ae (aX rfl rfl i rfl (by omega)) ?_
  refine ae (fH rfl i xX rfl) ?_
  refine bx fun b7=> ?_
  iterate 2 refine Gs ?_
  refine Gc ?_
  iterate 3 refine Gs ?_
  refine Gg ?_
  refine bD rfl rfl rfl (fun hg=>(Ry.yl (dW rfl))) ?_
  refine bD rfl rfl rfl (fun hg=>Ay (f:=f) (vs:=[.agg (bC z)]) (av hg rfl) (cg (av hg rfl) dO) (fun w1 oC=>hr.h w1 (ah.mem oC) z)) ?_
  refine bD rfl rfl rfl (fun hg=>(Ry.yl (fU (av hg rfl)))) ?_
  refine Gs ?_
  refine Gc ?_
  refine aq rfl (fun h1=> ?_) (fun h1=> ?_)
  ·
   replace h1:=bz h1
   have hf:kJ R z=cd:=by rw[kJ,if_pos (by simpa using h1)]
   refine Gi ?_
   iterate 2 refine Gs ?_
   refine ae (bV (v:= .agg (bC cd)) rfl AN) ?_
   refine ae (aX rfl rfl i rfl (by omega)) ?_
   refine jU (n:=4) (k:=i) (j:=0) (a:=z) (a':=cd) (xs:=((ls.take i).map (kJ R)++ls.drop i)) (enc:=bC) (c:=4) (v:= .agg (bC cd)) (by kernel_rfl) rfl rfl rfl xX (bF.one (enc:=bC) (c:=4) _) rfl (by decide) (by rfl) ?_
   refine Gc ?_
   iterate 2 refine Gs ?_
   refine Gi ?_
   exact bh (x:=(i)) (i+1) (by first|omega|(simp only[];omega)) (by first|omega|(simp only[];omega)) (Sub.cons rfl (Sub.cons rfl (Sub.cons rfl (Sub.cons rfl (Sub.cons rfl (Sub.nil _)))))) (fun w hw=>by rw[←H8 hz,hf];exact ah.mem hw)
  ·
   replace h1:=bz h1
   have hf:kJ R z=z:=by rw[kJ,if_neg (by simpa using h1)]
   refine Gc ?_
   iterate 2 refine Gs ?_
   refine Gi ?_
   exact bh (x:=(i)) (i+1) (by first|omega|(simp only[];omega)) (by first|omega|(simp only[];omega)) (Sub.cons rfl (Sub.cons rfl (Sub.cons rfl (Sub.cons rfl (Sub.cons rfl (Sub.nil _)))))) (fun w hw=>by rw[←H9 hz hf];exact ah.mem hw)
 ·
  replace h0:=bz h0
  obtain rfl:i=ls.length:=by omega
  have hE:cB R ls=((ls.take ls.length).map (kJ R)++ls.drop ls.length):=by rw[cB,List.take_length,List.drop_length,List.append_nil]
  refine Gc ?_
  iterate 2 refine Gs ?_
  refine Gc ?_
  refine an (.inl rfl) (aK rfl (al rfl)) (fun w1 hw=> ?_)
  exact⟨x9,rfl,trivial,by rw[hE];exact ah.mem hw⟩
instance aef{w0:World}{L:List aj}{f:FuncId}{jf:Array Value}{R:aN→Bool}{l:Sv}{ls:List aN}[rq:ph Tryz.prog w0 L f jf bC R][hl:cl w0 L bC 4 l ls]:bW Tryz.prog 169 w0 L [l.val, .func (.func f) #[] jf] (Sv) (fun zz=>zz.val) (fun zz=>own bC 4 zz (cB R ls)::L) (fun zz=>True) (ls.length≤1000000):=⟨fun hp w hw=>(Tn w f jf R (rq.at hw) l ls (hl.h w hw) hp).mono fun e w' ⟨x,h1,h2,h3⟩=>⟨x,h1,h2,hw.call h3⟩⟩
open Go.aL Go.Kb
open Go.RowKit
instance:eC Tryz.prog 3 (.int .i64 0):=⟨by kernel_rfl⟩
theorem xY(a:Sl Int):az [a]=a.xs:=by simp[az]
theorem Er(a b:Sl Int):az [a,b]=a.xs++b.xs:=by simp[az]
theorem To(w:World)(xb:Nat)(xc:Cp)(xa:Sl Int)(xg:UInt64)(xl:Int)(xy:Bool)(dV:w.heap[xb]? =Option.some (.cells (aR (⟨⟨xc,xa,xg,xl⟩,xy⟩:aV)) 141 (0,0)))(dr:Deep.bk (hp w) xc)(nT:Deep.bk (hp w) xa)(ba:oX (cv xc) xa.xs):Calls Tryz.prog 150 #[.pointer (some ⟨xb,0,none⟩)] w fun e w'=>e= .returned (.tuple #[.int .i64 ((ma (cv xc) xa.xs).1), .int .i64 ((ma (cv xc) xa.xs).2)])∧Mem w [] w':=by
 have ra:od w xb (aR (⟨⟨xc,xa,xg,xl⟩,xy⟩:aV)) 141:=⟨dV⟩
 have rb:bT w xc:=⟨dr⟩
 have aeg:bT w xa:=⟨nT⟩
 have oc:oX (cv xc) (az [xa]):=by rw[xY];exact ba
 have hk:=ba.1.1
 have J0: ∀z∈(aY (cv xc) (az [xa])),z8 (cv xc) (az [xa]).length z:=fun z hz=>Ab hk hz
 have q6:=Iq hk (aY (cv xc) (az [xa])) J0
 have AO:=oZ (cv xc) (az [xa])
 have hd:=kL hk
 change _∧_∧1≤xc.ag∧xc.ag≤16∧_∧_ at hd
 refine aW (args:=[_]) Tryz.func150 rfl Tryz.ntmps150 rfl ?_
 change Cw _ _ _ _ _ [(0, .pointer (some ⟨xb,0,none⟩))] []
 refine Gc ?_
 iterate 2 refine Gs ?_
 refine Gc ?_
 iterate 2 refine Gs ?_
 refine Gc ?_
 iterate 5 refine Gs ?_
 refine ae (Ry.to (v':=xa.sv.val) (lE rfl) rfl) ?_
 refine mz (enc:=bP) (vals:=[xa.sv.val]) [xa] rfl (by simp only[List.map_cons,List.map_nil,Sv.hQ];rfl) rfl (by decide) (by decide) fun J1=> ?_
 refine bp (hc:=Ep (l:=(⟨⟨false,J1,0,1,1,none⟩,[xa]⟩:Sl (Sl Int)))) rfl oc fun aD jB=> ?_
 iterate 2 refine Gs ?_
 refine Gc ?_
 refine bK (X:=Nat) (fun zz=>[(18, .int .i64 (zz:Nat)),(4, .int .i64 ((eI xc.ag ((aY (cv xc) (az [xa])).take zz)).1)),(5, .int .i64 ((eI xc.ag ((aY (cv xc) (az [xa])).take zz)).2)),(0, .pointer (some ⟨xb,0,none⟩)),(16,aD.val),(17, .int .i64 ((aY (cv xc) (az [xa])).length:Nat))]) (fun zz=>[own bC 4 aD (aY (cv xc) (az [xa]))]) (fun zz=>zz≤(aY (cv xc) (az [xa])).length) (fun zz=>(aY (cv xc) (az [xa])).length -zz) 0 (Nat.zero_le _) (Sub.cons rfl (Sub.cons (look_eq rfl (by rw[List.take_zero];rfl)) (Sub.cons (look_eq rfl (by rw[List.take_zero];rfl)) (Sub.cons rfl (Sub.cons rfl (Sub.cons rfl (Sub.nil _))))))) (fun w hw=>ah.mem hw) ?_
 rintro i bb
 refine Gc ?_
 refine Gs ?_
 refine Gc ?_
 refine aq rfl (fun h0=> ?_) (fun h0=> ?_)
 ·
  replace h0:=bz h0
  obtain⟨z,hz⟩:=get_some (xs:=(aY (cv xc) (az [xa]))) (i:=i) (by omega)
  have dN:=Ip (p:=xc.ag) hz
  have ht:=J0 z (List.mem_of_getElem? hz)
  have hu0:=ht.z9
  have J2:z.used≤xc.ag:=ht.Aa
  have eP:0≤(eI xc.ag ((aY (cv xc) (az [xa])).take i)).1∧(eI xc.ag ((aY (cv xc) (az [xa])).take i)).1≤16*(i:Int)∧0≤(eI xc.ag ((aY (cv xc) (az [xa])).take i)).2∧(eI xc.ag ((aY (cv xc) (az [xa])).take i)).2≤16:=q6 i (by omega)
  refine Gc ?_
  refine ae (aX rfl rfl i rfl (by omega)) ?_
  refine ae (fH rfl i hz rfl) ?_
  refine bx fun b7=> ?_
  refine Gs ?_
  refine Gc ?_
  iterate 2 refine Gs ?_
  refine Gc ?_
  refine aq rfl (fun h1=> ?_) (fun h1=> ?_)
  ·
   replace h1:=bz h1
   have bH:(eI xc.ag ((aY (cv xc) (az [xa])).take (i+1)))=(eI xc.ag ((aY (cv xc) (az [xa])).take i)):=by rw[dN,tZ,if_pos h1]
   refine Gc ?_
   iterate 2 refine Gs ?_
   refine Gi ?_
   exact bh (x:=(i)) (i+1) (by first|omega|(simp only[];omega)) (by first|omega|(simp only[];omega)) (Sub.cons rfl (Sub.cons (look_eq rfl (by rw[bH])) (Sub.cons (look_eq rfl (by rw[bH])) (Sub.cons rfl (Sub.cons rfl (Sub.cons rfl (Sub.nil _))))))) (fun w hw=>ah.mem hw)
  ·
   replace h1:=bz h1
   have nS: ¬z.bad=true:=by rw[h1];simp
   refine Gc ?_
   refine eF (by kernel_rfl) (by kernel_rfl) ?_
   iterate 5 refine Gq ?_
   refine aT (Ry.to (v':= .int .i64 xc.ag) (lE rfl) rfl) ?_
   iterate 4 refine Gq ?_
   refine Gc ?_
   iterate 3 refine Gs ?_
   refine Gc ?_
   refine aq rfl (fun h2=> ?_) (fun h2=> ?_)
   ·
    replace h2:=bz h2
    refine Gc ?_
    iterate 2 refine Gs ?_
    refine Gc ?_
    refine aq rfl (fun h3=> ?_) (fun h3=> ?_)
    ·
     replace h3:=bz h3
     have hN:pa xc.ag z=xc.ag:=by rw[pa,if_pos ⟨h2,h3⟩]
     have bH:(eI xc.ag ((aY (cv xc) (az [xa])).take (i+1)))=((eI xc.ag ((aY (cv xc) (az [xa])).take i)).1+xc.ag,max (eI xc.ag ((aY (cv xc) (az [xa])).take i)).2 xc.ag):=by rw[dN,tZ,if_neg nS,if_pos h2,hN]
     refine Gi ?_
     iterate 5 refine Gs ?_
     refine ae (Ry.to (v':= .int .i64 xc.ag) (lE rfl) rfl) ?_
     refine Gs ?_
     refine Gc ?_
     iterate 2 refine Gs ?_
     refine ae (tl rfl rfl) ?_
     refine Gs ?_
     refine Gc ?_
     iterate 4 refine Gs ?_
     refine Gc ?_
     iterate 2 refine Gs ?_
     refine Gi ?_
     exact bh (x:=(i)) (i+1) (by first|omega|(simp only[];omega)) (by first|omega|(simp only[];omega)) (Sub.cons rfl (Sub.cons (look_eq rfl (by rw[bH])) (Sub.cons (look_eq rfl (by rw[bH])) (Sub.cons rfl (Sub.cons rfl (Sub.cons rfl (Sub.nil _))))))) (fun w hw=>ah.mem hw)
    ·
     replace h3:=bz h3
     have hN:pa xc.ag z=xc.ag -z.used:=by rw[pa,if_neg (fun h=>h3 h.2)]
     have bH:(eI xc.ag ((aY (cv xc) (az [xa])).take (i+1)))=((eI xc.ag ((aY (cv xc) (az [xa])).take i)).1+(xc.ag -z.used),max (eI xc.ag ((aY (cv xc) (az [xa])).take i)).2 (xc.ag -z.used)):=by rw[dN,tZ,if_neg nS,if_pos h2,hN]
     refine Gc ?_
     iterate 2 refine Gs ?_
     refine ae (tl rfl rfl) ?_
     refine Gs ?_
     refine Gc ?_
     iterate 4 refine Gs ?_
     refine Gc ?_
     iterate 2 refine Gs ?_
     refine Gi ?_
     exact bh (x:=(i)) (i+1) (by first|omega|(simp only[];omega)) (by first|omega|(simp only[];omega)) (Sub.cons rfl (Sub.cons (look_eq rfl (by rw[bH])) (Sub.cons (look_eq rfl (by rw[bH])) (Sub.cons rfl (Sub.cons rfl (Sub.cons rfl (Sub.nil _))))))) (fun w hw=>ah.mem hw)
   ·
    replace h2:=bz h2
    have hN:pa xc.ag z=xc.ag -z.used:=by rw[pa,if_neg (fun h=>h2 h.1)]
    have bH:(eI xc.ag ((aY (cv xc) (az [xa])).take (i+1)))=((eI xc.ag ((aY (cv xc) (az [xa])).take i)).1+(xc.ag -z.used),(eI xc.ag ((aY (cv xc) (az [xa])).take i)).2):=by rw[dN,tZ,if_neg nS,if_neg h2,hN]
    refine Gc ?_
    iterate 4 refine Gs ?_
    refine Gc ?_
    iterate 2 refine Gs ?_
    refine Gi ?_
    exact bh (x:=(i)) (i+1) (by first|omega|(simp only[];omega)) (by first|omega|(simp only[];omega)) (Sub.cons rfl (Sub.cons (look_eq rfl (by rw[bH])) (Sub.cons (look_eq rfl (by rw[bH])) (Sub.cons rfl (Sub.cons rfl (Sub.cons rfl (Sub.nil _))))))) (fun w hw=>ah.mem hw)
 ·
  replace h0:=bz h0
  obtain rfl:i=(aY (cv xc) (az [xa])).length:=by omega
  have hE:ma (cv xc) xa.xs=((eI xc.ag ((aY (cv xc) (az [xa])).take (aY (cv xc) (az [xa])).length)).1 -(eI xc.ag ((aY (cv xc) (az [xa])).take (aY (cv xc) (az [xa])).length)).2,(eI xc.ag ((aY (cv xc) (az [xa])).take (aY (cv xc) (az [xa])).length)).1):=by rw[ma,←xY xa,List.take_length];rfl
  have eP:0≤(eI xc.ag ((aY (cv xc) (az [xa])).take (aY (cv xc) (az [xa])).length)).1∧(eI xc.ag ((aY (cv xc) (az [xa])).take (aY (cv xc) (az [xa])).length)).1≤16*((aY (cv xc) (az [xa])).length:Int)∧0≤(eI xc.ag ((aY (cv xc) (az [xa])).take (aY (cv xc) (az [xa])).length)).2∧(eI xc.ag ((aY (cv xc) (az [xa])).take (aY (cv xc) (az [xa])).length)).2≤16:=q6 (aY (cv xc) (az [xa])).length (Nat.le_refl _)
  refine Gc ?_
  iterate 6 refine Gs ?_
  refine Gc ?_
  refine an (.inl rfl) (aZ rfl (al rfl) (al rfl)) (fun w1 hw=> ?_)
  exact⟨by rw[hE],ah.mem hw⟩
instance aeh{w0:World}{L:List aj}{xb:Nat}{xc:Cp}{xa:Sl Int}{xg:UInt64}{xl:Int}{xy:Bool}[dV:kx w0 L xb (aR (⟨⟨xc,xa,xg,xl⟩,xy⟩:aV)) 141][dr:aS w0 L xc][nT:aS w0 L xa]:bU Tryz.prog 150 w0 L [.pointer (some ⟨xb,0,none⟩)] (.tuple #[.int .i64 ((ma (cv xc) xa.xs).1), .int .i64 ((ma (cv xc) xa.xs).2)]) (oX (cv xc) xa.xs):=⟨fun hp w hw=>To w xb xc xa xg xl xy (dV.h w hw) (dr.h w hw) (nT.h w hw) hp⟩
theorem Tp(w:World)(x:aN):Calls Tryz.prog 175 #[.agg (bC x)] w fun e w'=>e= .returned (.bool (tY x))∧Mem w [] w':=by
 refine aW (args:=[_]) Tryz.func175 rfl Tryz.ntmps175 rfl ?_
 change Cw _ _ _ _ _ [(0, .agg (bC x))] []
 refine Gc ?_
 refine bL rfl fun b1=> ?_
 refine Gs ?_
 refine Gc ?_
 iterate 4 refine Gs ?_
 refine Gc ?_
 refine an (.inl rfl) (aK rfl (al rfl)) (fun w1 hw=> ?_)
 exact⟨congrArg (fun b=>Ending.returned (Value.bool b)) (rfl),ah.mem hw⟩
instance {w0:World}{L:List aj}:ph Tryz.prog w0 L 175 #[] bC tY:=⟨inferInstance,fun w _ x=>Tp w x⟩
theorem Tq(w:World)(x:aN):Calls Tryz.prog 176 #[.agg (bC x)] w fun e w'=>e= .returned (.bool (ju x))∧Mem w [] w':=by
 refine aW (args:=[_]) Tryz.func176 rfl Tryz.ntmps176 rfl ?_
 change Cw _ _ _ _ _ [(0, .agg (bC x))] []
 refine Gc ?_
 refine bL rfl fun b1=> ?_
 refine Gs ?_
 refine Gc ?_
 iterate 4 refine Gs ?_
 refine Gc ?_
 refine an (.inl rfl) (aK rfl (al rfl)) (fun w1 hw=> ?_)
 exact⟨congrArg (fun b=>Ending.returned (Value.bool b)) (rfl),ah.mem hw⟩
instance {w0:World}{L:List aj}:ph Tryz.prog w0 L 176 #[] bC ju:=⟨inferInstance,fun w _ x=>Tq w x⟩
theorem Ts(w0 w:World)(L:List aj)(k:Nat)(xc:Cp)(xa:Sl Int)(xg:UInt64)(xl:Int)(xy:Bool)(l:Sl (Sl Int))[hl:aS w0 L l](hw:Mem w0 (ar k (aR (⟨⟨xc,xa,xg,xl⟩,xy⟩:aV)) 141::fz xc::L) w)(ba:bg (cv xc)=true∧3≤(cv xc).blocks.length∧gK (cv xc) (az l.xs)∧(az l.xs).length≤1000):Calls Tryz.prog 153 #[.pointer (some ⟨k,0,none⟩),l.sv.val] w fun e w'=> ∃zz:Cp,e= .returned (.tuple #[.int .i64 ((bO (cv xc) (az l.xs) xy).2.1), .int .i64 ((bO (cv xc) (az l.xs) xy).2.2)])∧(cv zz=(bO (cv xc) (az l.xs) xy).1)∧Mem w0 (ar k (aR (⟨⟨zz,xa,xg,xl⟩,xy⟩:aV)) 141::fz zz::L) w':=by
 obtain⟨hk,AP,uA,la⟩:=ba
 have oc:=uA.kn hk (by omega) (by omega)
 have hd:=kL hk
 have AO:=oZ (cv xc) (az l.xs)
 refine jH (args:=[_,_]) Tryz.func153 rfl Tryz.ntmps153 rfl hw ?_
 change Cw _ _ _ _ _ [(0, .pointer (some ⟨k,0,none⟩)),(1,l.sv.val)] (ar k (aR (⟨⟨xc,xa,xg,xl⟩,xy⟩:aV)) 141::fz xc::L)
 refine Gc ?_
 iterate 2 refine Gs ?_
 refine Gc ?_
 refine fw [2] [[],[],[],[],[],[],[],[],[],[2],[2]] [0,1,3,4,5,6,7,8,2,9,10] [ar k (aR (⟨⟨xc,xa,xg,xl⟩,xy⟩:aV)) 141,fz xc] (fun _ hw=>ah.mem hw) (by kernel_rfl) (by kernel_rfl) ?_
 refine ak rfl (au rfl) ?_
 refine ak rfl (au rfl) ?_
 refine ak rfl (au rfl) ?_
 refine ak rfl (iV rfl) ?_
 refine ak rfl (aA (o':=0) rfl rfl) ?_
 refine ak rfl (aA (o':=0) rfl rfl) ?_
 refine ak rfl (aA (o':=0) rfl rfl) ?_
 refine ak rfl (Ry.to (v':= .int .i64 xc.ag) (bl rfl) rfl) ?_
 refine cK rfl (lT rfl oc fun gg um=>⟨fun _ hw=>ah.mem hw,?_⟩)
 refine ak rfl (aP rfl) ?_
 refine ak rfl (aP rfl) ?_
 refine Gc ?_
 refine Gs ?_
 refine bp rfl (by omega) fun vV D0=> ?_
 iterate 3 refine Gs ?_
 refine ae (aU (v:= .int .i64 ((fb (cB tY (aY (cv xc) (az l.xs))) xc.ag).1)) rfl rfl) ?_
 refine ae (aU (v:= .bool ((fb (cB tY (aY (cv xc) (az l.xs))) xc.ag).2)) rfl rfl) ?_
 iterate 2 refine Gs ?_
 refine Gc ?_
 refine Gs ?_
 refine Gc ?_
 refine aq rfl (fun h0=> ?_) (fun h0=> ?_)
 ·
  replace h0:=bz h0
  have kz:(nc (cv xc) (az l.xs)).2=true:=h0
  have hE:(bO (cv xc) (az l.xs) xy)=(cv xc,(nc (cv xc) (az l.xs)).1+2,0):=by rw[bO,if_pos kz]
  have kR:=Ij kz
  change 0≤(fb (cB tY (aY (cv xc) (az l.xs))) xc.ag).1∧(fb (cB tY (aY (cv xc) (az l.xs))) xc.ag).1<_∧_ at kR
  refine Gc ?_
  iterate 4 refine Gs ?_
  refine Gc ?_
  refine an (.inl rfl) (aZ rfl (al rfl) (al rfl)) (fun w1 hw=> ?_)
  exact⟨xc,by rw[hE];rfl,by rw[hE],ah.mem hw⟩
 ·
  replace h0:=bz h0
  have kz: ¬(nc (cv xc) (az l.xs)).2=true:=fun h=>by rw[show(nc (cv xc) (az l.xs)).2=false from h0]at h;cases h
  refine Gc ?_
  refine Gs ?_
  refine Gc ?_
  iterate 3 refine Gs ?_
  refine Gc ?_
  refine bK (X:=Nat) (fun zz=>[(39, .int .i64 (zz:Nat)),(10, .int .i64 ((((aY (cv xc) (az l.xs)).take zz).filter fun z=> !z.bad&&decide (z.live=0)).length:Nat)),(0, .pointer (some ⟨k,0,none⟩)),(6,gg.val),(7, .int .i64 xc.ag),(37,gg.val),(38, .int .i64 ((aY (cv xc) (az l.xs)).length:Nat))]) (fun zz=>ar k (aR (⟨⟨xc,xa,xg,xl⟩,xy⟩:aV)) 141::fz xc::own bC 4 gg (aY (cv xc) (az l.xs))::L) (fun zz=>zz≤(aY (cv xc) (az l.xs)).length) (fun zz=>(aY (cv xc) (az l.xs)).length -zz) 0 (Nat.zero_le _) (Sub.cons rfl (Sub.cons rfl (Sub.cons rfl (Sub.cons rfl (Sub.cons rfl (Sub.cons rfl (Sub.cons rfl (Sub.nil _)))))))) (fun w hw=>ah.mem hw) ?_
  rintro i bb
  refine Gc ?_
  refine Gs ?_
  refine Gc ?_
  refine aq rfl (fun h1=> ?_) (fun h1=> ?_)
  ·
   replace h1:=bz h1
   obtain⟨z,hz⟩:=get_some (xs:=(aY (cv xc) (az l.xs))) (i:=i) (by omega)
   have dN:=O7 hz
   have hle:=O8 ((aY (cv xc) (az l.xs)).take i)
   rw[List.length_take]at hle
   refine Gc ?_
   refine ae (aX rfl rfl i rfl (by omega)) ?_
   refine ae (fH rfl i hz rfl) ?_
   refine bx fun ql=> ?_
   refine Gs ?_
   refine Gc ?_
   iterate 4 refine Gs ?_
   iterate 3 refine Gg ?_
   refine Gs ?_
   refine Gc ?_
   refine aq rfl (fun h2=> ?_) (fun h2=> ?_)
   ·
    replace h2:=bz h2
    rw[if_pos (by simpa using h2)]at dN
    refine Gi ?_
    iterate 3 refine Gs ?_
    refine Gc ?_
    iterate 2 refine Gs ?_
    refine Gi ?_
    exact bh (x:=(i)) (i+1) (by first|omega|(simp only[];omega)) (by first|omega|(simp only[];omega)) (Sub.cons rfl (Sub.cons (look_eq rfl (by rw[dN];rfl)) (Sub.cons rfl (Sub.cons rfl (Sub.cons rfl (Sub.cons rfl (Sub.cons rfl (Sub.nil _)))))))) (fun w hw=>ah.mem hw)
   ·
    replace h2:=bz h2
    rw[if_neg (fun g=>h2.elim (fun h=>absurd (h.symm.trans g.1) (by simp)) (fun h=>h g.2))]at dN
    refine Gc ?_
    iterate 2 refine Gs ?_
    refine Gi ?_
    exact bh (x:=(i)) (i+1) (by first|omega|(simp only[];omega)) (by first|omega|(simp only[];omega)) (Sub.cons rfl (Sub.cons (look_eq rfl (by rw[dN,Nat.add_zero])) (Sub.cons rfl (Sub.cons rfl (Sub.cons rfl (Sub.cons rfl (Sub.cons rfl (Sub.nil _)))))))) (fun w hw=>ah.mem hw)
  ·
   replace h1:=bz h1
   obtain rfl:i=(aY (cv xc) (az l.xs)).length:=by omega
   have su:nR (aY (cv xc) (az l.xs))=(((aY (cv xc) (az l.xs)).take (aY (cv xc) (az l.xs)).length).filter fun z=> !z.bad&&decide (z.live=0)).length:=by rw[nR,List.take_length]
   refine Gc ?_
   iterate 3 refine Gs ?_
   iterate 2 refine Gg ?_
   refine bD rfl rfl rfl (fun hg=>(Ry.yl (au (av hg rfl)))) ?_
   refine jF rfl rfl rfl (fun hg=>(Ry.yl (au rfl))) ?_
   refine jF rfl rfl rfl (fun hg=>(Ry.yl (iV (av hg rfl)))) ?_
   refine jF rfl rfl rfl (fun hg=>(Ry.yl (aA (o':=9) (av hg rfl) rfl))) ?_
   refine jF rfl rfl rfl (fun hg=>(Ry.yl (Ry.to (v':= .bool xy) (bl (av hg rfl)) rfl))) ?_
   refine jF rfl rfl rfl (fun hg=>(Ry.yl (fU (av hg rfl)))) ?_
   refine bD rfl rfl rfl (fun hg=>(Ry.yl (nD (av hg rfl) (oA hg rfl) rfl))) ?_
   refine Gs ?_
   refine Gc ?_
   refine aq rfl (fun h3=> ?_) (fun h3=> ?_)
   ·
    replace h3:=bz h3
    have mO:nR (aY (cv xc) (az l.xs))=0∨(nR (aY (cv xc) (az l.xs))=1∧xy=false):=by
     rw[su]
     rcases h3 with h|h
     ·
      exact .inl (by omega)
     ·
      exact .inr ⟨by omega,h.2⟩
    have hE:(bO (cv xc) (az l.xs) xy)=(cv xc,0,5):=by rw[bO,if_neg kz,if_pos mO]
    refine Gc ?_
    iterate 2 refine Gs ?_
    refine Gc ?_
    refine an (.inl rfl) (aZ rfl (al rfl) (al rfl)) (fun w1 hw=> ?_)
    exact⟨xc,by rw[hE],by rw[hE],ah.mem hw⟩
   ·
    replace h3:=bz h3
    have mO: ¬(nR (aY (cv xc) (az l.xs))=0∨(nR (aY (cv xc) (az l.xs))=1∧xy=false)):=by
     rw[su]
     rintro(h|h)
     ·
      exact h3.1 (by omega)
     ·
      rcases h3.2 with g|g
      ·
       exact g (by omega)
      ·
       rw[h.2]at g;cases g
    refine Gc ?_
    refine Gs ?_
    refine bp rfl (by omega) fun dS Es=> ?_
    refine Gs ?_
    refine Gc ?_
    iterate 4 refine Gs ?_
    refine ae (aU (v:= .int .i64 ((fb (cB ju (aY (cv xc) (az l.xs))) xc.ag).1)) rfl rfl) ?_
    refine ae (aU (v:= .bool ((fb (cB ju (aY (cv xc) (az l.xs))) xc.ag).2)) rfl rfl) ?_
    iterate 2 refine Gs ?_
    refine Gc ?_
    refine Gs ?_
    refine Gc ?_
    refine aq rfl (fun h4=> ?_) (fun h4=> ?_)
    ·
     replace h4:=bz h4
     have iB:(l8 (cv xc) (az l.xs)).2=true:=h4
     have hE:(bO (cv xc) (az l.xs) xy)=(cv xc,(l8 (cv xc) (az l.xs)).1+2,0):=by rw[bO,if_neg kz,if_neg mO,if_pos iB]
     have kR:=Ik iB
     change 0≤(fb (cB ju (aY (cv xc) (az l.xs))) xc.ag).1∧(fb (cB ju (aY (cv xc) (az l.xs))) xc.ag).1<_∧_ at kR
     refine Gc ?_
     iterate 4 refine Gs ?_
     refine Gc ?_
     refine an (.inl rfl) (aZ rfl (al rfl) (al rfl)) (fun w1 hw=> ?_)
     exact⟨xc,by rw[hE];rfl,by rw[hE],ah.mem hw⟩
    ·
     replace h4:=bz h4
     have iB: ¬(l8 (cv xc) (az l.xs)).2=true:=fun h=>by rw[show(l8 (cv xc) (az l.xs)).2=false from h4]at h;cases h
     obtain⟨d1,d2,d3⟩:=Ig hk AP (fun e=>mO (.inl e)) iB
     change 0≤(fx (cB ju (aY (cv xc) (az l.xs))) xc.ag).1 at d1
     change(fx (cB ju (aY (cv xc) (az l.xs))) xc.ag).1<_ at d2
     have hE:(bO (cv xc) (az l.xs) xy)=((dU (cv xc) (nf (cv xc) (az l.xs)+2)).1,nf (cv xc) (az l.xs)+2,(dU (cv xc) (nf (cv xc) (az l.xs)+2)).2):=by rw[bO,if_neg kz,if_neg mO,if_neg iB]
     refine Gc ?_
     iterate 4 refine Gs ?_
     refine ae (aU (v:= .int .i64 ((fx (cB ju (aY (cv xc) (az l.xs))) xc.ag).1)) rfl rfl) ?_
     refine ae (aU (v:= .bool ((fx (cB ju (aY (cv xc) (az l.xs))) xc.ag).2)) rfl rfl) ?_
     iterate 2 refine Gs ?_
     refine Gc ?_
     iterate 5 refine Gs ?_
     refine bp rfl ⟨hk,by omega,by omega⟩ fun Tt Tu=> ?_
     iterate 2 refine Gs ?_
     refine Gc ?_
     refine an (.inl rfl) (aZ rfl (al rfl) (al rfl)) (fun w1 hw=> ?_)
     exact⟨Tt,by rw[hE];rfl,by rw[Tu,hE];rfl,ah.mem hw⟩
instance aei{w0:World}{L R1 L2:List aj}{i0 i1:Nat}{k:Nat}{xc:Cp}{xa:Sl Int}{xg:UInt64}{xl:Int}{xy:Bool}{l:Sl (Sl Int)}[q0:Has L k (aR (⟨⟨xc,xa,xg,xl⟩,xy⟩:aV)) 141 i0][d0:c8 L i0 R1][q1:At R1 (fz xc) i1][d1:c8 R1 i1 L2][hl:aS w0 L2 l]:bW Tryz.prog 153 w0 L [.pointer (some ⟨k,0,none⟩),l.sv.val] (Cp) (fun zz=> .tuple #[.int .i64 ((bO (cv xc) (az l.xs) xy).2.1), .int .i64 ((bO (cv xc) (az l.xs) xy).2.2)]) (fun zz=>ar k (aR (⟨⟨zz,xa,xg,xl⟩,xy⟩:aV)) 141::fz zz::L2) (fun zz=>cv zz=(bO (cv xc) (az l.xs) xy).1) (bg (cv xc)=true∧3≤(cv xc).blocks.length∧gK (cv xc) (az l.xs)∧(az l.xs).length≤1000):=⟨fun hp w hw=>Ts w0 w L2 k xc xa xg xl xy l (qZ q0.h d0.h q1.h d1.h hw) hp⟩
open Go.aL Go.Kb
open Go.RowKit
theorem Tw(w0 w:World)(L:List aj)(k:Nat)(xc:Cp)(xa:Sl Int)(xg:UInt64)(xl:Int)(xy:Bool)(q:dk)(l:Sl (Sl Int))[hq:aS w0 L q][hl:aS w0 L l](hw:Mem w0 (ar k (aR (⟨⟨xc,xa,xg,xl⟩,xy⟩:aV)) 141::fz xc::L) w)(ba:bg (cv xc)=true∧3≤(cv xc).blocks.length∧gK (cv xc) (az l.xs)∧(az l.xs).length≤1000):Calls Tryz.prog 127 #[.pointer (some ⟨k,0,none⟩), .agg (bZ q),l.sv.val] w fun e w'=> ∃zz:Cp,e= .returned (.tuple #[.int .i64 ((dL (cv xc) (az l.xs) xy (cA q)).2.1), .int .i64 ((dL (cv xc) (az l.xs) xy (cA q)).2.2)])∧(cv zz=(dL (cv xc) (az l.xs) xy (cA q)).1)∧Mem w0 (ar k (aR (⟨⟨zz,xa,xg,xl⟩,xy⟩:aV)) 141::fz zz::L) w':=by
 obtain⟨hk,AP,uA,la⟩:=ba
 have hd:=kL hk
 have BT:1≤xc.ag∧xc.ag≤16:=⟨hd.2.2.1,hd.2.2.2.1⟩
 refine jH (args:=[_,_,_]) Tryz.func127 rfl Tryz.ntmps127 rfl hw ?_
 change Cw _ _ _ _ _ [(0, .pointer (some ⟨k,0,none⟩)),(1, .agg (bZ q)),(2,l.sv.val)] (ar k (aR (⟨⟨xc,xa,xg,xl⟩,xy⟩:aV)) 141::fz xc::L)
 refine Gc ?_
 refine bL rfl fun b4=> ?_
 iterate 2 refine Gs ?_
 refine Gc ?_
 refine fw [7] [[],[],[],[],[],[],[],[],[7],[7],[7],[7],[7]] [0,1,2,3,4,5,6,7,8,9,10,11,12] [ar b4 (bZ q) 110,ar k (aR (⟨⟨xc,xa,xg,xl⟩,xy⟩:aV)) 141,fz xc] (fun _ hw=>ah.mem hw) (by kernel_rfl) (by kernel_rfl) ?_
 refine ak rfl (dW rfl) ?_
 refine ak rfl (au rfl) ?_
 refine ak rfl (iV rfl) ?_
 refine ak rfl (aA (o':=0) rfl rfl) ?_
 refine ak rfl (aA (o':=0) rfl rfl) ?_
 refine ak rfl (aA (o':=1) rfl rfl) ?_
 refine ak rfl (Ry.to (v':= .int .i64 xc.size) (bl rfl) rfl) ?_
 refine cK rfl (lT rfl trivial fun iC Et=>⟨fun _ hw=>ah.mem hw,?_⟩)
 skip
 refine ak rfl (au rfl) ?_
 refine ak rfl (aU (v:=iC.val) rfl rfl) ?_
 refine ak rfl (aU (v:= .int .i64 ((dZ (cA q) xc.size).2)) rfl rfl) ?_
 refine ak rfl (aP rfl) ?_
 refine ak rfl (aP rfl) ?_
 refine Gc ?_
 iterate 2 refine Gs ?_
 refine Gc ?_
 refine aq rfl (fun h0=> ?_) (fun h0=> ?_)
 ·
  replace h0:=bz h0
  have hE:(dL (cv xc) (az l.xs) xy (cA q))=(cv xc,0,(dZ (cA q) xc.size).2):=by rw[dL,if_pos (show(dZ (cA q) (cv xc).size).2≠0 from h0)];rfl
  refine Gc ?_
  iterate 3 refine Gs ?_
  refine Gc ?_
  refine an (.inl rfl) (aZ rfl (al rfl) (al rfl)) (fun w1 hw=> ?_)
  exact⟨xc,by rw[hE],by rw[hE],ah.mem hw⟩
 ·
  replace h0:=bz h0
  refine Gc ?_
  refine bK (X:=Nat×Cp) (fun zz=>[(0, .pointer (some ⟨k,0,none⟩)),(2,l.sv.val),(8,iC.val)]) (fun zz=>ar k (aR (⟨⟨zz.2,xa,xg,xl⟩,xy⟩:aV)) 141::fz zz.2::own aJ 1 iC (dZ (cA q) xc.size).1::L) (fun zz=>(dL (cv xc) (az l.xs) xy (cA q))=j8 zz.1 (cv zz.2) (az l.xs) xy (dZ (cA q) xc.size).1∧bg (cv zz.2)=true∧eH (cv xc) (cv zz.2)∧(dJ -(cv zz.2).ops).toNat<zz.1) (fun zz=>zz.1) ((dJ -(cv xc).ops).toNat+1,xc) ⟨by rw[dL,if_neg (show ¬(dZ (cA q) (cv xc).size).2≠0 from fun h=>h h0)];rfl,hk, .fZ _,by simp only;omega⟩ (Sub.cons rfl (Sub.cons rfl (Sub.cons rfl (Sub.nil _)))) (fun w hw=>ah.mem hw) ?_
  rintro⟨m,d⟩ ⟨bb,aH,bu,cJ⟩
  dsimp only
  simp only at bb aH bu cJ
  obtain⟨n,rfl⟩: ∃n,m=n+1:=⟨m -1,by omega⟩
  refine Gc ?_
  iterate 2 refine Gs ?_
  refine bp rfl ⟨aH,by rw[bu.len];exact AP,uA.jt bu,la⟩ fun lG uB=> ?_
  obtain⟨f1,f2,f3,f4,f5⟩:=Im (c:=cv d) (fl:=(az l.xs)) (bA:=xy) aH (by rw[bu.len];exact AP)
  rw[←uB]at f1 f2 f3 f4 f5
  have f6:=bu.trans f2
  have cO:(cv lG).blocks.length=lG.blocks.xs.length:=dH _
  have Rm:=f6.len
  have mN:lG.ag=xc.ag:=f6.ag
  have Tx:=bu.len
  have JZ:=si f1
  refine Gs ?_
  refine ae (aU (v:= .int .i64 ((bO (cv d) (az l.xs) xy).2.1)) rfl rfl) ?_
  refine ae (aU (v:= .int .i64 ((bO (cv d) (az l.xs) xy).2.2)) rfl rfl) ?_
  iterate 2 refine Gs ?_
  refine Gc ?_
  iterate 2 refine Gs ?_
  refine Gc ?_
  refine aq rfl (fun h1=> ?_) (fun h1=> ?_)
  ·
   replace h1:=bz h1
   have dz:(bO (cv d) (az l.xs) xy).2.2=0:=h1
   obtain⟨g1,g2,g3⟩:=f4 dz
   obtain⟨B,hB⟩:=get_some (xs:=lG.blocks.xs) (i:=(bO (cv d) (az l.xs) xy).2.1.toNat) (by omega)
   have pg:Mb B lG.blocks:=⟨List.mem_of_getElem? hB⟩
   have dx:=na hB
   have eu:=eM.1 (xE f1 (b:=(bO (cv d) (az l.xs) xy).2.1) (by omega) (by omega))
   have nv:(aO (cv lG) (bO (cv d) (az l.xs) xy).2.1).used=B.used:=by rw[dx];rfl
   rw[nv]at eu
   have Ty:(cv lG).ag=xc.ag:=mN
   rw[Ty]at eu
   have mL:0≤(bO (cv d) (az l.xs) xy).2.1*xc.ag:=Int.mul_nonneg (by omega) (by omega)
   have sL:(bO (cv d) (az l.xs) xy).2.1*xc.ag≤32*16:=Int.mul_le_mul (by omega) (by omega) (by omega) (by omega)
   refine Gi ?_
   refine eF (by kernel_rfl) (by kernel_rfl) ?_
   iterate 6 refine Gq ?_
   refine aT (Ry.to (v':= .int .i64 xc.ag) (bl rfl) (by rw[←mN])) ?_
   refine aT (nE rfl rfl (by omega)) ?_
   iterate 5 refine Gq ?_
   refine aT (Ry.to (v':=lG.blocks.sv.val) (bl rfl) rfl) ?_
   refine Gq ?_
   refine aT (aX rfl rfl ((bO (cv d) (az l.xs) xy).2.1.toNat) (by omega) (by omega)) ?_
   refine aT (aA rfl rfl) ?_
   refine aT (bn (j:=1) rfl ((bO (cv d) (az l.xs) xy).2.1.toNat) hB rfl (by decide)) ?_
   iterate 3 refine Gq ?_
   refine Gc ?_
   iterate 3 refine Gs ?_
   refine bp rfl ⟨f1,by omega,by omega⟩ fun Eu we=> ?_
   refine Gs ?_
   refine Gc ?_
   iterate 2 refine Gs ?_
   refine Gc ?_
   refine aq rfl (fun h2=> ?_) (fun h2=> ?_)
   ·
    replace h2:=bz h2
    have ez:(cq (cv lG) (bO (cv d) (az l.xs) xy).2.1 (dZ (cA q) xc.size).1)=0:=h2
    have hE:(dL (cv xc) (az l.xs) xy (cA q))=(dh (cv lG) (bO (cv d) (az l.xs) xy).2.1 (dZ (cA q) xc.size).1,(bO (cv d) (az l.xs) xy).2.1*xc.ag+B.used+1,0):=by
     rw[bb,j8,←uB,if_pos dz,if_pos ez,nv,show(cv d).ag=xc.ag from bu.ag]
    refine Gc ?_
    iterate 3 refine Gs ?_
    refine Gc ?_
    refine an (.inl rfl) (aZ rfl (al rfl) (al rfl)) (fun w1 hw=> ?_)
    exact⟨Eu,by rw[hE],by rw[hE,we],ah.mem hw⟩
   ·
    replace h2:=bz h2
    have ez: ¬(cq (cv lG) (bO (cv d) (az l.xs) xy).2.1 (dZ (cA q) xc.size).1)=0:=h2
    refine Gc ?_
    iterate 2 refine Gs ?_
    refine Gc ?_
    refine aq rfl (fun h3=> ?_) (fun h3=> ?_)
    ·
     replace h3:=bz h3
     refine Gc ?_
     iterate 3 refine Gs ?_
     refine Gc ?_
     refine an (.inl rfl) (aZ rfl (al rfl) (al rfl)) (fun w1 hw=> ?_)
     exact⟨Eu,by rw[bb,j8,←uB,if_pos dz,if_neg ez,if_pos (show(cq (cv lG) (bO (cv d) (az l.xs) xy).2.1 (dZ (cA q) xc.size).1)≠9 from h3)],by rw[we,bb,j8,←uB,if_pos dz,if_neg ez,if_pos (show(cq (cv lG) (bO (cv d) (az l.xs) xy).2.1 (dZ (cA q) xc.size).1)≠9 from h3)],ah.mem hw⟩
    ·
     replace h3:=bz h3
     iterate 2 refine Gi ?_
     have mO:(cq (cv lG) (bO (cv d) (az l.xs) xy).2.1 (dZ (cA q) xc.size).1)=9:=h3
     have rh:=sg g3 (p:=(dZ (cA q) xc.size).1) (.inl mO)
     have Ev:=si (lg f1 (bO (cv d) (az l.xs) xy).2.1 (dZ (cA q) xc.size).1)
     rw[rh]at Ev
     exact bh (x:=(n+1,d)) (n,Eu) ⟨by rw[bb,j8,←uB,if_pos dz,if_neg ez,if_neg (by simpa using mO),we],by rw[we];exact lg f1 _ _,by rw[we];exact f6.trans (l5 _ _ _),by rw[we,rh];omega⟩ (by simp only;omega) (Sub.cons rfl (Sub.cons rfl (Sub.cons rfl (Sub.nil _)))) (fun w hw=>ah.mem hw)
  ·
   replace h1:=bz h1
   have dz: ¬(bO (cv d) (az l.xs) xy).2.2=0:=h1
   refine Gc ?_
   iterate 2 refine Gs ?_
   refine Gc ?_
   refine aq rfl (fun h3=> ?_) (fun h3=> ?_)
   ·
    replace h3:=bz h3
    refine Gc ?_
    iterate 3 refine Gs ?_
    refine Gc ?_
    refine an (.inl rfl) (aZ rfl (al rfl) (al rfl)) (fun w1 hw=> ?_)
    exact⟨lG,by rw[bb,j8,if_neg dz,if_pos (show(bO (cv d) (az l.xs) xy).2.2≠9 from h3)],by rw[uB,bb,j8,if_neg dz,if_pos (show(bO (cv d) (az l.xs) xy).2.2≠9 from h3)],ah.mem hw⟩
   ·
    replace h3:=bz h3
    iterate 2 refine Gi ?_
    have mO:(bO (cv d) (az l.xs) xy).2.2=9:=h3
    exact bh (x:=(n+1,d)) (n,lG) ⟨by rw[bb,j8,if_neg dz,if_neg (by simpa using mO),uB],f1,f6,by have:=f5 mO;simp only;omega⟩ (by simp only;omega) (Sub.cons rfl (Sub.cons rfl (Sub.cons rfl (Sub.nil _)))) (fun w hw=>ah.mem hw)
instance Tz{w0:World}{L R1 L2:List aj}{i0 i1:Nat}{k:Nat}{xc:Cp}{xa:Sl Int}{xg:UInt64}{xl:Int}{xy:Bool}{q:dk}{l:Sl (Sl Int)}[q0:Has L k (aR (⟨⟨xc,xa,xg,xl⟩,xy⟩:aV)) 141 i0][d0:c8 L i0 R1][q1:At R1 (fz xc) i1][d1:c8 R1 i1 L2][hq:aS w0 L2 q][hl:aS w0 L2 l]:bW Tryz.prog 127 w0 L [.pointer (some ⟨k,0,none⟩), .agg (bZ q),l.sv.val] (Cp) (fun zz=> .tuple #[.int .i64 ((dL (cv xc) (az l.xs) xy (cA q)).2.1), .int .i64 ((dL (cv xc) (az l.xs) xy (cA q)).2.2)]) (fun zz=>ar k (aR (⟨⟨zz,xa,xg,xl⟩,xy⟩:aV)) 141::fz zz::L2) (fun zz=>cv zz=(dL (cv xc) (az l.xs) xy (cA q)).1) (bg (cv xc)=true∧3≤(cv xc).blocks.length∧gK (cv xc) (az l.xs)∧(az l.xs).length≤1000):=⟨fun hp w hw=>Tw w0 w L2 k xc xa xg xl xy q l (qZ q0.h d0.h q1.h d1.h hw) hp⟩
open Go.aL Go.Kb
open Go.RowKit
theorem TA(w0 w:World)(L:List aj)(k:Nat)(xc:Cp)(xa:Sl Int)(xg:UInt64)(xl:Int)(xy:Bool)(hw:Mem w0 (ar k (aR (⟨⟨xc,xa,xg,xl⟩,xy⟩:aV)) 141::fz xc::L) w)(ba:bg (cv xc)=true∧2≤(cv xc).blocks.length∧(xl=0∨xl=1)):Calls Tryz.prog 154 #[.pointer (some ⟨k,0,none⟩)] w fun e w'=> ∃zz:Cp,e= .returned (.tuple #[.int .i64 ((bS (cv xc) xl).2.1), .int .i64 ((bS (cv xc) xl).2.2)])∧(cv zz=(bS (cv xc) xl).1)∧Mem w0 (ar k (aR (⟨⟨zz,xa,xg,xl⟩,xy⟩:aV)) 141::fz zz::L) w':=by
 obtain⟨hk,qa,JV⟩:=ba
 have cO:(cv xc).blocks.length=xc.blocks.xs.length:=dH _
 obtain⟨Bo,eu⟩:=get_some (xs:=xc.blocks.xs) (i:=(1 -xl).toNat) (by omega)
 have mbo:Mb Bo xc.blocks:=⟨List.mem_of_getElem? eu⟩
 have v9:=na eu
 refine jH (args:=[_]) Tryz.func154 rfl Tryz.ntmps154 rfl hw ?_
 change Cw _ _ _ _ _ [(0, .pointer (some ⟨k,0,none⟩))] (ar k (aR (⟨⟨xc,xa,xg,xl⟩,xy⟩:aV)) 141::fz xc::L)
 refine Gc ?_
 iterate 2 refine Gs ?_
 refine Gc ?_
 iterate 4 refine Gs ?_
 refine ae (Ry.to (v':= .int .i64 xl) (bl rfl) rfl) ?_
 iterate 2 refine Gs ?_
 refine Gc ?_
 iterate 4 refine Gs ?_
 refine ae (Ry.to (v':= .int .i64 xl) (bl rfl) rfl) ?_
 refine Gs ?_
 refine mz (enc:=bf) (vals:=[_,_]) [xl,1 -xl] rfl rfl rfl (by decide) (by decide) fun ob=> ?_
 iterate 2 refine Gs ?_
 refine Gc ?_
 refine bK (X:=Nat) (fun zz=>[(21, .int .i64 (zz:Nat)),(0, .pointer (some ⟨k,0,none⟩)),(4, .int .i64 (1 -xl)),(19,(⟨false,ob,0,2,2,none⟩:Sv).val),(20, .int .i64 ([xl,1 -xl].length:Nat))]) (fun zz=>ar k (aR (⟨⟨xc,xa,xg,xl⟩,xy⟩:aV)) 141::fz xc::own bf 1 ⟨false,ob,0,2,2,none⟩ [xl,1 -xl]::L) (fun zz=>zz≤2∧ ∀(j:Nat) (y:Int),j<zz→[xl,1 -xl][j]? =Option.some y→ ¬0<fy (cv xc) y) (fun zz=>2 -zz) 0 ⟨Nat.zero_le _,fun j y hj=>by first|omega|(simp only[];omega)⟩ (Sub.cons rfl (Sub.cons rfl (Sub.cons rfl (Sub.cons rfl (Sub.cons rfl (Sub.nil _)))))) (fun w hw=>ah.mem hw) ?_
 rintro i ⟨bb,aH⟩
 refine Gc ?_
 refine Gs ?_
 refine Gc ?_
 refine aq rfl (fun h0=> ?_) (fun h0=> ?_)
 ·
  replace h0:=bz h0
  obtain⟨y,hy⟩:=get_some (xs:=[xl,1 -xl]) (i:=i) (by simp only[List.length_cons,List.length_nil]at h0⊢;omega)
  have TB:i=0∨i=1:=by simp only[List.length_cons,List.length_nil]at h0;omega
  have JE:y=0∨y=1:=by
   have:=List.mem_of_getElem? hy
   simp only[List.mem_cons,List.not_mem_nil,or_false]at this
   omega
  refine Gc ?_
  refine ae (aX rfl rfl i rfl (by omega)) ?_
  refine ae (bn (j:=0) rfl i hy rfl (by decide)) ?_
  refine Gs ?_
  refine Gc ?_
  iterate 2 refine Gs ?_
  refine dQ (bX rfl ⟨hk,by omega,by omega⟩) ?_
  refine Gs ?_
  refine Gc ?_
  refine aq rfl (fun h1=> ?_) (fun h1=> ?_)
  ·
   replace h1:=bz h1
   have hE:(bS (cv xc) xl)=(cv xc,y,0):=by
    rcases TB with rfl|rfl
    ·
     obtain rfl:xl=y:=by simpa using hy
     rw[bS,if_pos h1]
    ·
     obtain rfl:1 -xl=y:=by simpa using hy
     rw[bS,if_neg (aH 0 xl (by omega) rfl),if_pos h1]
   refine Gc ?_
   iterate 3 refine Gs ?_
   refine Gc ?_
   refine an (.inl rfl) (aZ rfl (al rfl) (al rfl)) (fun w1 hw=> ?_)
   exact⟨xc,by rw[hE],by rw[hE],ah.mem hw⟩
  ·
   replace h1:=bz h1
   refine Gc ?_
   iterate 2 refine Gs ?_
   refine Gi ?_
   exact bh (x:=(i)) (i+1) ⟨by first|omega|(simp only[];omega),fun j z hj hz=>if e:j=i then(by subst e;rw[hy]at hz;cases hz;exact h1)else aH j z (by first|omega|(simp only[];omega)) hz⟩ (by first|omega|(simp only[];omega)) (Sub.cons rfl (Sub.cons rfl (Sub.cons rfl (Sub.cons rfl (Sub.cons rfl (Sub.nil _)))))) (fun w hw=>ah.mem hw)
 ·
  replace h0:=bz h0
  have TC:i=2:=by simp only[List.length_cons,List.length_nil]at h0 bb;omega
  subst TC
  have qm:=aH 0 xl (by omega) rfl
  have uv:=aH 1 (1 -xl) (by omega) rfl
  refine Gc ?_
  iterate 5 refine Gs ?_
  refine ae (Ry.to (v':=xc.blocks.sv.val) (bl rfl) rfl) ?_
  refine Gs ?_
  refine ae (aX rfl rfl ((1 -xl).toNat) (by omega) (by omega)) ?_
  refine ae (aA rfl rfl) ?_
  refine ae (bn (j:=3) rfl ((1 -xl).toNat) eu rfl (by decide)) ?_
  refine Gc ?_
  refine aq rfl (fun h2=> ?_) (fun h2=> ?_)
  ·
   replace h2:=bz h2
   have hE:(bS (cv xc) xl)=(cv xc,0,9):=by rw[bS,if_neg qm,if_neg uv,v9,if_pos (show(bv Bo).bad=true from h2)]
   refine Gc ?_
   iterate 2 refine Gs ?_
   refine Gc ?_
   refine an (.inl rfl) (aZ rfl (al rfl) (al rfl)) (fun w1 hw=> ?_)
   exact⟨xc,by rw[hE],by rw[hE],ah.mem hw⟩
  ·
   replace h2:=bz h2
   have hE:(bS (cv xc) xl)=(jb (cv xc) (1 -xl),1 -xl,eD (cv xc) (1 -xl)):=by rw[bS,if_neg qm,if_neg uv,v9,if_neg (show ¬(bv Bo).bad=true by rw[show(bv Bo).bad=Bo.bad from rfl,h2];simp)]
   refine Gc ?_
   iterate 3 refine Gs ?_
   refine bp rfl ⟨hk,by omega,by omega⟩ fun TD TE=> ?_
   iterate 2 refine Gs ?_
   refine Gc ?_
   refine an (.inl rfl) (aZ rfl (al rfl) (al rfl)) (fun w1 hw=> ?_)
   exact⟨TD,by rw[hE],by rw[TE,hE],ah.mem hw⟩
instance aej{w0:World}{L R1 L2:List aj}{i0 i1:Nat}{k:Nat}{xc:Cp}{xa:Sl Int}{xg:UInt64}{xl:Int}{xy:Bool}[q0:Has L k (aR (⟨⟨xc,xa,xg,xl⟩,xy⟩:aV)) 141 i0][d0:c8 L i0 R1][q1:At R1 (fz xc) i1][d1:c8 R1 i1 L2]:bW Tryz.prog 154 w0 L [.pointer (some ⟨k,0,none⟩)] (Cp) (fun zz=> .tuple #[.int .i64 ((bS (cv xc) xl).2.1), .int .i64 ((bS (cv xc) xl).2.2)]) (fun zz=>ar k (aR (⟨⟨zz,xa,xg,xl⟩,xy⟩:aV)) 141::fz zz::L2) (fun zz=>cv zz=(bS (cv xc) xl).1) (bg (cv xc)=true∧2≤(cv xc).blocks.length∧(xl=0∨xl=1)):=⟨fun hp w hw=>TA w0 w L2 k xc xa xg xl xy (qZ q0.h d0.h q1.h d1.h hw) hp⟩
theorem Ew{g:UInt64}(h:g.toNat<281474976710656):(g+1).toNat=g.toNat+1:=by
 rw[UInt64.toNat_add,show(1:UInt64).toNat=1 from rfl,Nat.mod_eq_of_lt (by omega)]
theorem J3(g:UInt64)(s:Sv)(xs:List Int)(w:World):(Instr.build 147 #[(0, .int .u64 (g.toNat:Int)),(1,s.val)]).run Tryz.prog w= .ok (.agg (cn ⟨g,⟨s,xs⟩⟩)) w:=by
 obtain⟨e,b,o,l,c,p⟩:=s
 unfold cn
 cases e<;>kernel_rfl
theorem TF(w0 w:World)(L:List aj)(k:Nat)(xc:Cp)(xa:Sl Int)(xg:UInt64)(xl:Int)(xy:Bool)(s:Sv)(ss:List Int)(hw:Mem w0 (ar k (aR (⟨⟨xc,xa,xg,xl⟩,xy⟩:aV)) 141::fz xc::fz xa::own bf 1 s ss::L) w)(ba:dq (⟨⟨cv xc,xa.xs,xg.toNat,xl⟩,xy⟩:WV)):Calls Tryz.prog 128 #[.pointer (some ⟨k,0,none⟩),s.val] w fun e w'=> ∃zz:Cp×Sl Int×UInt64×Int,e= .returned (.int .i64 ((iq (⟨⟨cv xc,xa.xs,xg.toNat,xl⟩,xy⟩:WV) ss).2))∧((⟨⟨cv zz.1,zz.2.1.xs,zz.2.2.1.toNat,zz.2.2.2⟩,xy⟩:WV)=(iq (⟨⟨cv xc,xa.xs,xg.toNat,xl⟩,xy⟩:WV) ss).1)∧Mem w0 (ar k (aR (⟨⟨zz.1,zz.2.1,zz.2.2.1,zz.2.2.2⟩,xy⟩:aV)) 141::fz zz.1::fz zz.2.1::L) w':=by
 have fD:=ba
 have hk:bg (cv xc)=true:=fD.ai
 have xZ:xg.toNat<281474976710656:=fD.gen
 have qn:=Ew xZ
 have wg:4≤(cv xc).blocks.length:=fD.qc
 have AQ:xl=0∨xl=1:=fD.last
 have wh:cM (⟨xg+1,⟨s,ss⟩⟩:cL)=⟨xg.toNat+1,ss⟩:=by simp only[cM,qn]
 refine jH (args:=[_,_]) Tryz.func128 rfl Tryz.ntmps128 rfl hw ?_
 change Cw _ _ _ _ _ [(0, .pointer (some ⟨k,0,none⟩)),(1,s.val)] (ar k (aR (⟨⟨xc,xa,xg,xl⟩,xy⟩:aV)) 141::fz xc::fz xa::own bf 1 s ss::L)
 refine Gc ?_
 refine Gs ?_
 refine Gc ?_
 iterate 4 refine Gs ?_
 refine ae (Ry.to (v':= .int .u64 (xg.toNat:Nat)) (bl rfl) rfl) ?_
 refine ae (Ry.to (v':= .int .u64 ((xg+1).toNat:Int)) (uR (p:=xg.toNat) (q:=1) rfl rfl rfl rfl (by simp only[nb];omega)) (by rw[qn])) ?_
 refine Gs ?_
 refine Gc ?_
 iterate 2 refine Gs ?_
 refine ae (bV (v:= .agg (cn (⟨xg+1,⟨s,ss⟩⟩:cL))) rfl (J3 (xg+1) s ss)) ?_
 iterate 5 refine Gs ?_
 refine ae (Ry.to (v':= .int .i64 xc.size) (bl rfl) rfl) ?_
 refine bp rfl trivial fun jC po=> ?_
 refine Gs ?_
 refine ae (aU (v:=jC.val) rfl rfl) ?_
 refine ae (aU (v:= .int .i64 ((dn (cM (⟨xg+1,⟨s,ss⟩⟩:cL)) xc.size).2)) rfl rfl) ?_
 iterate 2 refine Gs ?_
 refine Gc ?_
 iterate 2 refine Gs ?_
 refine Gc ?_
 refine aq rfl (fun h0=> ?_) (fun h0=> ?_)
 ·
  replace h0:=bz h0
  have hE:(iq (⟨⟨cv xc,xa.xs,xg.toNat,xl⟩,xy⟩:WV) ss)=((⟨⟨cv xc,xa.xs,xg.toNat,xl⟩,xy⟩:WV),(dn (cM (⟨xg+1,⟨s,ss⟩⟩:cL)) xc.size).2):=by rw[iq,if_pos (show(dn ⟨xg.toNat+1,ss⟩ (cv xc).size).2≠0 by rw[←wh];exact h0),wh];rfl
  refine Gc ?_
  iterate 2 refine Gs ?_
  refine Gc ?_
  refine an (.inl rfl) (aK rfl (al rfl)) (fun w1 hw=> ?_)
  exact⟨(xc,xa,xg,xl),by rw[hE],by rw[hE],ah.mem hw⟩
 ·
  replace h0:=bz h0
  refine Gc ?_
  refine bK (X:=Nat×Cp) (fun zz=>[(0, .pointer (some ⟨k,0,none⟩)),(1,s.val),(5, .int .u64 ((xg+1).toNat:Nat)),(6,jC.val)]) (fun zz=>ar k (aR (⟨⟨zz.2,xa,xg,xl⟩,xy⟩:aV)) 141::fz zz.2::fz xa::own bf 1 s ss::own aJ 1 jC (dn (cM (⟨xg+1,⟨s,ss⟩⟩:cL)) xc.size).1::L) (fun zz=>(iq (⟨⟨cv xc,xa.xs,xg.toNat,xl⟩,xy⟩:WV) ss)=ng zz.1 ((⟨⟨cv xc,xa.xs,xg.toNat,xl⟩,xy⟩:WV).on (cv zz.2)) ss (dn (cM (⟨xg+1,⟨s,ss⟩⟩:cL)) xc.size).1∧bg (cv zz.2)=true∧eH (cv xc) (cv zz.2)∧(dJ -(cv zz.2).ops).toNat<zz.1) (fun zz=>zz.1) ((dJ -(cv xc).ops).toNat+1,xc) ⟨by rw[iq,if_neg (show ¬(dn ⟨xg.toNat+1,ss⟩ (cv xc).size).2≠0 by rw[←wh];exact fun h=>h h0),wh];rfl,hk, .fZ _,by simp only;omega⟩ (Sub.cons rfl (Sub.cons rfl (Sub.cons rfl (Sub.cons rfl (Sub.nil _))))) (fun w hw=>ah.mem hw) ?_
  rintro⟨m,d⟩ ⟨bb,aH,bu,cJ⟩
  dsimp only
  simp only at bb aH bu cJ
  obtain⟨n,rfl⟩: ∃n,m=n+1:=⟨m -1,by omega⟩
  refine Gc ?_
  refine Gs ?_
  refine bp rfl ⟨aH,by rw[bu.len];omega,AQ⟩ fun mo Ey=> ?_
  obtain⟨r1,r2,r3,r4⟩:=Is (c:=cv d) (last:=xl) aH AQ
  rw[←Ey]at r1 r2 r3 r4
  have r7:=bu.trans r2
  have sD:=r7.len
  have Tx:=bu.len
  have JZ:=si r1
  refine Gs ?_
  refine ae (aU (v:= .int .i64 ((bS (cv d) xl).2.1)) rfl rfl) ?_
  refine ae (aU (v:= .int .i64 ((bS (cv d) xl).2.2)) rfl rfl) ?_
  iterate 2 refine Gs ?_
  refine Gc ?_
  iterate 2 refine Gs ?_
  refine Gc ?_
  refine aq rfl (fun h1=> ?_) (fun h1=> ?_)
  ·
   replace h1:=bz h1
   have hE:(iq (⟨⟨cv xc,xa.xs,xg.toNat,xl⟩,xy⟩:WV) ss)=((⟨⟨cv xc,xa.xs,xg.toNat,xl⟩,xy⟩:WV).on (cv mo),(bS (cv d) xl).2.2):=by
    rw[bb,ng]
    refine(if_pos h1).trans ?_
    rw[Ey];rfl
   refine Gc ?_
   iterate 2 refine Gs ?_
   refine Gc ?_
   refine an (.inl rfl) (aK rfl (al rfl)) (fun w1 hw=> ?_)
   exact⟨(mo,xa,xg,xl),by rw[hE],by rw[hE];rfl,ah.mem hw⟩
  ·
   replace h1:=bz h1
   have dz:(bS (cv d) xl).2.2=0:=h1
   obtain⟨r5,r6⟩:=r4 dz
   have bH:(iq (⟨⟨cv xc,xa.xs,xg.toNat,xl⟩,xy⟩:WV) ss)=(if(cq (cv mo) (bS (cv d) xl).2.1 (dn (cM (⟨xg+1,⟨s,ss⟩⟩:cL)) xc.size).1)=0 then((⟨⟨(dh (cv mo) (bS (cv d) xl).2.1 (dn (cM (⟨xg+1,⟨s,ss⟩⟩:cL)) xc.size).1),ss,xg.toNat+1,if l6 (dh (cv mo) (bS (cv d) xl).2.1 (dn (cM (⟨xg+1,⟨s,ss⟩⟩:cL)) xc.size).1) 1=xg.toNat+1 then 1 else(bS (cv d) xl).2.1⟩,xy⟩:WV),(0:Int))else if(cq (cv mo) (bS (cv d) xl).2.1 (dn (cM (⟨xg+1,⟨s,ss⟩⟩:cL)) xc.size).1)≠9 then((⟨⟨cv xc,xa.xs,xg.toNat,xl⟩,xy⟩:WV).on (dh (cv mo) (bS (cv d) xl).2.1 (dn (cM (⟨xg+1,⟨s,ss⟩⟩:cL)) xc.size).1),(cq (cv mo) (bS (cv d) xl).2.1 (dn (cM (⟨xg+1,⟨s,ss⟩⟩:cL)) xc.size).1))else ng n ((⟨⟨cv xc,xa.xs,xg.toNat,xl⟩,xy⟩:WV).on (dh (cv mo) (bS (cv d) xl).2.1 (dn (cM (⟨xg+1,⟨s,ss⟩⟩:cL)) xc.size).1)) ss (dn (cM (⟨xg+1,⟨s,ss⟩⟩:cL)) xc.size).1):=by
    rw[bb,ng]
    refine(if_neg (fun h=>h dz)).trans ?_
    rw[Ey];rfl
   refine Gc ?_
   iterate 3 refine Gs ?_
   refine bp rfl ⟨r1,by omega,by omega⟩ fun iN om=> ?_
   refine Gs ?_
   refine Gc ?_
   iterate 2 refine Gs ?_
   refine Gc ?_
   refine aq rfl (fun h2=> ?_) (fun h2=> ?_)
   ·
    replace h2:=bz h2
    have ez:(cq (cv mo) (bS (cv d) xl).2.1 (dn (cM (⟨xg+1,⟨s,ss⟩⟩:cL)) xc.size).1)=0:=h2
    rw[if_pos ez]at bH
    refine Gc ?_
    refine Gs ?_
    refine dQ (bX rfl ⟨by rw[om];exact lg r1 _ _,by omega,by rw[om,(l5 _ _ _).len];omega⟩) ?_
    iterate 2 refine Gs ?_
    refine Gc ?_
    refine aq rfl (fun h3=> ?_) (fun h3=> ?_)
    ·
     replace h3:=bz h3
     have hE:=bH
     rw[if_pos (show l6 (dh (cv mo) (bS (cv d) xl).2.1 (dn (cM (⟨xg+1,⟨s,ss⟩⟩:cL)) xc.size).1) 1=xg.toNat+1 by rw[←om];omega)]at hE
     refine Gi ?_
     refine Gs ?_
     refine Gc ?_
     iterate 9 refine Gs ?_
     refine dM (cs':=aR (⟨⟨iN,⟨s,ss⟩,xg,xl⟩,xy⟩:aV)) rfl rfl (by show 6<10;decide) (by first|rfl|exact Sv.one _) rfl ?_
     iterate 3 refine Gs ?_
     refine dM (cs':=aR (⟨⟨iN,⟨s,ss⟩,(xg+1),xl⟩,xy⟩:aV)) rfl rfl (by show 7<10;decide) (by first|rfl|exact Sv.one _) rfl ?_
     iterate 3 refine Gs ?_
     refine dM (cs':=aR (⟨⟨iN,⟨s,ss⟩,(xg+1),1⟩,xy⟩:aV)) rfl rfl (by show 8<10;decide) (by first|rfl|exact Sv.one _) rfl ?_
     refine Gc ?_
     refine Gs ?_
     refine Gc ?_
     refine an (.inl rfl) (aK rfl (al rfl)) (fun w1 hw=> ?_)
     exact⟨(iN,⟨s,ss⟩,xg+1,1),by rw[hE],by rw[hE,om,qn],ah.mem (tN (a:=⟨s,ss⟩) (ah.mem hw:Mem w0 (own bf 1 s ss::ar k (aR (⟨⟨iN,⟨s,ss⟩,xg+1,1⟩,xy⟩:aV)) 141::fz iN::L) _))⟩
    ·
     replace h3:=bz h3
     have hE:=bH
     rw[if_neg (show ¬l6 (dh (cv mo) (bS (cv d) xl).2.1 (dn (cM (⟨xg+1,⟨s,ss⟩⟩:cL)) xc.size).1) 1=xg.toNat+1 by rw[←om];omega)]at hE
     refine Gc ?_
     iterate 9 refine Gs ?_
     refine dM (cs':=aR (⟨⟨iN,⟨s,ss⟩,xg,xl⟩,xy⟩:aV)) rfl rfl (by show 6<10;decide) (by first|rfl|exact Sv.one _) rfl ?_
     iterate 3 refine Gs ?_
     refine dM (cs':=aR (⟨⟨iN,⟨s,ss⟩,(xg+1),xl⟩,xy⟩:aV)) rfl rfl (by show 7<10;decide) (by first|rfl|exact Sv.one _) rfl ?_
     iterate 3 refine Gs ?_
     refine dM (cs':=aR (⟨⟨iN,⟨s,ss⟩,(xg+1),(bS (cv d) xl).2.1⟩,xy⟩:aV)) rfl rfl (by show 8<10;decide) (by first|rfl|exact Sv.one _) rfl ?_
     refine Gc ?_
     refine Gs ?_
     refine Gc ?_
     refine an (.inl rfl) (aK rfl (al rfl)) (fun w1 hw=> ?_)
     exact⟨(iN,⟨s,ss⟩,xg+1,(bS (cv d) xl).2.1),by rw[hE],by rw[hE,om,qn],ah.mem (tN (a:=⟨s,ss⟩) (ah.mem hw:Mem w0 (own bf 1 s ss::ar k (aR (⟨⟨iN,⟨s,ss⟩,xg+1,(bS (cv d) xl).2.1⟩,xy⟩:aV)) 141::fz iN::L) _))⟩
   ·
    replace h2:=bz h2
    have ez: ¬(cq (cv mo) (bS (cv d) xl).2.1 (dn (cM (⟨xg+1,⟨s,ss⟩⟩:cL)) xc.size).1)=0:=h2
    refine Gc ?_
    iterate 2 refine Gs ?_
    refine Gc ?_
    refine aq rfl (fun h4=> ?_) (fun h4=> ?_)
    ·
     replace h4:=bz h4
     have hE:=bH
     rw[if_neg ez,if_pos (show(cq (cv mo) (bS (cv d) xl).2.1 (dn (cM (⟨xg+1,⟨s,ss⟩⟩:cL)) xc.size).1)≠9 from h4)]at hE
     refine Gc ?_
     iterate 2 refine Gs ?_
     refine Gc ?_
     refine an (.inl rfl) (aK rfl (al rfl)) (fun w1 hw=> ?_)
     exact⟨(iN,xa,xg,xl),by rw[hE],by rw[hE,om];rfl,ah.mem hw⟩
    ·
     replace h4:=bz h4
     iterate 2 refine Gi ?_
     have iB:(cq (cv mo) (bS (cv d) xl).2.1 (dn (cM (⟨xg+1,⟨s,ss⟩⟩:cL)) xc.size).1)=9:=h4
     have rh:=sg r6 (p:=(dn (cM (⟨xg+1,⟨s,ss⟩⟩:cL)) xc.size).1) (.inl iB)
     have Ev:=si (lg r1 (bS (cv d) xl).2.1 (dn (cM (⟨xg+1,⟨s,ss⟩⟩:cL)) xc.size).1)
     rw[rh]at Ev
     exact bh (x:=(n+1,d)) (n,iN) ⟨by rw[bH,if_neg ez,if_neg (fun h=>h iB),om],by rw[om];exact lg r1 _ _,by rw[om];exact r7.trans (l5 _ _ _),by rw[om,rh];omega⟩ (by simp only;omega) (Sub.cons rfl (Sub.cons rfl (Sub.cons rfl (Sub.cons rfl (Sub.nil _))))) (fun w hw=>ah.mem hw)
instance aek{w0:World}{L R1 R2 R3 L2:List aj}{i0 i1 i2 i3:Nat}{k:Nat}{xc:Cp}{xa:Sl Int}{xg:UInt64}{xl:Int}{xy:Bool}{s:Sv}{ss:List Int}[q0:Has L k (aR (⟨⟨xc,xa,xg,xl⟩,xy⟩:aV)) 141 i0][d0:c8 L i0 R1][q1:At R1 (fz xc) i1][d1:c8 R1 i1 R2][q2:At R2 (fz xa) i2][d2:c8 R2 i2 R3][q3:eT R3 s bf 1 ss i3][d3:c8 R3 i3 L2]:bW Tryz.prog 128 w0 L [.pointer (some ⟨k,0,none⟩),s.val] (Cp×Sl Int×UInt64×Int) (fun zz=> .int .i64 ((iq (⟨⟨cv xc,xa.xs,xg.toNat,xl⟩,xy⟩:WV) ss).2)) (fun zz=>ar k (aR (⟨⟨zz.1,zz.2.1,zz.2.2.1,zz.2.2.2⟩,xy⟩:aV)) 141::fz zz.1::fz zz.2.1::L2) (fun zz=>(⟨⟨cv zz.1,zz.2.1.xs,zz.2.2.1.toNat,zz.2.2.2⟩,xy⟩:WV)=(iq (⟨⟨cv xc,xa.xs,xg.toNat,xl⟩,xy⟩:WV) ss).1) (dq (⟨⟨cv xc,xa.xs,xg.toNat,xl⟩,xy⟩:WV)):=⟨fun hp w hw=>TF w0 w L2 k xc xa xg xl xy s ss (Sd q0.h d0.h q1.h d1.h q2.h d2.h q3.h d3.h hw) hp⟩
open Go.aL Go.Kb
open Go.RowKit
theorem TG(i:Int)(g:UInt64)(s:Sv)(xs:List UInt8)(w:World):(Instr.build 110 #[(0, .int .i64 1),(1, .int .i64 i),(2, .int .u64 (g.toNat:Int)),(3,s.val)]).run Tryz.prog w= .ok (.agg (bZ ⟨1,i,g,⟨s,xs⟩⟩)) w:=by
 obtain⟨e,b,o,l,c,p⟩:=s
 unfold bZ
 cases e<;>kernel_rfl
theorem TH(w0 w:World)(L:List aj)(k:Nat)(xc:Cp)(xa:Sl Int)(xg:UInt64)(xl:Int)(xy:Bool)(f:Int)(t:Int)(hw:Mem w0 (ar k (aR (⟨⟨xc,xa,xg,xl⟩,xy⟩:aV)) 141::fz xc::fz xa::L) w)(ba:dq (⟨⟨cv xc,xa.xs,xg.toNat,xl⟩,xy⟩:WV)∧2≤f∧f<(cv xc).blocks.length∧(0≤t→2≤t∧t<(cv xc).blocks.length)):Calls Tryz.prog 183 #[.pointer (some ⟨k,0,none⟩), .int .i64 f, .int .i64 t] w fun e w'=> ∃zz:Cp×Sl Int×UInt64×Int,e= .returned (.tuple #[.bool ((dv (⟨⟨cv xc,xa.xs,xg.toNat,xl⟩,xy⟩:WV) f t).2.1), .int .i64 ((dv (⟨⟨cv xc,xa.xs,xg.toNat,xl⟩,xy⟩:WV) f t).2.2)])∧((⟨⟨cv zz.1,zz.2.1.xs,zz.2.2.1.toNat,zz.2.2.2⟩,xy⟩:WV)=(dv (⟨⟨cv xc,xa.xs,xg.toNat,xl⟩,xy⟩:WV) f t).1)∧Mem w0 (ar k (aR (⟨⟨zz.1,zz.2.1,zz.2.2.1,zz.2.2.2⟩,xy⟩:aV)) 141::fz zz.1::fz zz.2.1::L) w':=by
 obtain⟨fD,kW,vc,AJ⟩:=ba
 have hk:bg (cv xc)=true:=fD.ai
 have wg:4≤(cv xc).blocks.length:=fD.qc
 have hd:=kL hk
 have xZ:xg.toNat<281474976710656:=fD.gen
 have qn:=Ew xZ
 have gZ:xa.xs.length≤64:=fD.qb
 have uA:gK (cv xc) xa.xs:=fD.qS
 have J4:1≤xc.ag∧xc.ag≤16:=⟨hd.2.2.1,hd.2.2.2.1⟩
 refine jH (args:=[_,_,_]) Tryz.func183 rfl Tryz.ntmps183 rfl hw ?_
 change Cw _ _ _ _ _ [(0, .pointer (some ⟨k,0,none⟩)),(1, .int .i64 f),(2, .int .i64 t)] (ar k (aR (⟨⟨xc,xa,xg,xl⟩,xy⟩:aV)) 141::fz xc::fz xa::L)
 refine Gc ?_
 iterate 2 refine Gs ?_
 refine Gc ?_
 iterate 5 refine Gs ?_
 refine ae (Ry.to (v':= .int .i64 xc.ag) (bl rfl) rfl) ?_
 refine Gs ?_
 refine Gc ?_
 iterate 4 refine Gs ?_
 refine ae (Ry.to (v':=xa.sv.val) (bl rfl) rfl) ?_
 refine bp rfl (by omega) fun aC rf=> ?_
 refine Gs ?_
 refine Gc ?_
 iterate 4 refine Gs ?_
 refine ae (Ry.to (v':=xa.sv.val) (bl rfl) rfl) ?_
 iterate 2 refine Gs ?_
 refine Gc ?_
 refine bK (X:=Nat×Cp×List Int) (fun zz=>[(39, .int .i64 (zz.1:Nat)),(0, .pointer (some ⟨k,0,none⟩)),(9,aC.val),(1, .int .i64 f),(2, .int .i64 t),(8, .int .i64 xc.ag),(37,xa.sv.val),(38, .int .i64 (xa.xs.length:Nat))]) (fun zz=>ar k (aR (⟨⟨zz.2.1,xa,xg,xl⟩,xy⟩:aV)) 141::fz zz.2.1::fz xa::own bf 1 aC zz.2.2::L) (fun zz=>zz.1≤xa.xs.length∧(ei (⟨cv xc,xa.xs,xg.toNat,xl⟩:VV) f t xa.xs 0 (cv xc) xa.xs)=(ei (⟨cv xc,xa.xs,xg.toNat,xl⟩:VV) f t (xa.xs.drop zz.1) zz.1 (cv zz.2.1) zz.2.2)∧bg (cv zz.2.1)=true∧eH (cv xc) (cv zz.2.1)∧zz.2.2.length=xa.xs.length∧gK (cv xc) zz.2.2) (fun zz=>xa.xs.length -zz.1) (0,xc,xa.xs) ⟨Nat.zero_le _,rfl,hk, .fZ _,rfl,uA⟩ (Sub.cons rfl (Sub.cons rfl (Sub.cons rfl (Sub.cons rfl (Sub.cons rfl (Sub.cons rfl (Sub.cons rfl (Sub.cons rfl (Sub.nil _))))))))) (fun w hw=>ah.mem hw) ?_
 rintro⟨i,d,zs⟩ ⟨bb,aH,bu,cJ,ya,AR⟩
 dsimp only
 simp only at bb aH bu cJ ya AR
 have AS:=cJ.len
 have yb:d.ag=xc.ag:=cJ.ag
 have fJ:(cv d).blocks.length=d.blocks.xs.length:=dH _
 refine Gc ?_
 refine Gs ?_
 refine Gc ?_
 refine aq rfl (fun h0=> ?_) (fun h0=> ?_)
 ·
  replace h0:=bz h0
  obtain⟨n,sK⟩:=get_some (xs:=xa.xs) (i:=i) (by omega)
  obtain⟨zi,sG⟩:=get_some (xs:=zs) (i:=i) (by omega)
  have Ez:=uA n (List.mem_of_getElem? sK)
  have hnn:0≤n:=by rcases Ez with h|h<;>omega
  have hnp:n≤512:=by
   rcases Ez with h|h
   ·
    omega
   ·
    exact Ib J4.1 J4.2 hd.2.1 h.2.2
  have bH:(ei (⟨cv xc,xa.xs,xg.toNat,xl⟩:VV) f t (xa.xs.drop i) i (cv d) zs)=(if n=0∨(n -1)/xc.ag≠f then(ei (⟨cv xc,xa.xs,xg.toNat,xl⟩:VV) f t (xa.xs.drop (i+1)) (i+1) (cv d) zs)else if(cC (cv d) xa.xs zs f t).2=false then(⟨cv d,zs,some 6⟩:MV)else if(fM (cv d) ((xg.toNat:Int)+1) i n).2≠0 then⟨cv d,zs,some (fM (cv d) ((xg.toNat:Int)+1) i n).2⟩else if(cq (cv d) (cC (cv d) xa.xs zs f t).1 (fM (cv d) ((xg.toNat:Int)+1) i n).1)≠0 then⟨(dh (cv d) (cC (cv d) xa.xs zs f t).1 (fM (cv d) ((xg.toNat:Int)+1) i n).1),zs,some (kp (cq (cv d) (cC (cv d) xa.xs zs f t).1 (fM (cv d) ((xg.toNat:Int)+1) i n).1))⟩else(ei (⟨cv xc,xa.xs,xg.toNat,xl⟩:VV) f t (xa.xs.drop (i+1)) (i+1) (dh (cv d) (cC (cv d) xa.xs zs f t).1 (fM (cv d) ((xg.toNat:Int)+1) i n).1) (zs.set i ((cC (cv d) xa.xs zs f t).1*xc.ag+(aO (cv d) (cC (cv d) xa.xs zs f t).1).used+1)))):=by
   rw[vE sK,ei];rfl
  refine Gc ?_
  refine Gs ?_
  refine ae (aX rfl rfl i rfl (by omega)) ?_
  refine ae (bn (j:=0) rfl i sK rfl (by decide)) ?_
  iterate 2 refine Gs ?_
  refine Gc ?_
  iterate 3 refine Gs ?_
  refine Gg ?_
  refine bD rfl rfl rfl (fun hg=>(Ry.yl (qx (av hg rfl) rfl (by simp only[Z0,Z1,Z2,Z3,Z4,Z5,Z6,Z7,Z8,Z9]at hg;omega)))) ?_
  refine Gg ?_
  refine bD rfl rfl rfl (fun hg=>(Ry.yl (gV (av hg rfl) (av hg rfl) (by simp only[Z0,Z1,Z2,Z3,Z4,Z5,Z6,Z7,Z8,Z9]at hg;omega) (by simp only[Z0,Z1,Z2,Z3,Z4,Z5,Z6,Z7,Z8,Z9]at hg;omega)))) ?_
  iterate 2 refine Gg ?_
  refine Gs ?_
  refine Gc ?_
  refine aq rfl (fun h1=> ?_) (fun h1=> ?_)
  ·
   replace h1:=bz h1
   refine Gc ?_
   iterate 2 refine Gs ?_
   refine Gi ?_
   exact bh (x:=(i,d,zs)) (i+1,d,zs) ⟨by simp only;omega,by rw[aH,bH,if_pos h1],bu,cJ,ya,AR⟩ (by simp only;omega) (Sub.cons rfl (Sub.cons rfl (Sub.cons rfl (Sub.cons rfl (Sub.cons rfl (Sub.cons rfl (Sub.cons rfl (Sub.cons rfl (Sub.nil _))))))))) (fun w hw=>ah.mem hw)
  ·
   replace h1:=bz h1
   have dz: ¬(n=0∨(n -1)/xc.ag≠f):=fun g=>g.elim h1.1 (fun g=>g h1.2)
   have AT:1≤n∧n≤1000000∧2≤(n -1)/d.ag∧(n -1)/d.ag<((cv d).blocks.length:Int):=by
    rw[yb,AS]
    rcases Ez with h|h
    ·
     exact absurd (.inl h) dz
    ·
     exact⟨h.1,by omega,h.2.1,h.2.2⟩
   refine Gc ?_
   iterate 2 refine Gs ?_
   iterate 2 refine Gi ?_
   refine wK (X:=Unit) (fun zz=>[(12, .int .i64 ((cC (cv d) xa.xs zs f t).1)),(0, .pointer (some ⟨k,0,none⟩)),(1, .int .i64 f),(2, .int .i64 t),(8, .int .i64 xc.ag),(9,aC.val),(10, .int .i64 (i:Nat)),(37,xa.sv.val),(38, .int .i64 (xa.xs.length:Nat)),(39, .int .i64 (i:Nat))]) (fun zz=>ar k (aR (⟨⟨d,xa,xg,xl⟩,xy⟩:aV)) 141::fz d::fz xa::own bf 1 aC zs::L) (fun zz=>(cC (cv d) xa.xs zs f t).2=true∧2≤(cC (cv d) xa.xs zs f t).1∧(cC (cv d) xa.xs zs f t).1<(cv d).blocks.length) ?_ ?_
   ·
    refine Gc ?_
    iterate 2 refine Gs ?_
    refine Gc ?_
    refine aq rfl (fun h2=> ?_) (fun h2=> ?_)
    ·
     replace h2:=bz h2
     refine Gi ?_
     have dC:az [xa,(⟨aC,zs⟩:Sl Int)]=xa.xs++zs:=Er _ _
     have AO:=oZ (cv d) (az [xa,(⟨aC,zs⟩:Sl Int)])
     obtain⟨q,hq⟩:=get_some (xs:=(aY (cv d) (az [xa,(⟨aC,zs⟩:Sl Int)]))) (i:=(f -2).toNat) (by rw[oZ];omega)
     have oc:oX (cv d) (az [xa,(⟨aC,zs⟩:Sl Int)]):=by
      rw[Er]
      exact((uA.jt cJ).append (AR.jt cJ)).kn bu (by omega) (by rw[List.length_append];omega)
     refine Gi ?_
     iterate 5 refine Gs ?_
     refine ae (Ry.to (v':=xa.sv.val) (bl rfl) rfl) ?_
     refine Gs ?_
     refine mz (enc:=bP) (vals:=[xa.sv.val,aC.val]) [xa,(⟨aC,zs⟩:Sl Int)] rfl (by simp only[List.map_cons,List.map_nil,Sv.hQ];rfl) rfl (by decide) (by decide) fun TI=> ?_
     refine bp (hc:=Ep (l:=(⟨⟨false,TI,0,2,2,none⟩,[xa,⟨aC,zs⟩]⟩:Sl (Sl Int)))) rfl oc fun TJ ael=> ?_
     refine Gs ?_
     refine Gc ?_
     iterate 3 refine Gs ?_
     refine ae (bV (v:= .agg (bC cd)) rfl AN) ?_
     refine ae (aX rfl rfl ((f -2).toNat) (by omega) (show(f -2).toNat<(aY (cv d) (az [xa,(⟨aC,zs⟩:Sl Int)])).length by omega)) ?_
     refine jU (s:=TJ) (n:=4) (k:=(f -2).toNat) (j:=0) (a:=q) (a':=cd) (xs:=(aY (cv d) (az [xa,(⟨aC,zs⟩:Sl Int)]))) (enc:=bC) (c:=4) (v:= .agg (bC cd)) (by kernel_rfl) rfl rfl rfl hq (bF.one (enc:=bC) (c:=4) _) rfl (by decide) (by rfl) ?_
     refine Gc ?_
     iterate 4 refine Gs ?_
     refine ae (aU (v:= .int .i64 ((fb ((aY (cv d) (az [xa,(⟨aC,zs⟩:Sl Int)])).set (f -2).toNat cd) xc.ag).1)) rfl rfl) ?_
     refine ae (aU (v:= .bool ((fb ((aY (cv d) (az [xa,(⟨aC,zs⟩:Sl Int)])).set (f -2).toNat cd) xc.ag).2)) rfl rfl) ?_
     iterate 2 refine Gs ?_
     refine Gc ?_
     iterate 2 refine Gs ?_
     refine Gc ?_
     refine aq rfl (fun h3=> ?_) (fun h3=> ?_)
     ·
      replace h3:=bz h3
      have pj:(cC (cv d) xa.xs zs f t).2=false:=by rw[cC,if_pos h2,←dC,if_neg];rw[show(cv d).ag=xc.ag from yb,h3];simp
      have hE:=Dn (x:=(⟨⟨cv xc,xa.xs,xg.toNat,xl⟩,xy⟩:WV)) (src:=f) (to:=t) (show ei _ _ _ _ _ _ _=_ from(aH.trans (bH.trans ((if_neg dz).trans (if_pos pj)))))
      refine Gc ?_
      iterate 2 refine Gs ?_
      refine Gc ?_
      refine an (.inl rfl) (aZ rfl (al rfl) (al rfl)) (fun w1 hw=> ?_)
      exact⟨(d,xa,xg,xl),by rw[hE],by rw[hE];rfl,ah.mem hw⟩
     ·
      replace h3:=bz h3
      have q8:=z3 (show(fL _ _ _ _).2=true from h3)
      have AU:(cC (cv d) xa.xs zs f t)=((fb ((aY (cv d) (az [xa,(⟨aC,zs⟩:Sl Int)])).set (f -2).toNat cd) xc.ag).1+2,true):=by rw[cC,if_pos h2,←dC,show(cv d).ag=xc.ag from yb,if_pos h3]
      have aem:0≤(fb ((aY (cv d) (az [xa,(⟨aC,zs⟩:Sl Int)])).set (f -2).toNat cd) xc.ag).1:=q8.2.1
      have TK:(fb ((aY (cv d) (az [xa,(⟨aC,zs⟩:Sl Int)])).set (f -2).toNat cd) xc.ag).1<(((aY (cv d) (az [xa,(⟨aC,zs⟩:Sl Int)])).set (f -2).toNat cd).length:Int):=q8.2.2.1
      rw[List.length_set,oZ]at TK
      refine Gc ?_
      iterate 3 refine Gs ?_
      refine Gi ?_
      exact pD () ⟨by rw[AU],by rw[AU];simp only;omega,by rw[AU];simp only;omega⟩ (Sub.cons (look_eq rfl (by rw[AU])) (Sub.cons rfl (Sub.cons rfl (Sub.cons rfl (Sub.cons rfl (Sub.cons rfl (Sub.cons rfl (Sub.cons rfl (Sub.cons rfl (Sub.cons rfl (Sub.nil _))))))))))) (fun w hw=>ah.mem hw)
    ·
     replace h2:=bz h2
     refine Gi ?_
     exact pD () ⟨by rw[cC,if_neg h2],by rw[cC,if_neg h2];exact(AJ (by first|omega|(simp only[];omega))).1,by rw[cC,if_neg h2,AS];exact(AJ (by first|omega|(simp only[];omega))).2⟩ (Sub.cons (look_eq rfl (by rw[cC,if_neg h2])) (Sub.cons rfl (Sub.cons rfl (Sub.cons rfl (Sub.cons rfl (Sub.cons rfl (Sub.cons rfl (Sub.cons rfl (Sub.cons rfl (Sub.cons rfl (Sub.nil _))))))))))) (fun w hw=>ah.mem hw)
   ·
    rintro⟨⟩ ⟨ri,wi,EA⟩
    obtain⟨B,hB⟩:=get_some (xs:=d.blocks.xs) (i:=(cC (cv d) xa.xs zs f t).1.toNat) (by omega)
    have pg:Mb B d.blocks:=⟨List.mem_of_getElem? hB⟩
    have dx:=na hB
    have nv:(aO (cv d) (cC (cv d) xa.xs zs f t).1).used=B.used:=by rw[dx];rfl
    have eu:=eM.1 (xE bu (b:=(cC (cv d) xa.xs zs f t).1) (by omega) (by omega))
    rw[nv,show(cv d).ag=xc.ag from yb]at eu
    have mL:0≤(cC (cv d) xa.xs zs f t).1*xc.ag:=Int.mul_nonneg (by omega) (by omega)
    have sL:(cC (cv d) xa.xs zs f t).1*xc.ag≤32*16:=Int.mul_le_mul (by omega) (by omega) (by omega) (by omega)
    refine Gi ?_
    refine oN [12,14,15,2014,4012] [[],[],[],[],[],[],[],[],[],[],[],[],[],[12],[],[12,14]] [0,1,2,3,4,5,6,7,8,9,10,11,12,13,14,15] [ar k (aR (⟨⟨d,xa,xg,xl⟩,xy⟩:aV)) 141,fz d,fz xa] [(14,kF Tryz.prog 110)] (by kernel_rfl) (fun _ hw=>ah.mem hw) (by kernel_rfl) (by kernel_rfl) ?_
    refine ak rfl (au rfl) ?_
    refine ak rfl (au rfl) ?_
    refine ak rfl (iV rfl) ?_
    refine ak rfl (aA (o':=0) rfl rfl) ?_
    refine ak rfl (aA (o':=7) rfl rfl) ?_
    refine ak rfl (Ry.to (v':= .int .u64 (xg.toNat:Nat)) (bl rfl) rfl) ?_
    refine ak rfl (Ry.to (v':= .int .u64 ((xg+1).toNat:Int)) (uR (p:=xg.toNat) (q:=1) rfl rfl rfl rfl (by simp only[nb];omega)) (by rw[qn])) ?_
    refine ak rfl (au rfl) ?_
    refine ak rfl (iV rfl) ?_
    refine ak rfl (aA (o':=0) rfl rfl) ?_
    refine ak rfl (Ry.to (v':= .agg (bo (⟨d,xa,xg,xl⟩:bI))) (eE rfl) rfl) ?_
    refine ak rfl (au rfl) ?_
    refine rS (hc:=JR (v:=(⟨d,xa,xg,xl⟩:bI)) (id:=((i:Nat):Int))) (Cv:=fun e_=>JR (v:=(⟨d,xa,xg,xl⟩:bI)) (id:=((i:Nat):Int))) rfl rfl ⟨bu,n,by rw[Int.toNat_natCast];exact sK,by omega,AT.1,AT.2.1,AT.2.2.1,AT.2.2.2⟩ (fun e x w hw=>ah.mem hw) (Cert.one (i:=14) rfl rfl rfl jZ (Cert.none rfl)) fun yc aen=>⟨fun _ hw=>ah.mem hw,?_⟩
    refine ak rfl (bV (v:= .agg (bZ (⟨1,((i:Nat):Int),xg+1,⟨yc,(jI (cv d) (xa.xs.getD ((i:Nat):Int).toNat 0))⟩⟩:dk))) rfl (TG ((i:Nat):Int) (xg+1) yc _)) ?_
    refine mZ (m:=kF Tryz.prog 110) rfl rfl jZ (Cert.none rfl) fun yd=> ?_
    change Ln _ _ _ _ _ _ _ _ (cm _ _ (.pointer (some ⟨yd,0,none⟩))) (ar yd (bZ gF) 110::_) _
    refine cK rfl (km rfl rfl ⟨fun _ hw=>ah.mem hw,?_⟩)
    iterate 3 refine Gi ?_
    have kt:(dZ (cA (⟨1,((i:Nat):Int),xg+1,⟨yc,(jI (cv d) (xa.xs.getD ((i:Nat):Int).toNat 0))⟩⟩:dk)) d.size)=(fM (cv d) ((xg.toNat:Int)+1) i n):=by
     have e1:xa.xs.getD ((i:Nat):Int).toNat 0=n:=by rw[Int.toNat_natCast];exact oW sK
     rw[fM,e1]
     simp only[cA,qn]
     congr 2
    refine fw [7] [[],[],[],[],[],[],[],[],[7],[7],[7],[7],[7]] [0,1,2,3,4,5,6,7,8,9,10,11,12] [ar k (aR (⟨⟨d,xa,xg,xl⟩,xy⟩:aV)) 141,fz d,ar yd (bZ (⟨1,((i:Nat):Int),xg+1,⟨yc,(jI (cv d) (xa.xs.getD ((i:Nat):Int).toNat 0))⟩⟩:dk)) 110] (fun _ hw=>ah.mem hw) (by kernel_rfl) (by kernel_rfl) ?_
    refine ak rfl (dW rfl) ?_
    refine ak rfl (au rfl) ?_
    refine ak rfl (iV rfl) ?_
    refine ak rfl (aA (o':=0) rfl rfl) ?_
    refine ak rfl (aA (o':=0) rfl rfl) ?_
    refine ak rfl (aA (o':=1) rfl rfl) ?_
    refine ak rfl (Ry.to (v':= .int .i64 d.size) (bl rfl) rfl) ?_
    refine cK rfl (lT rfl trivial fun TL aeo=>⟨fun _ hw=>ah.mem hw,?_⟩)
    refine ak rfl (au rfl) ?_
    refine ak rfl (aU (v:=TL.val) rfl rfl) ?_
    refine ak rfl (aU (v:= .int .i64 ((dZ (cA (⟨1,((i:Nat):Int),xg+1,⟨yc,(jI (cv d) (xa.xs.getD ((i:Nat):Int).toNat 0))⟩⟩:dk)) d.size).2)) rfl rfl) ?_
    refine ak rfl (aP rfl) ?_
    refine ak rfl (aP rfl) ?_
    refine Gc ?_
    iterate 2 refine Gs ?_
    refine Gc ?_
    refine aq rfl (fun h4=> ?_) (fun h4=> ?_)
    ·
     replace h4:=bz h4
     have iB:(fM (cv d) ((xg.toNat:Int)+1) i n).2≠0:=by rw[←kt];exact h4
     have hE:=Dn (x:=(⟨⟨cv xc,xa.xs,xg.toNat,xl⟩,xy⟩:WV)) (src:=f) (to:=t) (show ei _ _ _ _ _ _ _=_ from(aH.trans (bH.trans ((if_neg dz).trans ((if_neg (by rw[ri];simp)).trans (if_pos iB))))))
     refine Gc ?_
     iterate 3 refine Gs ?_
     refine Gc ?_
     refine an (.inl rfl) (aZ rfl (al rfl) (al rfl)) (fun w1 hw=> ?_)
     exact⟨(d,xa,xg,xl),by rw[hE,kt],by rw[hE];rfl,ah.mem hw⟩
    ·
     replace h4:=bz h4
     have iB:(fM (cv d) ((xg.toNat:Int)+1) i n).2=0:=by rw[←kt];exact h4
     refine Gc ?_
     iterate 5 refine Gs ?_
     refine ae (Ry.to (v':=d.blocks.sv.val) (bl rfl) rfl) ?_
     refine Gs ?_
     refine ae (aX rfl rfl ((cC (cv d) xa.xs zs f t).1.toNat) (by omega) (by omega)) ?_
     refine ae (aA rfl rfl) ?_
     refine ae (bn (j:=1) rfl ((cC (cv d) xa.xs zs f t).1.toNat) hB rfl (by decide)) ?_
     refine Gs ?_
     refine Gc ?_
     iterate 3 refine Gs ?_
     refine bp rfl ⟨bu,by omega,by omega⟩ fun J5 ye=> ?_
     rw[kt]at ye
     refine Gs ?_
     refine Gc ?_
     iterate 2 refine Gs ?_
     refine Gc ?_
     refine aq rfl (fun h5=> ?_) (fun h5=> ?_)
     ·
      replace h5:=bz h5
      have mq:(cq (cv d) (cC (cv d) xa.xs zs f t).1 (fM (cv d) ((xg.toNat:Int)+1) i n).1)≠0:=by rw[←kt];exact h5
      have hE:=Dn (x:=(⟨⟨cv xc,xa.xs,xg.toNat,xl⟩,xy⟩:WV)) (src:=f) (to:=t) (show ei _ _ _ _ _ _ _=_ from(aH.trans (bH.trans ((if_neg dz).trans ((if_neg (by rw[ri];simp)).trans ((if_neg (fun h=>h iB)).trans (if_pos mq)))))))
      refine Gc ?_
      iterate 4 refine Gs ?_
      refine Gc ?_
      refine an (.inl rfl) (aZ rfl (al rfl) (al rfl)) (fun w1 hw=> ?_)
      exact⟨(J5,xa,xg,xl),by rw[hE,kt],by rw[hE,ye];rfl,ah.mem hw⟩
     ·
      replace h5:=bz h5
      have mq:(cq (cv d) (cC (cv d) xa.xs zs f t).1 (fM (cv d) ((xg.toNat:Int)+1) i n).1)=0:=by rw[←kt];exact h5
      have jJ:=oS.1 (vF mq).1
      rw[nv,show(cv d).ag=xc.ag from yb]at jJ
      have TM:((cC (cv d) xa.xs zs f t).1*xc.ag+B.used+1)=0∨(1≤((cC (cv d) xa.xs zs f t).1*xc.ag+B.used+1)∧2≤(((cC (cv d) xa.xs zs f t).1*xc.ag+B.used+1) -1)/(cv xc).ag∧(((cC (cv d) xa.xs zs f t).1*xc.ag+B.used+1) -1)/(cv xc).ag<((cv xc).blocks.length:Int)):=by
       have hq:(((cC (cv d) xa.xs zs f t).1*xc.ag+B.used+1) -1)/xc.ag=(cC (cv d) xa.xs zs f t).1:=by
        rw[Int.add_sub_cancel,Int.add_comm,Int.add_mul_ediv_right _ _ (by omega),Int.ediv_eq_zero_of_lt jJ.2.1 jJ.2.2.1,Int.zero_add]
       exact .inr ⟨by omega,by rw[show(cv xc).ag=xc.ag from rfl,hq];exact wi,by rw[show(cv xc).ag=xc.ag from rfl,hq];omega⟩
      refine Gc ?_
      iterate 4 refine Gs ?_
      refine ae (nE rfl rfl (by omega)) ?_
      iterate 3 refine Gs ?_
      refine ae (aX rfl rfl i rfl (by omega)) ?_
      refine jU (s:=aC) (n:=1) (k:=i) (j:=0) (a:=zi) (a':=((cC (cv d) xa.xs zs f t).1*xc.ag+B.used+1)) (xs:=zs) (enc:=bf) (c:=1) (v:= .int .i64 ((cC (cv d) xa.xs zs f t).1*xc.ag+B.used+1)) (by kernel_rfl) rfl rfl rfl sG (by simp[Value.cells,Value.oneCell']) rfl (by decide) (by rfl) ?_
      refine Gc ?_
      iterate 2 refine Gs ?_
      refine Gi ?_
      exact bh (x:=(i,d,zs)) (i+1,J5,zs.set i ((cC (cv d) xa.xs zs f t).1*xc.ag+B.used+1)) ⟨by simp only;omega,by rw[aH,bH,if_neg dz,if_neg (by rw[ri];simp),if_neg (fun h=>h iB),if_neg (fun h=>h mq),ye,nv],by rw[ye];exact lg bu _ _,by rw[ye];exact cJ.trans (l5 _ _ _),by rw[List.length_set];exact ya,fun y hy=>(List.mem_or_eq_of_mem_set hy).elim (AR y) fun hy=>hy▸TM⟩ (by simp only;omega) (Sub.cons rfl (Sub.cons rfl (Sub.cons rfl (Sub.cons rfl (Sub.cons rfl (Sub.cons rfl (Sub.cons rfl (Sub.cons rfl (Sub.nil _))))))))) (fun w hw=>ah.mem hw)
 ·
  replace h0:=bz h0
  obtain rfl:i=xa.xs.length:=by omega
  have rj:(ei (⟨cv xc,xa.xs,xg.toNat,xl⟩:VV) f t xa.xs 0 (cv xc) xa.xs)=⟨cv d,zs,none⟩:=by rw[aH,List.drop_length];rfl
  have hE:=Pg (x:=(⟨⟨cv xc,xa.xs,xg.toNat,xl⟩,xy⟩:WV)) (src:=f) (to:=t) rj
  have EB:dq (⟨⟨cv d,xa.xs,xg.toNat,xl⟩,xy⟩:WV):=fD.on bu cJ
  refine Gc ?_
  iterate 2 refine Gs ?_
  refine bp rfl EB fun AV TN=> ?_
  refine Gs ?_
  refine Gc ?_
  iterate 5 refine Gs ?_
  refine Gc ?_
  refine an (.inl rfl) (aZ rfl (al rfl) (al rfl)) (fun w1 hw=> ?_)
  exact⟨(AV.1,AV.2.1,AV.2.2.1,AV.2.2.2),by rw[hE];rfl,by rw[hE];exact TN,ah.mem hw⟩
instance aep{w0:World}{L R1 R2 L2:List aj}{i0 i1 i2:Nat}{k:Nat}{xc:Cp}{xa:Sl Int}{xg:UInt64}{xl:Int}{xy:Bool}{f:Int}{t:Int}[q0:Has L k (aR (⟨⟨xc,xa,xg,xl⟩,xy⟩:aV)) 141 i0][d0:c8 L i0 R1][q1:At R1 (fz xc) i1][d1:c8 R1 i1 R2][q2:At R2 (fz xa) i2][d2:c8 R2 i2 L2]:bW Tryz.prog 183 w0 L [.pointer (some ⟨k,0,none⟩), .int .i64 f, .int .i64 t] (Cp×Sl Int×UInt64×Int) (fun zz=> .tuple #[.bool ((dv (⟨⟨cv xc,xa.xs,xg.toNat,xl⟩,xy⟩:WV) f t).2.1), .int .i64 ((dv (⟨⟨cv xc,xa.xs,xg.toNat,xl⟩,xy⟩:WV) f t).2.2)]) (fun zz=>ar k (aR (⟨⟨zz.1,zz.2.1,zz.2.2.1,zz.2.2.2⟩,xy⟩:aV)) 141::fz zz.1::fz zz.2.1::L2) (fun zz=>(⟨⟨cv zz.1,zz.2.1.xs,zz.2.2.1.toNat,zz.2.2.2⟩,xy⟩:WV)=(dv (⟨⟨cv xc,xa.xs,xg.toNat,xl⟩,xy⟩:WV) f t).1) (dq (⟨⟨cv xc,xa.xs,xg.toNat,xl⟩,xy⟩:WV)∧2≤f∧f<(cv xc).blocks.length∧(0≤t→2≤t∧t<(cv xc).blocks.length)):=⟨fun hp w hw=>TH w0 w L2 k xc xa xg xl xy f t (vY q0.h d0.h q1.h d1.h q2.h d2.h hw) hp⟩
open Go.aL Go.Kb
open Go.RowKit
theorem TO(w:World)(xb:Nat)(xc:Cp)(xa:Sl Int)(xg:UInt64)(xl:Int)(xy:Bool)(l:Sv)(ls:List aN)(dV:w.heap[xb]? =Option.some (.cells (aR (⟨⟨xc,xa,xg,xl⟩,xy⟩:aV)) 141 (0,0)))(dr:Deep.bk (hp w) xc)(hl:bM bC 4 (hp w) l ls)(ba:ls.length≤1000000∧ ∀x∈ls,0≤x.live∧x.live≤1000000∧0≤x.used∧x.used≤1000000):Calls Tryz.prog 166 #[.pointer (some ⟨xb,0,none⟩),l.val] w fun e w'=>e= .returned (.tuple #[.int .i64 ((iI ls xc.ag).1), .bool ((iI ls xc.ag).2)])∧Mem w [] w':=by
 have ra:od w xb (aR (⟨⟨xc,xa,xg,xl⟩,xy⟩:aV)) 141:=⟨dV⟩
 have rb:bT w xc:=⟨dr⟩
 have nt:Gv w l bC 4 ls:=⟨hl⟩
 obtain⟨kQ,kr⟩:=ba
 have o8:dJ=1099511627776:=rfl
 refine aW (args:=[_,_]) Tryz.func166 rfl Tryz.ntmps166 rfl ?_
 change Cw _ _ _ _ _ [(0, .pointer (some ⟨xb,0,none⟩)),(1,l.val)] []
 refine Gc ?_
 iterate 2 refine Gs ?_
 refine Gc ?_
 iterate 6 refine Gs ?_
 refine ae (Ry.to (v':= .int .i64 xc.ag) (lE rfl) rfl) ?_
 iterate 2 refine Gs ?_
 refine ae (aU (v:= .int .i64 ((qQ ls xc.ag).1)) rfl rfl) ?_
 refine ae (aU (v:= .bool ((qQ ls xc.ag).2)) rfl rfl) ?_
 iterate 2 refine Gs ?_
 refine Gc ?_
 refine Gs ?_
 refine Gc ?_
 refine aq rfl (fun h0=> ?_) (fun h0=> ?_)
 ·
  replace h0:=bz h0
  have hE:iI ls xc.ag=((qQ ls xc.ag).1,true):=by rw[iI,if_pos h0]
  refine Gc ?_
  iterate 3 refine Gs ?_
  refine Gc ?_
  refine an (.inl rfl) (aZ rfl (al rfl) (al rfl)) (fun w1 hw=> ?_)
  exact⟨by rw[hE],ah.mem hw⟩
 ·
  replace h0:=bz h0
  have hE:iI ls xc.ag=((jv ls ls.length).1,decide (0<(jv ls ls.length).2)):=by rw[iI,if_neg (by rw[h0];simp)]
  refine Gc ?_
  iterate 2 refine Gs ?_
  refine Gc ?_
  iterate 3 refine Gs ?_
  refine Gc ?_
  refine bK (X:=Nat) (fun zz=>[(28, .int .i64 (zz:Nat)),(8, .int .i64 ((jv ls zz).1)),(9, .int .i64 ((jv ls zz).2)),(26,l.val),(27, .int .i64 (ls.length:Nat))]) (fun zz=>[]) (fun zz=>zz≤ls.length) (fun zz=>ls.length -zz) 0 (Nat.zero_le _) (Sub.cons rfl (Sub.cons rfl (Sub.cons rfl (Sub.cons rfl (Sub.cons rfl (Sub.nil _)))))) (fun w hw=>ah.mem hw) ?_
  rintro i bb
  refine Gc ?_
  refine Gs ?_
  refine Gc ?_
  refine aq rfl (fun h1=> ?_) (fun h1=> ?_)
  ·
   replace h1:=bz h1
   obtain⟨z,hz⟩:=get_some (xs:=ls) (i:=i) (by omega)
   have rk:ls.getD i hG=z:=by simp[List.getD,hz]
   have hzb:=kr z (List.mem_of_getElem? hz)
   have v7:=Dk ls i
   have dN:(jv ls (i+1))=vK (jv ls i) i z:=by rw[jv,rk]
   refine Gc ?_
   refine Gs ?_
   refine ae (aX rfl rfl i rfl (by omega)) ?_
   refine ae (fH rfl i hz rfl) ?_
   refine bx fun nu=> ?_
   iterate 2 refine Gs ?_
   refine Gc ?_
   iterate 3 refine Gs ?_
   iterate 3 refine Gg ?_
   iterate 2 refine Gs ?_
   iterate 3 refine Gg ?_
   refine Gs ?_
   refine Gc ?_
   refine aq rfl (fun h2=> ?_) (fun h2=> ?_)
   ·
    replace h2:=bz h2
    have bH:(jv ls (i+1))=(jv ls i):=by rw[dN,vK,if_pos (h2.elim (fun h=>h.elim (fun h=> .inl h) fun h=> .inr (.inl h)) fun h=> .inr (.inr (by omega)))]
    refine Gc ?_
    iterate 2 refine Gs ?_
    refine Gi ?_
    exact bh (x:=(i)) (i+1) (by first|omega|(simp only[];omega)) (by first|omega|(simp only[];omega)) (Sub.cons rfl (Sub.cons (look_eq rfl (by rw[bH])) (Sub.cons (look_eq rfl (by rw[bH])) (Sub.cons rfl (Sub.cons rfl (Sub.nil _)))))) (fun w hw=>ah.mem hw)
   ·
    replace h2:=bz h2
    have ez: ¬(z.bad=true∨z.live=0∨dJ≤z.bE):=fun g=>g.elim (fun g=>absurd (h2.1.1.symm.trans g) (by simp)) (fun g=>g.elim h2.1.2 (fun g=>h2.2 (by omega)))
    refine Gc ?_
    iterate 6 refine Gs ?_
    refine Gc ?_
    iterate 3 refine Gs ?_
    refine Gc ?_
    refine aq rfl (fun h3=> ?_) (fun h3=> ?_)
    ·
     replace h3:=bz h3
     have bH:(jv ls (i+1))=((i:Int),z.used -z.live):=by rw[dN,vK,if_neg ez,if_pos h3]
     refine Gi ?_
     iterate 4 refine Gs ?_
     refine Gc ?_
     iterate 2 refine Gs ?_
     refine Gi ?_
     exact bh (x:=(i)) (i+1) (by first|omega|(simp only[];omega)) (by first|omega|(simp only[];omega)) (Sub.cons rfl (Sub.cons (look_eq rfl (by rw[bH])) (Sub.cons (look_eq rfl (by rw[bH])) (Sub.cons rfl (Sub.cons rfl (Sub.nil _)))))) (fun w hw=>ah.mem hw)
    ·
     replace h3:=bz h3
     have bH:(jv ls (i+1))=(jv ls i):=by rw[dN,vK,if_neg ez,if_neg h3]
     refine Gc ?_
     iterate 2 refine Gs ?_
     refine Gi ?_
     exact bh (x:=(i)) (i+1) (by first|omega|(simp only[];omega)) (by first|omega|(simp only[];omega)) (Sub.cons rfl (Sub.cons (look_eq rfl (by rw[bH])) (Sub.cons (look_eq rfl (by rw[bH])) (Sub.cons rfl (Sub.cons rfl (Sub.nil _)))))) (fun w hw=>ah.mem hw)
  ·
   replace h1:=bz h1
   obtain rfl:i=ls.length:=by omega
   refine Gc ?_
   iterate 5 refine Gs ?_
   refine Gc ?_
   refine an (.inl rfl) (aZ rfl (al rfl) (al rfl)) (fun w1 hw=> ?_)
   exact⟨by rw[hE],ah.mem hw⟩
instance aeq{w0:World}{L:List aj}{xb:Nat}{xc:Cp}{xa:Sl Int}{xg:UInt64}{xl:Int}{xy:Bool}{l:Sv}{ls:List aN}[dV:kx w0 L xb (aR (⟨⟨xc,xa,xg,xl⟩,xy⟩:aV)) 141][dr:aS w0 L xc][hl:cl w0 L bC 4 l ls]:bU Tryz.prog 166 w0 L [.pointer (some ⟨xb,0,none⟩),l.val] (.tuple #[.int .i64 ((iI ls xc.ag).1), .bool ((iI ls xc.ag).2)]) (ls.length≤1000000∧ ∀x∈ls,0≤x.live∧x.live≤1000000∧0≤x.used∧x.used≤1000000):=⟨fun hp w hw=>TO w xb xc xa xg xl xy l ls (dV.h w hw) (dr.h w hw) (hl.h w hw) hp⟩
theorem TP(w:World)(x:aN):Calls Tryz.prog 192 #[.agg (bC x)] w fun e w'=>e= .returned (.bool (ua x))∧Mem w [] w':=by
 refine aW (args:=[_]) Tryz.func192 rfl Tryz.ntmps192 rfl ?_
 change Cw _ _ _ _ _ [(0, .agg (bC x))] []
 refine Gc ?_
 refine bL rfl fun b1=> ?_
 refine Gs ?_
 refine Gc ?_
 iterate 4 refine Gs ?_
 refine Gc ?_
 refine an (.inl rfl) (aK rfl (al rfl)) (fun w1 hw=> ?_)
 exact⟨congrArg (fun b=>Ending.returned (Value.bool b)) (rfl),ah.mem hw⟩
instance {w0:World}{L:List aj}:ph Tryz.prog w0 L 192 #[] bC ua:=⟨inferInstance,fun w _ x=>TP w x⟩
theorem TQ(w:World)(x:aN):Calls Tryz.prog 194 #[.agg (bC x)] w fun e w'=>e= .returned (.bool (uc x))∧Mem w [] w':=by
 refine aW (args:=[_]) Tryz.func194 rfl Tryz.ntmps194 rfl ?_
 change Cw _ _ _ _ _ [(0, .agg (bC x))] []
 refine Gc ?_
 refine bL rfl fun b1=> ?_
 refine Gs ?_
 refine Gc ?_
 iterate 4 refine Gs ?_
 refine Gc ?_
 refine an (.inl rfl) (aK rfl (al rfl)) (fun w1 hw=> ?_)
 exact⟨congrArg (fun b=>Ending.returned (Value.bool b)) (rfl),ah.mem hw⟩
instance {w0:World}{L:List aj}:ph Tryz.prog w0 L 194 #[] bC uc:=⟨inferInstance,fun w _ x=>TQ w x⟩
theorem TR(w:World)(cb:Nat)(cp:Int)(mf:w.cell? ⟨cb,0,none⟩=Option.some (.int .i64 cp))(x:aN):Calls Tryz.prog 193 #[.agg (bC x), .pointer (some ⟨cb,0,none⟩)] w fun e w'=>e= .returned (.bool (ub cp x))∧Mem w [] w':=by
 refine aW (args:=[_,_]) Tryz.func193 rfl Tryz.ntmps193 rfl ?_
 change Cw _ _ _ _ _ [(0, .agg (bC x)),(1, .pointer (some ⟨cb,0,none⟩))] []
 refine Gc ?_
 refine bL rfl fun b2=> ?_
 refine Gs ?_
 refine Gc ?_
 iterate 2 refine Gs ?_
 refine ae (Js rfl mf) ?_
 iterate 2 refine Gs ?_
 refine Gc ?_
 refine an (.inl rfl) (aK rfl (al rfl)) (fun w1 hw=> ?_)
 exact⟨congrArg (fun b=>Ending.returned (Value.bool b)) (rfl),ah.mem hw⟩
instance {w0:World}{L:List aj}{cb i:Nat}{cp:Int}{T:TypeId}[q:Has L cb #[.int .i64 cp] T i]:ph Tryz.prog w0 L 193 #[.pointer (some ⟨cb,0,none⟩)] bC (ub cp):=⟨inferInstance,fun w hw x=>TR w cb cp (by rw[hw.cell q.h];rfl) x⟩
theorem TS(w0 w:World)(L:List aj)(k:Nat)(xc:Cp)(xa:Sl Int)(xg:UInt64)(xl:Int)(xy:Bool)(l:Sv)(ls:List aN)[hl:Hd w0 L l bC 4 ls](hw:Mem w0 (ar k (aR (⟨⟨xc,xa,xg,xl⟩,xy⟩:aV)) 141::fz xc::L) w)(ba:bg (cv xc)=true∧j9 (cv xc) ls):Calls Tryz.prog 181 #[.pointer (some ⟨k,0,none⟩),l.val] w fun e w'=> ∃zz:Cp,e= .returned (.tuple #[.int .i64 ((cT (cv xc) ls).2.1), .int .i64 ((cT (cv xc) ls).2.2)])∧(cv zz=(cT (cv xc) ls).1)∧Mem w0 (ar k (aR (⟨⟨zz,xa,xg,xl⟩,xy⟩:aV)) 141::fz zz::L) w':=by
 have hk:=ba.1
 have fA:=ba.2.1
 have hd:=kL hk
 refine jH (args:=[_,_]) Tryz.func181 rfl Tryz.ntmps181 rfl hw ?_
 change Cw _ _ _ _ _ [(0, .pointer (some ⟨k,0,none⟩)),(1,l.val)] (ar k (aR (⟨⟨xc,xa,xg,xl⟩,xy⟩:aV)) 141::fz xc::L)
 refine Gc ?_
 iterate 2 refine Gs ?_
 refine Gc ?_
 iterate 5 refine Gs ?_
 refine ae (Ry.to (v':= .int .i64 xc.ag) (bl rfl) rfl) ?_
 refine Q2 (z:= .int .i64 0) rfl fun b6=> ?_
 refine Q3 (by first|rfl|exact Sv.one _) rfl rfl ?_
 refine Gc ?_
 refine Gs ?_
 refine bp rfl (by omega) fun lz AB=> ?_
 refine Gs ?_
 refine Gc ?_
 iterate 4 refine Gs ?_
 refine ae (aU (v:= .int .i64 ((fb (cB ua ls) xc.ag).1)) rfl rfl) ?_
 refine ae (aU (v:= .bool ((fb (cB ua ls) xc.ag).2)) rfl rfl) ?_
 iterate 2 refine Gs ?_
 refine Gc ?_
 refine Gs ?_
 refine Gc ?_
 refine aq rfl (fun h0=> ?_) (fun h0=> ?_)
 ·
  replace h0:=bz h0
  have kz:(qd (cv xc) ls).2=true:=h0
  have hE:(cT (cv xc) ls)=(cv xc,(qd (cv xc) ls).1+2,0):=by rw[cT,if_pos kz]
  have kR:=sk ba.2 (fun x h=>(xF h).1) kz
  change 0≤(fb (cB ua ls) xc.ag).1∧(fb (cB ua ls) xc.ag).1<_∧_ at kR
  refine Gc ?_
  iterate 4 refine Gs ?_
  refine Gc ?_
  refine an (.inl rfl) (aZ rfl (al rfl) (al rfl)) (fun w1 hw=> ?_)
  exact⟨xc,by rw[hE];rfl,by rw[hE],ah.mem hw⟩
 ·
  replace h0:=bz h0
  have kz: ¬(qd (cv xc) ls).2=true:=fun h=>by rw[show(qd (cv xc) ls).2=false from h0]at h;cases h
  refine Gc ?_
  refine Gs ?_
  refine ae (DZ rfl) ?_
  refine bp rfl (by omega) fun yf J6=> ?_
  refine Gs ?_
  refine Gc ?_
  iterate 4 refine Gs ?_
  refine ae (aU (v:= .int .i64 ((fx (cB (ub xc.ag) ls) xc.ag).1)) rfl rfl) ?_
  refine ae (aU (v:= .bool ((fx (cB (ub xc.ag) ls) xc.ag).2)) rfl rfl) ?_
  iterate 2 refine Gs ?_
  refine Gc ?_
  refine Gs ?_
  refine Gc ?_
  refine aq rfl (fun h1=> ?_) (fun h1=> ?_)
  ·
   replace h1:=bz h1
   have dz:(mc (cv xc) ls).2=true:=h1
   have hE:(cT (cv xc) ls)=((dU (cv xc) ((mc (cv xc) ls).1+2)).1,(mc (cv xc) ls).1+2,(dU (cv xc) ((mc (cv xc) ls).1+2)).2):=by rw[cT,if_neg kz,if_pos dz]
   have kR:=sk ba.2 (fun x h=>(tX h).1) dz
   change 0≤(fx (cB (ub xc.ag) ls) xc.ag).1∧(fx (cB (ub xc.ag) ls) xc.ag).1<_∧_ at kR
   refine Gc ?_
   iterate 5 refine Gs ?_
   refine bp rfl ⟨hk,by omega,by omega⟩ fun sS J7=> ?_
   iterate 2 refine Gs ?_
   refine Gc ?_
   refine an (.inl rfl) (aZ rfl (al rfl) (al rfl)) (fun w1 hw=> ?_)
   exact⟨sS,by rw[hE];rfl,by rw[J7,hE];rfl,ah.mem hw⟩
  ·
   replace h1:=bz h1
   have dz: ¬(mc (cv xc) ls).2=true:=fun h=>by rw[show(mc (cv xc) ls).2=false from h1]at h;cases h
   refine Gc ?_
   refine Gs ?_
   refine bp rfl (by omega) fun kd sN=> ?_
   refine Gs ?_
   refine Gc ?_
   iterate 4 refine Gs ?_
   refine ae (aU (v:= .int .i64 ((fx (cB uc ls) xc.ag).1)) rfl rfl) ?_
   refine ae (aU (v:= .bool ((fx (cB uc ls) xc.ag).2)) rfl rfl) ?_
   iterate 2 refine Gs ?_
   refine Gc ?_
   refine Gs ?_
   refine Gc ?_
   refine aq rfl (fun h2=> ?_) (fun h2=> ?_)
   ·
    replace h2:=bz h2
    have ez:(me (cv xc) ls).2=true:=h2
    have hE:(cT (cv xc) ls)=((dU (cv xc) ((me (cv xc) ls).1+2)).1,(me (cv xc) ls).1+2,(dU (cv xc) ((me (cv xc) ls).1+2)).2):=by rw[cT,if_neg kz,if_neg dz,if_pos ez]
    have kR:=sk ba.2 (fun x h=>(tX h).1) ez
    change 0≤(fx (cB uc ls) xc.ag).1∧(fx (cB uc ls) xc.ag).1<_∧_ at kR
    refine Gc ?_
    iterate 5 refine Gs ?_
    refine bp rfl ⟨hk,by omega,by omega⟩ fun TT TU=> ?_
    iterate 2 refine Gs ?_
    refine Gc ?_
    refine an (.inl rfl) (aZ rfl (al rfl) (al rfl)) (fun w1 hw=> ?_)
    exact⟨TT,by rw[hE];rfl,by rw[TU,hE];rfl,ah.mem hw⟩
   ·
    replace h2:=bz h2
    have ez: ¬(me (cv xc) ls).2=true:=fun h=>by rw[show(me (cv xc) ls).2=false from h2]at h;cases h
    refine Gc ?_
    iterate 2 refine Gs ?_
    refine Gc ?_
    refine an (.inl rfl) (aZ rfl (al rfl) (al rfl)) (fun w1 hw=> ?_)
    exact⟨xc,by rw[cT,if_neg kz,if_neg dz,if_neg ez],by rw[cT,if_neg kz,if_neg dz,if_neg ez],ah.mem hw⟩
instance aer{w0:World}{L R1 L2:List aj}{i0 i1:Nat}{k:Nat}{xc:Cp}{xa:Sl Int}{xg:UInt64}{xl:Int}{xy:Bool}{l:Sv}{ls:List aN}[q0:Has L k (aR (⟨⟨xc,xa,xg,xl⟩,xy⟩:aV)) 141 i0][d0:c8 L i0 R1][q1:At R1 (fz xc) i1][d1:c8 R1 i1 L2][hl:Hd w0 L2 l bC 4 ls]:bW Tryz.prog 181 w0 L [.pointer (some ⟨k,0,none⟩),l.val] (Cp) (fun zz=> .tuple #[.int .i64 ((cT (cv xc) ls).2.1), .int .i64 ((cT (cv xc) ls).2.2)]) (fun zz=>ar k (aR (⟨⟨zz,xa,xg,xl⟩,xy⟩:aV)) 141::fz zz::L2) (fun zz=>cv zz=(cT (cv xc) ls).1) (bg (cv xc)=true∧j9 (cv xc) ls):=⟨fun hp w hw=>TS w0 w L2 k xc xa xg xl xy l ls (qZ q0.h d0.h q1.h d1.h hw) hp⟩
open Go.aL Go.Kb
open Go.RowKit
theorem TV(w0 w:World)(L:List aj)(k:Nat)(xc:Cp)(xa:Sl Int)(xg:UInt64)(xl:Int)(xy:Bool)(l:Sv)(ls:List aN)(i:Int)[hl:Hd w0 L l bC 4 ls](hw:Mem w0 (ar k (aR (⟨⟨xc,xa,xg,xl⟩,xy⟩:aV)) 141::fz xc::fz xa::L) w)(ba:dq (⟨⟨cv xc,xa.xs,xg.toNat,xl⟩,xy⟩:WV)∧j9 (cv xc) ls∧0≤i∧i<ls.length):Calls Tryz.prog 168 #[.pointer (some ⟨k,0,none⟩),l.val, .int .i64 i] w fun e w'=> ∃zz:Cp×Sl Int×UInt64×Int,e= .returned (.int .i64 ((iJ (⟨⟨cv xc,xa.xs,xg.toNat,xl⟩,xy⟩:WV) ls i).2))∧((⟨⟨cv zz.1,zz.2.1.xs,zz.2.2.1.toNat,zz.2.2.2⟩,xy⟩:WV)=(iJ (⟨⟨cv xc,xa.xs,xg.toNat,xl⟩,xy⟩:WV) ls i).1)∧Mem w0 (ar k (aR (⟨⟨zz.1,zz.2.1,zz.2.2.1,zz.2.2.2⟩,xy⟩:aV)) 141::fz zz.1::fz zz.2.1::L) w':=by
 obtain⟨fD,nw,rz,bb⟩:=ba
 have hk:bg (cv xc)=true:=fD.ai
 have wg:4≤(cv xc).blocks.length:=fD.qc
 have hd:=kL hk
 have fA:=nw.1
 obtain⟨z,hz⟩:=get_some (xs:=ls) (i:=i.toNat) (by omega)
 have rk:ls.getD i.toNat hG=z:=by simp[List.getD,hz]
 have xN:(ls.set i.toNat cd).length=ls.length:=List.length_set
 refine jH (args:=[_,_,_]) Tryz.func168 rfl Tryz.ntmps168 rfl hw ?_
 change Cw _ _ _ _ _ [(0, .pointer (some ⟨k,0,none⟩)),(1,l.val),(2, .int .i64 i)] (ar k (aR (⟨⟨xc,xa,xg,xl⟩,xy⟩:aV)) 141::fz xc::fz xa::L)
 refine Gc ?_
 refine Gs ?_
 refine Gc ?_
 refine Gs ?_
 refine bp rfl (by omega) fun fE oo=> ?_
 refine Gs ?_
 refine Gc ?_
 iterate 2 refine Gs ?_
 refine ae (bV (v:= .agg (bC cd)) rfl AN) ?_
 refine ae (aX rfl rfl i.toNat (by omega) (by omega)) ?_
 refine jU (s:=fE) (n:=4) (k:=i.toNat) (j:=0) (a:=z) (a':=cd) (xs:=ls) (enc:=bC) (c:=4) (v:= .agg (bC cd)) (by kernel_rfl) rfl rfl rfl hz (bF.one (enc:=bC) (c:=4) _) rfl (by decide) (by rfl) ?_
 refine Gc ?_
 iterate 2 refine Gs ?_
 refine bp rfl ⟨hk,nw.set i.toNat⟩ fun gg um=> ?_
 obtain⟨t1,t2,t3,t4,t5,t6⟩:=Dm hk (nw.set i.toNat)
 rw[←um]at t1 t2 t3 t4 t5 t6
 have nC:dq (⟨⟨cv gg,xa.xs,xg.toNat,xl⟩,xy⟩:WV):=fD.on t1 t2
 refine Gs ?_
 refine ae (aU (v:= .int .i64 ((cT (cv xc) (ls.set i.toNat cd)).2.1)) rfl rfl) ?_
 refine ae (aU (v:= .int .i64 ((cT (cv xc) (ls.set i.toNat cd)).2.2)) rfl rfl) ?_
 iterate 2 refine Gs ?_
 iterate 2 refine Gi ?_
 refine wK (X:=Unit) (fun zz=>[(8, .int .i64 ((df (cv xc) ls i).1)),(9, .int .i64 ((df (cv xc) ls i).2)),(0, .pointer (some ⟨k,0,none⟩)),(1,l.val),(2, .int .i64 i)]) (fun zz=>ar k (aR (⟨⟨gg,xa,xg,xl⟩,xy⟩:aV)) 141::fz gg::fz xa::L) (fun zz=>True) ?_ ?_
 ·
  refine Gi ?_
  refine eF (by kernel_rfl) (by kernel_rfl) ?_
  iterate 3 refine Gq ?_
  iterate 2 refine Gh ?_
  refine c5 rfl rfl rfl (fun hg=>(Ry.yl (iV (av hg rfl)))) ?_
  refine c5 rfl rfl rfl (fun hg=>(Ry.yl (aA (o':=0) (av hg rfl) rfl))) ?_
  refine c5 rfl rfl rfl (fun hg=>(Ry.yl (aA (o':=0) (av hg rfl) rfl))) ?_
  refine c5 rfl rfl rfl (fun hg=>(Ry.yl (aA (o':=0) (av hg rfl) rfl))) ?_
  refine c5 rfl rfl rfl (fun hg=>(Ry.yl (Ry.to (v':= .int .i64 gg.ag) (bl (av hg rfl)) rfl))) ?_
  refine c5 rfl rfl rfl (fun hg=>bX (cg (av hg rfl) (cg (av hg rfl) dO)) trivial) ?_
  iterate 2 refine Gh ?_
  refine c5 rfl rfl rfl (fun hg=>(Ry.yl (aX (av hg rfl) (av hg rfl) i.toNat (by omega) (by omega)))) ?_
  refine c5 rfl rfl rfl (fun hg=>(Ry.yl (aA (av hg rfl) rfl))) ?_
  refine c5 rfl rfl rfl (fun hg=>(Ry.yl (bn (j:=0) (av hg rfl) i.toNat hz rfl (by decide)))) ?_
  refine Gh ?_
  refine Gq ?_
  refine Gc ?_
  refine aq rfl (fun h0=> ?_) (fun h0=> ?_)
  ·
   replace h0:=bz h0
   have hA:ud (cv xc) ls i=true:=by
    rw[ud,rk,Bool.and_eq_true,decide_eq_true_eq,decide_eq_true_eq,←show gg.ag=(cv xc).ag from t2.ag];exact h0
   refine Gi ?_
   iterate 2 refine Gs ?_
   refine Gi ?_
   exact pD () trivial (Sub.cons (look_eq rfl (by rw[df,if_pos hA])) (Sub.cons (look_eq rfl (by rw[df,if_pos hA])) (Sub.cons rfl (Sub.cons rfl (Sub.cons rfl (Sub.nil _)))))) (fun w hw=>ah.mem hw)
  ·
   replace h0:=bz h0
   have hA: ¬ud (cv xc) ls i=true:=by
    rw[ud,rk,Bool.and_eq_true,decide_eq_true_eq,decide_eq_true_eq,←show gg.ag=(cv xc).ag from t2.ag]
    rintro⟨ga,gb⟩
    rcases h0 with h|h
    ·
     exact h ga
    ·
     exact h gb
   refine Gi ?_
   exact pD () trivial (Sub.cons (look_eq rfl (by rw[df,if_neg hA])) (Sub.cons (look_eq rfl (by rw[df,if_neg hA])) (Sub.cons rfl (Sub.cons rfl (Sub.cons rfl (Sub.nil _)))))) (fun w hw=>ah.mem hw)
 ·
  rintro⟨⟩ _
  refine Gc ?_
  iterate 2 refine Gs ?_
  refine Gc ?_
  refine aq rfl (fun h1=> ?_) (fun h1=> ?_)
  ·
   replace h1:=bz h1
   have hE:(iJ (⟨⟨cv xc,xa.xs,xg.toNat,xl⟩,xy⟩:WV) ls i)=(((⟨⟨cv xc,xa.xs,xg.toNat,xl⟩,xy⟩:WV).on (cv gg)),kp (df (cv xc) ls i).2):=by rw[iJ,if_pos h1,show((⟨⟨cv xc,xa.xs,xg.toNat,xl⟩,xy⟩:WV)).v.ai=cv xc from rfl,←um]
   refine Gc ?_
   iterate 3 refine Gs ?_
   refine Gc ?_
   refine an (.inl rfl) (aK rfl (al rfl)) (fun w1 hw=> ?_)
   exact⟨(gg,xa,xg,xl),by rw[hE],by rw[hE];rfl,ah.mem hw⟩
  ·
   replace h1:=bz h1
   have dz: ¬(df (cv xc) ls i).2≠0:=fun h=>h h1
   have bH:(iJ (⟨⟨cv xc,xa.xs,xg.toNat,xl⟩,xy⟩:WV) ls i)=(if(dv (⟨⟨cv gg,xa.xs,xg.toNat,xl⟩,xy⟩:WV) (i+2) (df (cv xc) ls i).1).2.1=false∨z.used=xc.ag then((dv (⟨⟨cv gg,xa.xs,xg.toNat,xl⟩,xy⟩:WV) (i+2) (df (cv xc) ls i).1).1,(dv (⟨⟨cv gg,xa.xs,xg.toNat,xl⟩,xy⟩:WV) (i+2) (df (cv xc) ls i).1).2.2)else((dv (⟨⟨cv gg,xa.xs,xg.toNat,xl⟩,xy⟩:WV) (i+2) (df (cv xc) ls i).1).1.on (dU (dv (⟨⟨cv gg,xa.xs,xg.toNat,xl⟩,xy⟩:WV) (i+2) (df (cv xc) ls i).1).1.v.ai (i+2)).1,kp (dU (dv (⟨⟨cv gg,xa.xs,xg.toNat,xl⟩,xy⟩:WV) (i+2) (df (cv xc) ls i).1).1.v.ai (i+2)).2)):=by
    rw[iJ]
    refine(if_neg dz).trans ?_
    rw[rk,show((⟨⟨cv xc,xa.xs,xg.toNat,xl⟩,xy⟩:WV)).v.ai=cv xc from rfl,←um];rfl
   refine Gc ?_
   iterate 4 refine Gs ?_
   refine bp rfl ⟨nC,by omega,by rw[t2.len];omega,fun h=>by rw[t2.len];have:=Du (i:=i) hk nw h1 h;exact⟨this.1,this.2.1⟩⟩ fun kd sN=> ?_
   have hm:=Pn (x:=(⟨⟨cv gg,xa.xs,xg.toNat,xl⟩,xy⟩:WV)) (src:=i+2) (to:=(df (cv xc) ls i).1) nC (fun h=>by
    have:=Du (i:=i) hk nw h1 h
    exact⟨this.1,by rw[show((⟨⟨cv gg,xa.xs,xg.toNat,xl⟩,xy⟩:WV)).v.ai.blocks.length=(cv xc).blocks.length from t2.len];exact this.2.1,by rw[show((⟨⟨cv gg,xa.xs,xg.toNat,xl⟩,xy⟩:WV)).v.ai=(cT (cv xc) (ls.set i.toNat cd)).1 from um];exact this.2.2⟩)
   rw[←sN]at hm
   obtain⟨TW,J8⟩:=hm
   have mN:kd.1.ag=xc.ag:=J8.ag.trans t2.ag
   refine Gs ?_
   refine ae (aU (v:= .bool ((dv (⟨⟨cv gg,xa.xs,xg.toNat,xl⟩,xy⟩:WV) (i+2) ((df (cv xc) ls i).1)).2.1)) rfl rfl) ?_
   refine ae (aU (v:= .int .i64 ((dv (⟨⟨cv gg,xa.xs,xg.toNat,xl⟩,xy⟩:WV) (i+2) ((df (cv xc) ls i).1)).2.2)) rfl rfl) ?_
   iterate 2 refine Gs ?_
   refine Gc ?_
   refine eF (by kernel_rfl) (by kernel_rfl) ?_
   iterate 3 refine Gq ?_
   iterate 2 refine Gh ?_
   refine dB rfl rfl rfl (fun hg=>(Ry.yl (aX (av hg rfl) (av hg rfl) i.toNat (by omega) (by omega)))) ?_
   refine dB rfl rfl rfl (fun hg=>(Ry.yl (aA (av hg rfl) rfl))) ?_
   refine dB rfl rfl rfl (fun hg=>(Ry.yl (bn (j:=1) (av hg rfl) i.toNat hz rfl (by decide)))) ?_
   refine Gh ?_
   refine dB rfl rfl rfl (fun hg=>(Ry.yl (iV (av hg rfl)))) ?_
   refine dB rfl rfl rfl (fun hg=>(Ry.yl (aA (o':=0) (av hg rfl) rfl))) ?_
   refine dB rfl rfl rfl (fun hg=>(Ry.yl (aA (o':=0) (av hg rfl) rfl))) ?_
   refine dB rfl rfl rfl (fun hg=>(Ry.yl (aA (o':=0) (av hg rfl) rfl))) ?_
   refine dB rfl rfl rfl (fun hg=>(Ry.yl (Ry.to (v':= .int .i64 kd.1.ag) (bl (av hg rfl)) rfl))) ?_
   refine Gh ?_
   refine Gq ?_
   refine Gc ?_
   refine aq rfl (fun h2=> ?_) (fun h2=> ?_)
   ·
    replace h2:=bz h2
    have hE:=bH
    rw[if_pos (by rw[←mN];exact h2),←sN]at hE
    refine Gc ?_
    iterate 2 refine Gs ?_
    refine Gc ?_
    refine an (.inl rfl) (aK rfl (al rfl)) (fun w1 hw=> ?_)
    exact⟨(kd.1,kd.2.1,kd.2.2.1,kd.2.2.2),by rw[hE],by rw[hE],ah.mem hw⟩
   ·
    replace h2:=bz h2
    have hE:=bH
    rw[if_neg (by rw[←mN];rintro(g|g)
                  ·exact absurd (h2.1.symm.trans g) (by simp)
                  ·exact h2.2 g),←sN]at hE
    refine Gc ?_
    iterate 3 refine Gs ?_
    refine bp rfl ⟨TW.ai,by omega,by rw[J8.len,t2.len];omega⟩ fun TX TY=> ?_
    iterate 2 refine Gs ?_
    refine Gc ?_
    refine an (.inl rfl) (aK rfl (al rfl)) (fun w1 hw=> ?_)
    exact⟨(TX,kd.2.1,kd.2.2.1,kd.2.2.2),by rw[hE],by rw[hE,TY];rfl,ah.mem hw⟩
instance aes{w0:World}{L R1 R2 L2:List aj}{i0 i1 i2:Nat}{k:Nat}{xc:Cp}{xa:Sl Int}{xg:UInt64}{xl:Int}{xy:Bool}{l:Sv}{ls:List aN}{i:Int}[q0:Has L k (aR (⟨⟨xc,xa,xg,xl⟩,xy⟩:aV)) 141 i0][d0:c8 L i0 R1][q1:At R1 (fz xc) i1][d1:c8 R1 i1 R2][q2:At R2 (fz xa) i2][d2:c8 R2 i2 L2][hl:Hd w0 L2 l bC 4 ls]:bW Tryz.prog 168 w0 L [.pointer (some ⟨k,0,none⟩),l.val, .int .i64 i] (Cp×Sl Int×UInt64×Int) (fun zz=> .int .i64 ((iJ (⟨⟨cv xc,xa.xs,xg.toNat,xl⟩,xy⟩:WV) ls i).2)) (fun zz=>ar k (aR (⟨⟨zz.1,zz.2.1,zz.2.2.1,zz.2.2.2⟩,xy⟩:aV)) 141::fz zz.1::fz zz.2.1::L2) (fun zz=>(⟨⟨cv zz.1,zz.2.1.xs,zz.2.2.1.toNat,zz.2.2.2⟩,xy⟩:WV)=(iJ (⟨⟨cv xc,xa.xs,xg.toNat,xl⟩,xy⟩:WV) ls i).1) (dq (⟨⟨cv xc,xa.xs,xg.toNat,xl⟩,xy⟩:WV)∧j9 (cv xc) ls∧0≤i∧i<ls.length):=⟨fun hp w hw=>TV w0 w L2 k xc xa xg xl xy l ls i (vY q0.h d0.h q1.h d1.h q2.h d2.h hw) hp⟩
theorem TZ(w:World)(cb k:Nat)(xc:Cp)(xa:Sl Int)(xg:UInt64)(xl:Int)(xy:Bool)(mf:w.cell? ⟨cb,0,none⟩=Option.some (.pointer (some ⟨k,0,none⟩)))(T0:w.heap[k]? =Option.some (.cells (aR (⟨⟨xc,xa,xg,xl⟩,xy⟩:aV)) 141 (0,0)))(x:aN):Calls Tryz.prog 170 #[.agg (bC x), .pointer (some ⟨cb,0,none⟩)] w fun e w'=>e= .returned (.bool (nV xc.ag x))∧Mem w [] w':=by
 have gkb:od w k (aR (⟨⟨xc,xa,xg,xl⟩,xy⟩:aV)) 141:=⟨T0⟩
 have o8:dJ=1099511627776:=rfl
 refine aW (args:=[_,_]) Tryz.func170 rfl Tryz.ntmps170 rfl ?_
 change Cw _ _ _ _ _ [(0, .agg (bC x)),(1, .pointer (some ⟨cb,0,none⟩))] []
 refine Gc ?_
 refine bL rfl fun b2=> ?_
 refine Gs ?_
 refine Gc ?_
 refine eF (by kernel_rfl) (by kernel_rfl) ?_
 iterate 2 refine Gq ?_
 refine aT (Js rfl mf) ?_
 iterate 4 refine Gq ?_
 refine aT (Ry.to (v':= .int .i64 xc.ag) (lE rfl) rfl) ?_
 iterate 2 refine Gq ?_
 iterate 3 refine Gh ?_
 iterate 2 refine Gq ?_
 refine Gc ?_
 refine an (.inl rfl) (aK rfl (al rfl)) (fun w1 hw=> ?_)
 exact⟨congrArg (fun b=>Ending.returned (Value.bool b)) (rfl),ah.mem hw⟩
instance {w0:World}{L:List aj}{cb k i j:Nat}{xc:Cp}{xa:Sl Int}{xg:UInt64}{xl:Int}{xy:Bool}{T:TypeId}[q:Has L cb #[.pointer (some ⟨k,0,none⟩)] T i][q2:Has L k (aR (⟨⟨xc,xa,xg,xl⟩,xy⟩:aV)) 141 j]:ph Tryz.prog w0 L 170 #[.pointer (some ⟨cb,0,none⟩)] bC (nV xc.ag):=⟨inferInstance,fun w hw x=>TZ w cb k xc xa xg xl xy (by rw[hw.cell q.h];rfl) (hw.block q2.h) x⟩
theorem T1(w0 w:World)(L:List aj)(k:Nat)(xc:Cp)(xa:Sl Int)(xg:UInt64)(xl:Int)(xy:Bool)(hw:Mem w0 (ar k (aR (⟨⟨xc,xa,xg,xl⟩,xy⟩:aV)) 141::fz xc::fz xa::L) w)(ba:dq (⟨⟨cv xc,xa.xs,xg.toNat,xl⟩,xy⟩:WV)):Calls Tryz.prog 152 #[.pointer (some ⟨k,0,none⟩)] w fun e w'=> ∃zz:Cp×Sl Int×UInt64×Int,e= .returned (.int .i64 ((fN (⟨⟨cv xc,xa.xs,xg.toNat,xl⟩,xy⟩:WV)).2))∧((⟨⟨cv zz.1,zz.2.1.xs,zz.2.2.1.toNat,zz.2.2.2⟩,xy⟩:WV)=(fN (⟨⟨cv xc,xa.xs,xg.toNat,xl⟩,xy⟩:WV)).1)∧Mem w0 (ar k (aR (⟨⟨zz.1,zz.2.1,zz.2.2.1,zz.2.2.2⟩,xy⟩:aV)) 141::fz zz.1::fz zz.2.1::L) w':=by
 have fD:=ba
 have hk:bg (cv xc)=true:=fD.ai
 have wg:4≤(cv xc).blocks.length:=fD.qc
 have hd:=kL hk
 have xZ:xg.toNat<281474976710656:=fD.gen
 have oc:oX (cv xc) (az [xa]):=by rw[xY];exact(show gK (cv xc) xa.xs from fD.qS).kn hk (by omega) (by have:xa.xs.length≤64:=fD.qb;omega)
 have nw:j9 (cv xc) (aY (cv xc) (az [xa])):=Dl _ _
 have fA:=nw.1
 have dC:(az [xa]).length≤64:=by rw[xY];exact fD.qb
 have fJ: ∀x∈(aY (cv xc) (az [xa])),0≤x.live∧x.live≤1000000∧0≤x.used∧x.used≤1000000:=fun x hx=>by
  have t:=Ab hk hx
  have:=t.O2;have:=t.O3;have:=t.z9;have:=t.Aa
  exact⟨by omega,by omega,by omega,by omega⟩
 have EC:(fN (⟨⟨cv xc,xa.xs,xg.toNat,xl⟩,xy⟩:WV))=(if(iI (aY (cv xc) (az [xa])) xc.ag).2=true∧vI xg.toNat=false then(if(iJ (⟨⟨cv xc,xa.xs,xg.toNat,xl⟩,xy⟩:WV) (aY (cv xc) (az [xa])) (iI (aY (cv xc) (az [xa])) xc.ag).1).2≠6 then(iJ (⟨⟨cv xc,xa.xs,xg.toNat,xl⟩,xy⟩:WV) (aY (cv xc) (az [xa])) (iI (aY (cv xc) (az [xa])) xc.ag).1)else nh (iJ (⟨⟨cv xc,xa.xs,xg.toNat,xl⟩,xy⟩:WV) (aY (cv xc) (az [xa])) (iI (aY (cv xc) (az [xa])) xc.ag).1).1 (aY (cv xc) (az [xa])))else nh (⟨⟨cv xc,xa.xs,xg.toNat,xl⟩,xy⟩:WV) (aY (cv xc) (az [xa]))):=by
  have e:(aY (cv xc) (az [xa]))=qT (⟨⟨cv xc,xa.xs,xg.toNat,xl⟩,xy⟩:WV):=by rw[xY];rfl
  rw[e];rfl
 refine jH (args:=[_]) Tryz.func152 rfl Tryz.ntmps152 rfl hw ?_
 change Cw _ _ _ _ _ [(0, .pointer (some ⟨k,0,none⟩))] (ar k (aR (⟨⟨xc,xa,xg,xl⟩,xy⟩:aV)) 141::fz xc::fz xa::L)
 refine Gc ?_
 refine Q1 (by first|rfl|exact Sv.hQ _) rfl fun b1=> ?_
 refine Gs ?_
 refine Gc ?_
 refine fw [6,7] [[],[],[],[],[],[],[],[6],[6,7]] [0,1,2,3,4,5,6,7,8] [ar b1 #[.pointer (some ⟨k,0,none⟩)] 139,ar k (aR (⟨⟨xc,xa,xg,xl⟩,xy⟩:aV)) 141,fz xa] (fun _ hw=>ah.mem hw) (by kernel_rfl) (by kernel_rfl) ?_
 refine ak rfl (bl rfl) ?_
 refine ak rfl (bl rfl) ?_
 refine ak rfl (iV rfl) ?_
 refine ak rfl (aA (o':=0) rfl rfl) ?_
 refine ak rfl (aA (o':=6) rfl rfl) ?_
 refine ak rfl (Ry.to (v':=xa.sv.val) (bl rfl) rfl) ?_
 refine cK rfl (GP (enc:=bP) (vals:=[xa.sv.val]) [xa] rfl (by simp only[List.map_cons,List.map_nil,Sv.hQ];rfl) rfl (by decide) (by decide) fun yd=>⟨fun _ hw=>ah.mem hw,?_⟩)
 refine cK rfl (lT (hc:=Ep (l:=(⟨⟨false,yd,0,1,1,none⟩,[xa]⟩:Sl (Sl Int)))) rfl oc fun eX yg=>⟨fun _ hw=>ah.mem hw,?_⟩)
 refine ak rfl (aP rfl) ?_
 iterate 2 refine Gi ?_
 refine wK (X:=Cp×Sl Int×UInt64×Int) (fun zz=>[(1, .pointer (some ⟨b1,0,none⟩)),(3,eX.val)]) (fun zz=>ar b1 #[.pointer (some ⟨k,0,none⟩)] 139::ar k (aR (⟨⟨zz.1,zz.2.1,zz.2.2.1,zz.2.2.2⟩,xy⟩:aV)) 141::fz zz.1::fz zz.2.1::own bC 4 eX (aY (cv xc) (az [xa]))::L) (fun zz=>(fN (⟨⟨cv xc,xa.xs,xg.toNat,xl⟩,xy⟩:WV))=nh (⟨⟨cv zz.1,zz.2.1.xs,zz.2.2.1.toNat,zz.2.2.2⟩,xy⟩:WV) (aY (cv xc) (az [xa]))∧dq (⟨⟨cv zz.1,zz.2.1.xs,zz.2.2.1.toNat,zz.2.2.2⟩,xy⟩:WV)∧j9 (cv zz.1) (aY (cv xc) (az [xa]))) ?_ ?_
 ·
  refine Gc ?_
  iterate 2 refine Gs ?_
  refine dQ (bX rfl ⟨show(aY (cv xc) (az [xa])).length≤1000000 by omega,fJ⟩) ?_
  refine Gs ?_
  refine ae (aU (v:= .int .i64 ((iI (aY (cv xc) (az [xa])) xc.ag).1)) rfl rfl) ?_
  refine ae (aU (v:= .bool ((iI (aY (cv xc) (az [xa])) xc.ag).2)) rfl rfl) ?_
  iterate 2 refine Gs ?_
  refine Gc ?_
  iterate 2 refine Gs ?_
  refine dG rfl rfl rfl (fun hg=>(Ry.yl (bl rfl))) ?_
  refine dG rfl rfl rfl (fun hg=>bX (cg (av hg rfl) dO) xZ) ?_
  refine dG rfl rfl rfl (fun hg=>(Ry.yl (fU (av hg rfl)))) ?_
  refine Gs ?_
  refine Gc ?_
  refine aq rfl (fun h0=> ?_) (fun h0=> ?_)
  ·
   replace h0:=bz h0
   have hv:=Pf h0.1
   refine Gc ?_
   iterate 3 refine Gs ?_
   refine bp rfl ⟨fD,nw,hv.1,hv.2⟩ fun jg sQ=> ?_
   refine Gs ?_
   refine Gc ?_
   iterate 2 refine Gs ?_
   refine Gc ?_
   refine aq rfl (fun h1=> ?_) (fun h1=> ?_)
   ·
    replace h1:=bz h1
    have hE:(fN (⟨⟨cv xc,xa.xs,xg.toNat,xl⟩,xy⟩:WV))=(iJ (⟨⟨cv xc,xa.xs,xg.toNat,xl⟩,xy⟩:WV) (aY (cv xc) (az [xa])) (iI (aY (cv xc) (az [xa])) xc.ag).1):=by rw[EC,if_pos h0,if_pos h1]
    refine Gc ?_
    iterate 2 refine Gs ?_
    refine Gc ?_
    refine an (.inl rfl) (aK rfl (al rfl)) (fun w1 hw=> ?_)
    exact⟨(jg.1,jg.2.1,jg.2.2.1,jg.2.2.2),by rw[hE],by rw[hE];exact sQ,ah.mem hw⟩
   ·
    replace h1:=bz h1
    have dz:(iJ (⟨⟨cv xc,xa.xs,xg.toNat,xl⟩,xy⟩:WV) (aY (cv xc) (az [xa])) (iI (aY (cv xc) (az [xa])) xc.ag).1).2=6:=h1
    obtain⟨r1,r2,r3⟩:=IC (i:=(iI (aY (cv xc) (az [xa])) xc.ag).1) fD nw
    refine Gi ?_
    exact pD (jg.1,jg.2.1,jg.2.2.1,jg.2.2.2) ⟨by rw[EC,if_pos h0,if_neg (fun h=>h dz),←sQ],by rw[sQ];exact r1.ok,nw.jt (by have:=r1.jt;rw[←sQ]at this;exact this) (by have:=r3 dz;rw[←sQ]at this;exact this)⟩ (Sub.cons rfl (Sub.cons rfl (Sub.nil _))) (fun w hw=>ah.mem hw)
  ·
   replace h0:=bz h0
   have qm: ¬((iI (aY (cv xc) (az [xa])) xc.ag).2=true∧vI xg.toNat=false):=fun g=>h0.elim (fun h=>absurd (h.symm.trans g.1) (by simp)) (fun h=>absurd (h.symm.trans g.2) (by simp))
   refine Gi ?_
   exact pD (xc,xa,xg,xl) ⟨by rw[EC,if_neg qm],fD,nw⟩ (Sub.cons rfl (Sub.cons rfl (Sub.nil _))) (fun w hw=>ah.mem hw)
 ·
  rintro⟨c,a,g,m⟩ ⟨ri,wi,EA⟩
  dsimp only
  simp only at ri wi EA
  have hc4:4≤(cv c).blocks.length:=wi.qc
  have hdc:=kL (show bg (cv c)=true from wi.ai)
  refine Gc ?_
  refine Gs ?_
  refine ae (DZ rfl) ?_
  refine bp rfl (by omega) fun x39 aet=> ?_
  refine Gs ?_
  refine Gc ?_
  iterate 6 refine Gs ?_
  refine ae (Ry.to (v':= .int .i64 c.ag) (bl rfl) rfl) ?_
  iterate 2 refine Gs ?_
  refine ae (aU (v:= .int .i64 ((fx (cB (nV c.ag) (aY (cv xc) (az [xa]))) c.ag).1)) rfl rfl) ?_
  refine ae (aU (v:= .bool ((fx (cB (nV c.ag) (aY (cv xc) (az [xa]))) c.ag).2)) rfl rfl) ?_
  iterate 2 refine Gs ?_
  refine Gc ?_
  iterate 2 refine Gs ?_
  refine Gc ?_
  refine aq rfl (fun h2=> ?_) (fun h2=> ?_)
  ·
   replace h2:=bz h2
   have hE:nh (⟨⟨cv c,a.xs,g.toNat,m⟩,xy⟩:WV) (aY (cv xc) (az [xa]))=((⟨⟨cv c,a.xs,g.toNat,m⟩,xy⟩:WV),6):=by
    rw[nh]
    exact if_pos (show(fx (cB (nV c.ag) (aY (cv xc) (az [xa]))) c.ag).2=false from h2)
   refine Gc ?_
   refine Gs ?_
   refine Gc ?_
   refine an (.inl rfl) (aK rfl (al rfl)) (fun w1 hw=> ?_)
   exact⟨(c,a,g,m),by rw[ri,hE],by rw[ri,hE],ah.mem hw⟩
  ·
   replace h2:=bz h2
   have kR:=sk EA (fun x h=>(tX h).1) (show(fx (cB (nV c.ag) (aY (cv xc) (az [xa]))) c.ag).2=true from h2)
   change 0≤(fx (cB (nV c.ag) (aY (cv xc) (az [xa]))) c.ag).1∧(fx (cB (nV c.ag) (aY (cv xc) (az [xa]))) c.ag).1<_∧_ at kR
   have hE:nh (⟨⟨cv c,a.xs,g.toNat,m⟩,xy⟩:WV) (aY (cv xc) (az [xa]))=((⟨⟨cv c,a.xs,g.toNat,m⟩,xy⟩:WV).on (dU (cv c) ((fx (cB (nV c.ag) (aY (cv xc) (az [xa]))) c.ag).1+2)).1,kp (dU (cv c) ((fx (cB (nV c.ag) (aY (cv xc) (az [xa]))) c.ag).1+2)).2):=by
    rw[nh]
    exact if_neg (fun g=>absurd ((show(fx (cB (nV c.ag) (aY (cv xc) (az [xa]))) c.ag).2=true from h2).symm.trans g) (by simp))
   refine Gc ?_
   iterate 3 refine Gs ?_
   refine bp rfl ⟨wi.ai,by omega,by omega⟩ fun nx wj=> ?_
   iterate 2 refine Gs ?_
   refine Gc ?_
   refine an (.inl rfl) (aK rfl (al rfl)) (fun w1 hw=> ?_)
   exact⟨(nx,a,g,m),by rw[ri,hE],by rw[ri,hE,wj];rfl,ah.mem hw⟩
instance aeu{w0:World}{L R1 R2 L2:List aj}{i0 i1 i2:Nat}{k:Nat}{xc:Cp}{xa:Sl Int}{xg:UInt64}{xl:Int}{xy:Bool}[q0:Has L k (aR (⟨⟨xc,xa,xg,xl⟩,xy⟩:aV)) 141 i0][d0:c8 L i0 R1][q1:At R1 (fz xc) i1][d1:c8 R1 i1 R2][q2:At R2 (fz xa) i2][d2:c8 R2 i2 L2]:bW Tryz.prog 152 w0 L [.pointer (some ⟨k,0,none⟩)] (Cp×Sl Int×UInt64×Int) (fun zz=> .int .i64 ((fN (⟨⟨cv xc,xa.xs,xg.toNat,xl⟩,xy⟩:WV)).2)) (fun zz=>ar k (aR (⟨⟨zz.1,zz.2.1,zz.2.2.1,zz.2.2.2⟩,xy⟩:aV)) 141::fz zz.1::fz zz.2.1::L2) (fun zz=>(⟨⟨cv zz.1,zz.2.1.xs,zz.2.2.1.toNat,zz.2.2.2⟩,xy⟩:WV)=(fN (⟨⟨cv xc,xa.xs,xg.toNat,xl⟩,xy⟩:WV)).1) (dq (⟨⟨cv xc,xa.xs,xg.toNat,xl⟩,xy⟩:WV)):=⟨fun hp w hw=>T1 w0 w L2 k xc xa xg xl xy (vY q0.h d0.h q1.h d1.h q2.h d2.h hw) hp⟩
open Go.aL Go.Kb
open Go.RowKit
theorem T2(w0 w:World)(L:List aj)(k:Nat)(xc:Cp)(xa:Sl Int)(xg:UInt64)(xl:Int)(xy:Bool)(n:Int)(hw:Mem w0 (ar k (aR (⟨⟨xc,xa,xg,xl⟩,xy⟩:aV)) 141::fz xc::fz xa::L) w)(ba:dq (⟨⟨cv xc,xa.xs,xg.toNat,xl⟩,xy⟩:WV)):Calls Tryz.prog 126 #[.pointer (some ⟨k,0,none⟩), .int .i64 n] w fun e w'=> ∃zz:Cp×Sl Int×UInt64×Int×Bool,e= .returned (.int .i64 ((ni (⟨⟨cv xc,xa.xs,xg.toNat,xl⟩,xy⟩:WV) n).2))∧((⟨⟨cv zz.1,zz.2.1.xs,zz.2.2.1.toNat,zz.2.2.2.1⟩,zz.2.2.2.2⟩:WV)=(ni (⟨⟨cv xc,xa.xs,xg.toNat,xl⟩,xy⟩:WV) n).1)∧Mem w0 (ar k (aR (⟨⟨zz.1,zz.2.1,zz.2.2.1,zz.2.2.2.1⟩,zz.2.2.2.2⟩:aV)) 141::fz zz.1::fz zz.2.1::L) w':=by
 refine jH (args:=[_,_]) Tryz.func126 rfl Tryz.ntmps126 rfl hw ?_
 change Cw _ _ _ _ _ [(0, .pointer (some ⟨k,0,none⟩)),(1, .int .i64 n)] (ar k (aR (⟨⟨xc,xa,xg,xl⟩,xy⟩:aV)) 141::fz xc::fz xa::L)
 refine Gc ?_
 refine Gs ?_
 refine Gc ?_
 refine bK (X:=Nat×Cp×Sl Int×UInt64×Int) (fun zz=>[(0, .pointer (some ⟨k,0,none⟩)),(1, .int .i64 n)]) (fun zz=>ar k (aR (⟨⟨zz.2.1,zz.2.2.1,zz.2.2.2.1,zz.2.2.2.2⟩,xy⟩:aV)) 141::fz zz.2.1::fz zz.2.2.1::L) (fun zz=>(ni (⟨⟨cv xc,xa.xs,xg.toNat,xl⟩,xy⟩:WV) n)=ue zz.1 (⟨⟨cv zz.2.1,zz.2.2.1.xs,zz.2.2.2.1.toNat,zz.2.2.2.2⟩,xy⟩:WV) n∧dq (⟨⟨cv zz.2.1,zz.2.2.1.xs,zz.2.2.2.1.toNat,zz.2.2.2.2⟩,xy⟩:WV)∧(dJ -(cv zz.2.1).ops).toNat<zz.1) (fun zz=>zz.1) ((dJ -(cv xc).ops).toNat+1,xc,xa,xg,xl) ⟨rfl,ba,by simp only;omega⟩ (Sub.cons rfl (Sub.cons rfl (Sub.nil _))) (fun w hw=>ah.mem hw) ?_
 rintro⟨m,c,a,g,q⟩ ⟨bb,aH,bu⟩
 dsimp only
 simp only at bb aH bu
 obtain⟨r,rfl⟩: ∃r,m=r+1:=⟨m -1,by omega⟩
 have hk:bg (cv c)=true:=aH.ai
 have wg:4≤(cv c).blocks.length:=aH.qc
 have oc:oX (cv c) a.xs:=(show gK (cv c) a.xs from aH.qS).kn hk (by omega) (by have:a.xs.length≤64:=aH.qb;omega)
 have AQ:q=0∨q=1:=aH.last
 have bH:(ni (⟨⟨cv xc,xa.xs,xg.toNat,xl⟩,xy⟩:WV) n)=(if n≤(ma (cv c) a.xs).1 then((⟨⟨cv c,a.xs,g.toNat,q⟩,xy⟩:WV),0)else if n≤(ma (cv c) a.xs).2∧sh (cv c) q<2 then({(⟨⟨cv c,a.xs,g.toNat,q⟩,xy⟩:WV)with beyond:=true},0)else if(fN (⟨⟨cv c,a.xs,g.toNat,q⟩,xy⟩:WV)).2=0 then ue r (fN (⟨⟨cv c,a.xs,g.toNat,q⟩,xy⟩:WV)).1 n else if(fN (⟨⟨cv c,a.xs,g.toNat,q⟩,xy⟩:WV)).2≠6 then(fN (⟨⟨cv c,a.xs,g.toNat,q⟩,xy⟩:WV))else if n≤(ma (cv c) a.xs).2 then({(fN (⟨⟨cv c,a.xs,g.toNat,q⟩,xy⟩:WV)).1 with beyond:=true},0)else((fN (⟨⟨cv c,a.xs,g.toNat,q⟩,xy⟩:WV)).1,5)):=by rw[bb,ue]
 refine Gc ?_
 refine Gs ?_
 refine dQ (bX rfl oc) ?_
 refine Gs ?_
 refine ae (aU (v:= .int .i64 ((ma (cv c) a.xs).1)) rfl rfl) ?_
 refine ae (aU (v:= .int .i64 ((ma (cv c) a.xs).2)) rfl rfl) ?_
 iterate 2 refine Gs ?_
 refine Gc ?_
 iterate 3 refine Gs ?_
 refine Gc ?_
 refine aq rfl (fun h0=> ?_) (fun h0=> ?_)
 ·
  replace h0:=bz h0
  have hE:(ni (⟨⟨cv xc,xa.xs,xg.toNat,xl⟩,xy⟩:WV) n)=((⟨⟨cv c,a.xs,g.toNat,q⟩,xy⟩:WV),0):=by rw[bH,if_pos h0]
  refine Gc ?_
  refine Gs ?_
  refine Gc ?_
  refine an (.inl rfl) (aK rfl (al rfl)) (fun w1 hw=> ?_)
  exact⟨(c,a,g,q,xy),by rw[hE],by rw[hE],ah.mem hw⟩
 ·
  replace h0:=bz h0
  refine Gc ?_
  iterate 4 refine Gs ?_
  refine Gg ?_
  refine dG rfl rfl rfl (fun hg=>bX (cg (av hg rfl) dO) ⟨hk,by omega,AQ⟩) ?_
  refine Gg ?_
  refine Gs ?_
  refine Gc ?_
  refine aq rfl (fun h1=> ?_) (fun h1=> ?_)
  ·
   replace h1:=bz h1
   have hE:(ni (⟨⟨cv xc,xa.xs,xg.toNat,xl⟩,xy⟩:WV) n)=({(⟨⟨cv c,a.xs,g.toNat,q⟩,xy⟩:WV)with beyond:=true},0):=by rw[bH,if_neg h0,if_pos h1]
   refine Gc ?_
   iterate 3 refine Gs ?_
   refine dM (cs':=aR (⟨⟨c,a,g,q⟩,true⟩:aV)) rfl rfl (by show 9<10;decide) (by first|rfl|exact Sv.one _) rfl ?_
   refine Gc ?_
   refine Gs ?_
   refine Gc ?_
   refine an (.inl rfl) (aK rfl (al rfl)) (fun w1 hw=> ?_)
   exact⟨(c,a,g,q,true),by rw[hE],by rw[hE],ah.mem hw⟩
  ·
   replace h1:=bz h1
   have dz: ¬(n≤(ma (cv c) a.xs).2∧sh (cv c) q<2):=fun g=>h1.elim (fun h=>h g.1) (fun h=>h g.2)
   refine Gc ?_
   refine Gs ?_
   refine bp rfl aH fun da lF=> ?_
   obtain⟨k1,k2⟩:=IE aH
   refine Gs ?_
   refine Gc ?_
   iterate 3 refine Gs ?_
   refine Gc ?_
   refine aq rfl (fun h2=> ?_) (fun h2=> ?_)
   ·
    replace h2:=bz h2
    refine Gi ?_
    refine LW rfl ?_
    iterate 2 refine Gi ?_
    have ez:(fN (⟨⟨cv c,a.xs,g.toNat,q⟩,xy⟩:WV)).2=0:=h2
    have ho:(cv c).ops<(fN (⟨⟨cv c,a.xs,g.toNat,q⟩,xy⟩:WV)).1.v.ai.ops:=k2 ez
    rw[←lF]at ho
    have hle:=si (show bg (cv da.1)=true by have:=k1.ok.ai;rw[←lF]at this;exact this)
    change(cv c).ops<(cv da.1).ops at ho
    exact bh (x:=(r+1,c,a,g,q)) (r,da.1,da.2.1,da.2.2.1,da.2.2.2) ⟨by rw[bH,if_neg h0,if_neg dz,if_pos ez,←lF],by have:=k1.ok;rw[←lF]at this;exact this,by simp only;omega⟩ (by simp only;omega) (Sub.cons rfl (Sub.cons rfl (Sub.nil _))) (fun w hw=>ah.mem hw)
   ·
    replace h2:=bz h2
    have ez: ¬(fN (⟨⟨cv c,a.xs,g.toNat,q⟩,xy⟩:WV)).2=0:=h2
    refine Gc ?_
    iterate 3 refine Gs ?_
    refine Gc ?_
    refine aq rfl (fun h3=> ?_) (fun h3=> ?_)
    ·
     replace h3:=bz h3
     have hE:(ni (⟨⟨cv xc,xa.xs,xg.toNat,xl⟩,xy⟩:WV) n)=(fN (⟨⟨cv c,a.xs,g.toNat,q⟩,xy⟩:WV)):=by rw[bH,if_neg h0,if_neg dz,if_neg ez,if_pos h3]
     refine Gc ?_
     iterate 2 refine Gs ?_
     refine Gc ?_
     refine an (.inl rfl) (aK rfl (al rfl)) (fun w1 hw=> ?_)
     exact⟨(da.1,da.2.1,da.2.2.1,da.2.2.2,xy),by rw[hE],by rw[hE];exact lF,ah.mem hw⟩
    ·
     replace h3:=bz h3
     have mO: ¬(fN (⟨⟨cv c,a.xs,g.toNat,q⟩,xy⟩:WV)).2≠6:=fun h=>h h3
     refine Gc ?_
     iterate 4 refine Gs ?_
     refine Gc ?_
     refine aq rfl (fun h4=> ?_) (fun h4=> ?_)
     ·
      replace h4:=bz h4
      have hE:(ni (⟨⟨cv xc,xa.xs,xg.toNat,xl⟩,xy⟩:WV) n)=({(fN (⟨⟨cv c,a.xs,g.toNat,q⟩,xy⟩:WV)).1 with beyond:=true},0):=by rw[bH,if_neg h0,if_neg dz,if_neg ez,if_neg mO,if_pos h4]
      refine Gc ?_
      iterate 3 refine Gs ?_
      refine dM (cs':=aR (⟨⟨da.1,da.2.1,da.2.2.1,da.2.2.2⟩,true⟩:aV)) rfl rfl (by show 9<10;decide) (by first|rfl|exact Sv.one _) rfl ?_
      refine Gc ?_
      refine Gs ?_
      refine Gc ?_
      refine an (.inl rfl) (aK rfl (al rfl)) (fun w1 hw=> ?_)
      exact⟨(da.1,da.2.1,da.2.2.1,da.2.2.2,true),by rw[hE],by rw[hE,←lF],ah.mem hw⟩
     ·
      replace h4:=bz h4
      have hE:(ni (⟨⟨cv xc,xa.xs,xg.toNat,xl⟩,xy⟩:WV) n)=((fN (⟨⟨cv c,a.xs,g.toNat,q⟩,xy⟩:WV)).1,5):=by rw[bH,if_neg h0,if_neg dz,if_neg ez,if_neg mO,if_neg h4]
      refine Gc ?_
      refine Gs ?_
      refine Gc ?_
      refine an (.inl rfl) (aK rfl (al rfl)) (fun w1 hw=> ?_)
      exact⟨(da.1,da.2.1,da.2.2.1,da.2.2.2,xy),by rw[hE],by rw[hE];exact lF,ah.mem hw⟩
instance aev{w0:World}{L R1 R2 L2:List aj}{i0 i1 i2:Nat}{k:Nat}{xc:Cp}{xa:Sl Int}{xg:UInt64}{xl:Int}{xy:Bool}{n:Int}[q0:Has L k (aR (⟨⟨xc,xa,xg,xl⟩,xy⟩:aV)) 141 i0][d0:c8 L i0 R1][q1:At R1 (fz xc) i1][d1:c8 R1 i1 R2][q2:At R2 (fz xa) i2][d2:c8 R2 i2 L2]:bW Tryz.prog 126 w0 L [.pointer (some ⟨k,0,none⟩), .int .i64 n] (Cp×Sl Int×UInt64×Int×Bool) (fun zz=> .int .i64 ((ni (⟨⟨cv xc,xa.xs,xg.toNat,xl⟩,xy⟩:WV) n).2)) (fun zz=>ar k (aR (⟨⟨zz.1,zz.2.1,zz.2.2.1,zz.2.2.2.1⟩,zz.2.2.2.2⟩:aV)) 141::fz zz.1::fz zz.2.1::L2) (fun zz=>(⟨⟨cv zz.1,zz.2.1.xs,zz.2.2.1.toNat,zz.2.2.2.1⟩,zz.2.2.2.2⟩:WV)=(ni (⟨⟨cv xc,xa.xs,xg.toNat,xl⟩,xy⟩:WV) n).1) (dq (⟨⟨cv xc,xa.xs,xg.toNat,xl⟩,xy⟩:WV)):=⟨fun hp w hw=>T2 w0 w L2 k xc xa xg xl xy n (vY q0.h d0.h q1.h d1.h q2.h d2.h hw) hp⟩
open Go.aL Go.Kb
open Go.RowKit
theorem T3(i:Int)(g:UInt64)(b:Sl UInt8)(w:World):(Instr.build 110 #[(0, .int .i64 1),(1, .int .i64 i),(2, .int .u64 (g.toNat:Int)),(3,b.sv.val)]).run Tryz.prog w= .ok (.agg (bZ ⟨1,i,g,b⟩)) w:=by
 obtain⟨⟨e,b,o,l,c,p⟩,xs⟩:=b
 unfold bZ
 cases e<;>kernel_rfl
instance (x:It):fv (mB x) 2:=⟨rfl,bF.one x⟩
def AW(k:Nat)(a:Sl Int)(g:UInt64)(T:TypeId):aj:=⟨fun b=>b=k,fun h=> ∃(c:Cp) (l:Int) (y:Bool),h k=Option.some (.cells (aR ⟨⟨c,a,g,l⟩,y⟩) T (0,0)),fun h h' e s=>by obtain⟨c,l,y,hs⟩:=s;exact⟨c,l,y,by rw[e k rfl];exact hs⟩⟩
theorem ED{w0 w:World}{L:List aj}{k:Nat}{a:Sl Int}{g:UInt64}{T:TypeId}{c:Cp}{l:Int}{y:Bool}(h:Mem w0 (ar k (aR ⟨⟨c,a,g,l⟩,y⟩) T::L) w):Mem w0 (AW k a g T::L) w:=by
 have hs:w.heap[k]? =Option.some (.cells (aR ⟨⟨c,a,g,l⟩,y⟩) T (0,0)):=h.block (i:=0) rfl
 refine⟨h.below,fun e he=> ?_,fun e he b hb=> ?_,List.pairwise_cons.2 ⟨fun x hx b hb=>(List.pairwise_cons.1 h.mr).1 x hx b hb,(List.pairwise_cons.1 h.mr).2⟩⟩
 ·
  rcases List.mem_cons.1 he with rfl|he
  ·
   exact⟨c,l,y,hs⟩
  ·
   exact h.sat e (List.mem_cons_of_mem _ he)
 ·
  rcases List.mem_cons.1 he with rfl|he
  ·
   exact h.iD _ List.mem_cons_self b hb
  ·
   exact h.iD e (List.mem_cons_of_mem _ he) b hb
section
variable {P:Program} {N:cy} {w0:World} {env:Env} {L:List aj} {d:Option Tmp} {ty:TypeId} {ps:String} {af:Array Edge} {gd:Option (Nat×Bool)}
theorem T4{t:TypeId}{x:Operand}{k i:Nat}{a:Sl Int}{g:UInt64}{T:TypeId}(hx:ev env x=some (.pointer (some ⟨k,6,none⟩)))[ht:gC P t](q:At L (AW k a g T) i):Ry P N w0 env L ⟨d, .load t x,ty,ps,af,gd⟩ a.sv.val:=uO ht hx fun w hw=>by
 obtain⟨c,l,y,hs⟩:=hw.get q.h
 simp[World.cell?,show w.heap[k]? =_ from hs,aR]
theorem T5{t:TypeId}{x:Operand}{k i:Nat}{a:Sl Int}{g:UInt64}{T:TypeId}(hx:ev env x=some (.pointer (some ⟨k,7,none⟩)))[ht:gC P t](q:At L (AW k a g T) i):Ry P N w0 env L ⟨d, .load t x,ty,ps,af,gd⟩ (.int .u64 g.toNat):=uO ht hx fun w hw=>by
 obtain⟨c,l,y,hs⟩:=hw.get q.h
 simp[World.cell?,show w.heap[k]? =_ from hs,aR]
end
instance:eC Tryz.prog 102 (.agg (mB ⟨0,⟨Sv.none,[]⟩⟩)):=⟨by kernel_rfl⟩
theorem T6(w0 w:World)(L:List aj)(k:Nat)(xc:Cp)(xa:Sl Int)(xg:UInt64)(xl:Int)(xy:Bool)(it:Sl It)[oQ:aS w0 L it](hw:Mem w0 (ar k (aR (⟨⟨xc,xa,xg,xl⟩,xy⟩:aV)) 141::fz xc::fz xa::L) w)(ba:dq (⟨⟨cv xc,xa.xs,xg.toNat,xl⟩,xy⟩:WV)∧it.xs.length≤1000000∧ ∀x∈it.xs,0≤x.id∧x.id<xa.xs.length∧x.id<64):Calls Tryz.prog 88 #[.pointer (some ⟨k,0,none⟩),it.sv.val] w fun e w'=> ∃zz:Cp×Sl Int×UInt64×Int×Bool,e= .returned (.int .i64 ((jw (⟨⟨cv xc,xa.xs,xg.toNat,xl⟩,xy⟩:WV) (it.xs.map br)).2))∧((⟨⟨cv zz.1,zz.2.1.xs,zz.2.2.1.toNat,zz.2.2.2.1⟩,zz.2.2.2.2⟩:WV)=(jw (⟨⟨cv xc,xa.xs,xg.toNat,xl⟩,xy⟩:WV) (it.xs.map br)).1)∧Mem w0 (ar k (aR (⟨⟨zz.1,zz.2.1,zz.2.2.1,zz.2.2.2.1⟩,zz.2.2.2.2⟩:aV)) 141::fz zz.1::fz zz.2.1::L) w':=by
 obtain⟨fD,la,EE⟩:=ba
 have T7:dq (⟨⟨cv xc,xa.xs,xg.toNat,xl⟩,false⟩:WV):=fD.by false
 have gm:(it.xs.map br).length=it.xs.length:=List.length_map _
 refine jH (args:=[_,_]) Tryz.func88 rfl Tryz.ntmps88 rfl hw ?_
 change Cw _ _ _ _ _ [(0, .pointer (some ⟨k,0,none⟩)),(1,it.sv.val)] (ar k (aR (⟨⟨xc,xa,xg,xl⟩,xy⟩:aV)) 141::fz xc::fz xa::L)
 refine Gc ?_
 refine Gs ?_
 refine Gc ?_
 refine Gs ?_
 refine Gc ?_
 iterate 3 refine Gs ?_
 refine Gc ?_
 refine bK (X:=Nat) (fun zz=>[(16, .int .i64 (zz:Nat)),(5, .int .i64 ((((it.xs.map br).take zz).filter fun x=>decide (0<x.2.length)).length:Nat)),(0, .pointer (some ⟨k,0,none⟩)),(1,it.sv.val),(14,it.sv.val),(15, .int .i64 (it.xs.length:Nat))]) (fun zz=>ar k (aR (⟨⟨xc,xa,xg,xl⟩,xy⟩:aV)) 141::fz xc::fz xa::L) (fun zz=>zz≤it.xs.length) (fun zz=>it.xs.length -zz) 0 (Nat.zero_le _) (Sub.cons rfl (Sub.cons rfl (Sub.cons rfl (Sub.cons rfl (Sub.cons rfl (Sub.cons rfl (Sub.nil _))))))) (fun w hw=>ah.mem hw) ?_
 rintro i bb
 refine Gc ?_
 refine Gs ?_
 refine Gc ?_
 refine aq rfl (fun h0=> ?_) (fun h0=> ?_)
 ·
  replace h0:=bz h0
  obtain⟨z,hz⟩:=get_some (xs:=it.xs) (i:=i) (by omega)
  have n5:Mb z it:=⟨List.mem_of_getElem? hz⟩
  have sU:(it.xs.map br)[i]? =Option.some (br z):=by rw[List.getElem?_map,hz];rfl
  have dN:=Pr sU
  have Ef:(((it.xs.map br).take i).filter fun x=>decide (0<x.2.length)).length≤i:=Nat.le_trans (List.length_filter_le _ _) (by rw[List.length_take];omega)
  refine Gc ?_
  refine ae (aX rfl rfl i rfl (by omega)) ?_
  refine ae (fH rfl i hz rfl) ?_
  have T8:Mb z it:=⟨List.mem_of_getElem? hz⟩
  refine bx fun b7=> ?_
  refine Gs ?_
  refine Gc ?_
  iterate 4 refine Gs ?_
  refine Gc ?_
  refine aq rfl (fun h1=> ?_) (fun h1=> ?_)
  ·
   replace h1:=bz h1
   rw[if_pos (show 0<(br z).2.length from by simp only[br];omega)]at dN
   refine Gi ?_
   iterate 3 refine Gs ?_
   refine Gc ?_
   iterate 2 refine Gs ?_
   refine Gi ?_
   exact bh (x:=(i)) (i+1) (by first|omega|(simp only[];omega)) (by first|omega|(simp only[];omega)) (Sub.cons rfl (Sub.cons (look_eq rfl (by rw[dN];rfl)) (Sub.cons rfl (Sub.cons rfl (Sub.cons rfl (Sub.cons rfl (Sub.nil _))))))) (fun w hw=>ah.mem hw)
  ·
   replace h1:=bz h1
   rw[if_neg (show ¬0<(br z).2.length from by simp only[br];omega)]at dN
   refine Gc ?_
   iterate 2 refine Gs ?_
   refine Gi ?_
   exact bh (x:=(i)) (i+1) (by first|omega|(simp only[];omega)) (by first|omega|(simp only[];omega)) (Sub.cons rfl (Sub.cons (look_eq rfl (by rw[dN,Nat.add_zero])) (Sub.cons rfl (Sub.cons rfl (Sub.cons rfl (Sub.cons rfl (Sub.nil _))))))) (fun w hw=>ah.mem hw)
 ·
  replace h0:=bz h0
  obtain rfl:i=it.xs.length:=by omega
  refine Gc ?_
  iterate 3 refine Gs ?_
  refine dM (cs':=aR (⟨⟨xc,xa,xg,xl⟩,false⟩:aV)) rfl rfl (by show 9<10;decide) (by first|rfl|exact Sv.one _) rfl ?_
  iterate 4 refine Gi ?_
  have EF:(((it.xs.map br).take it.xs.length).filter fun x=>decide (0<x.2.length)).length=((it.xs.map br).filter fun x=>decide (0<x.2.length)).length:=by rw[←gm,List.take_length]
  refine Gi ?_
  iterate 2 refine Gs ?_
  refine bp rfl T7 fun aC rf=> ?_
  have hb:=IG (l:=(it.xs.map br)) fD
  have yh:(⟨(⟨cv aC.1,aC.2.1.xs,aC.2.2.1.toNat,aC.2.2.2.1⟩:VV),aC.2.2.2.2⟩:WV)=(ka (⟨⟨cv xc,xa.xs,xg.toNat,xl⟩,xy⟩:WV) (it.xs.map br)).1:=by rw[rf,ka,vN,←gm,List.take_length]
  rw[←yh]at hb
  have uC:=hb.ok
  have T9:bg (cv aC.1)=true:=uC.ai
  have wg:4≤(cv aC.1).blocks.length:=uC.qc
  have gZ:aC.2.1.xs.length≤64:=uC.qb
  have aew:aC.2.1.xs.length=xa.xs.length:=hb.vJ
  have Ua:aC.2.2.1.toNat<281474976710656:=uC.gen
  have qn:=Ew Ua
  refine Gs ?_
  refine Gc ?_
  iterate 2 refine Gs ?_
  refine Gc ?_
  refine aq rfl (fun h2=> ?_) (fun h2=> ?_)
  ·
   replace h2:=bz h2
   have ez:(ka (⟨⟨cv xc,xa.xs,xg.toNat,xl⟩,xy⟩:WV) (it.xs.map br)).2≠0:=by rw[ka,vN,←EF];exact h2
   have hE:(jw (⟨⟨cv xc,xa.xs,xg.toNat,xl⟩,xy⟩:WV) (it.xs.map br))=(ka (⟨⟨cv xc,xa.xs,xg.toNat,xl⟩,xy⟩:WV) (it.xs.map br)):=by rw[jw,if_pos ez]
   refine Gc ?_
   iterate 2 refine Gs ?_
   refine Gc ?_
   refine an (.inl rfl) (aK rfl (al rfl)) (fun w1 hw=> ?_)
   exact⟨(aC.1,aC.2.1,aC.2.2.1,aC.2.2.2.1,aC.2.2.2.2),by rw[hE,ka,vN,←EF],by rw[hE];exact yh,ah.mem hw⟩
  ·
   replace h2:=bz h2
   have ez: ¬(ka (⟨⟨cv xc,xa.xs,xg.toNat,xl⟩,xy⟩:WV) (it.xs.map br)).2≠0:=by rw[ka,vN,←EF];exact fun h=>h h2
   refine Gc ?_
   iterate 4 refine Gs ?_
   refine ae (Ry.to (v':=aC.2.1.sv.val) (bl rfl) rfl) ?_
   refine bp rfl (by omega) fun fP xU=> ?_
   refine Gs ?_
   refine Gc ?_
   iterate 3 refine Gs ?_
   refine Gc ?_
   refine bK (X:=Nat×Cp×List Int) (fun zz=>[(44, .int .i64 (zz.1:Nat)),(0, .pointer (some ⟨k,0,none⟩)),(9,fP.val),(42,it.sv.val),(43, .int .i64 (it.xs.length:Nat))]) (fun zz=>ar k (aR (⟨⟨zz.2.1,aC.2.1,aC.2.2.1,aC.2.2.2.1⟩,aC.2.2.2.2⟩:aV)) 141::fz zz.2.1::fz aC.2.1::own bf 1 fP zz.2.2::L) (fun zz=>zz.1≤it.xs.length∧(qU (⟨⟨cv xc,xa.xs,xg.toNat,xl⟩,xy⟩:WV) (it.xs.map br))=(mJ (⟨cv aC.1,aC.2.1.xs,aC.2.2.1.toNat,aC.2.2.2.1⟩:VV) aC.2.2.2.2 ((it.xs.map br).drop zz.1) (cv zz.2.1) zz.2.2)∧bg (cv zz.2.1)=true∧eH (cv aC.1) (cv zz.2.1)∧gK (cv zz.2.1) zz.2.2∧zz.2.2.length=aC.2.1.xs.length) (fun zz=>it.xs.length -zz.1) (0,aC.1,aC.2.1.xs) ⟨Nat.zero_le _,by rw[qU,←yh];rfl,T9, .fZ _,uC.qS,rfl⟩ (Sub.cons rfl (Sub.cons rfl (Sub.cons rfl (Sub.cons rfl (Sub.cons rfl (Sub.nil _)))))) (fun w hw=>ah.mem hw) ?_
   rintro⟨j,d,zs⟩ ⟨jA,db,gM,jQ,sV,EG⟩
   dsimp only
   simp only at jA db gM jQ sV EG
   refine Gc ?_
   refine Gs ?_
   refine Gc ?_
   refine aq rfl (fun h3=> ?_) (fun h3=> ?_)
   ·
    replace h3:=bz h3
    obtain⟨z,hz⟩:=get_some (xs:=it.xs) (i:=j) (by omega)
    have n5:Mb z it:=⟨List.mem_of_getElem? hz⟩
    have aex:=EE z (List.mem_of_getElem? hz)
    obtain⟨zi,sG⟩:=get_some (xs:=zs) (i:=z.id.toNat) (by omega)
    have sU:(it.xs.map br)[j]? =Option.some (br z):=by rw[List.getElem?_map,hz];rfl
    have bH:(mJ (⟨cv aC.1,aC.2.1.xs,aC.2.2.1.toNat,aC.2.2.2.1⟩:VV) aC.2.2.2.2 ((it.xs.map br).drop j) (cv d) zs)=(if(br z).2.length=0 then(mJ (⟨cv aC.1,aC.2.1.xs,aC.2.2.1.toNat,aC.2.2.2.1⟩:VV) aC.2.2.2.2 ((it.xs.map br).drop (j+1)) (cv d) (zs.set z.id.toNat 0))else if(dL (cv d) (aC.2.1.xs++zs) aC.2.2.2.2 (je (⟨cv aC.1,aC.2.1.xs,aC.2.2.1.toNat,aC.2.2.2.1⟩:VV) (br z))).2.2≠0 then((dL (cv d) (aC.2.1.xs++zs) aC.2.2.2.2 (je (⟨cv aC.1,aC.2.1.xs,aC.2.2.1.toNat,aC.2.2.2.1⟩:VV) (br z))).1,zs,(dL (cv d) (aC.2.1.xs++zs) aC.2.2.2.2 (je (⟨cv aC.1,aC.2.1.xs,aC.2.2.1.toNat,aC.2.2.2.1⟩:VV) (br z))).2.2)else(mJ (⟨cv aC.1,aC.2.1.xs,aC.2.2.1.toNat,aC.2.2.2.1⟩:VV) aC.2.2.2.2 ((it.xs.map br).drop (j+1)) (dL (cv d) (aC.2.1.xs++zs) aC.2.2.2.2 (je (⟨cv aC.1,aC.2.1.xs,aC.2.2.1.toNat,aC.2.2.2.1⟩:VV) (br z))).1 (zs.set z.id.toNat (dL (cv d) (aC.2.1.xs++zs) aC.2.2.2.2 (je (⟨cv aC.1,aC.2.1.xs,aC.2.2.1.toNat,aC.2.2.2.1⟩:VV) (br z))).2.1))):=by
     rw[vE sU,mJ];rfl
    have dC:(az [aC.2.1,(⟨fP,zs⟩:Sl Int)])=aC.2.1.xs++zs:=Er _ _
    have wk:cA (⟨1,z.id,aC.2.2.1+1,z.body⟩:dk)=je (⟨cv aC.1,aC.2.1.xs,aC.2.2.1.toNat,aC.2.2.2.1⟩:VV) (br z):=by simp only[cA,je,br,qn]
    have uD:(dL (cv d) (az [aC.2.1,(⟨fP,zs⟩:Sl Int)]) aC.2.2.2.2 (cA (⟨1,z.id,aC.2.2.1+1,z.body⟩:dk)))=(dL (cv d) (aC.2.1.xs++zs) aC.2.2.2.2 (je (⟨cv aC.1,aC.2.1.xs,aC.2.2.1.toNat,aC.2.2.2.1⟩:VV) (br z))):=by rw[dC,wk]
    have Ub:gK (cv d) (az [aC.2.1,(⟨fP,zs⟩:Sl Int)]):=by rw[dC];exact((show gK (cv aC.1) aC.2.1.xs from uC.qS).jt jQ).append sV
    have Uc:(az [aC.2.1,(⟨fP,zs⟩:Sl Int)]).length≤1000:=by rw[dC,List.length_append];omega
    refine Gc ?_
    refine ae (aX rfl rfl j rfl (by omega)) ?_
    refine ae (fH rfl j hz rfl) ?_
    have aey:Mb z it:=⟨List.mem_of_getElem? hz⟩
    refine bx fun nu=> ?_
    refine Gs ?_
    refine Gc ?_
    iterate 4 refine Gs ?_
    refine Gc ?_
    refine aq rfl (fun h4=> ?_) (fun h4=> ?_)
    ·
     replace h4:=bz h4
     have iB:(br z).2.length=0:=by simp only[br];omega
     refine Gc ?_
     iterate 3 refine Gs ?_
     refine ae (aX rfl rfl z.id.toNat (by omega) (by omega)) ?_
     refine jU (s:=fP) (n:=1) (k:=z.id.toNat) (j:=0) (a:=zi) (a':=0) (xs:=zs) (enc:=bf) (c:=1) (v:= .int .i64 0) (by kernel_rfl) rfl rfl rfl sG (by simp[Value.cells,Value.oneCell']) rfl (by decide) (by rfl) ?_
     refine Gc ?_
     iterate 2 refine Gs ?_
     refine Gi ?_
     exact bh (x:=(j,d,zs)) (j+1,d,zs.set z.id.toNat 0) ⟨by simp only;omega,by rw[db,bH,if_pos iB],gM,jQ,fun y hy=>(List.mem_or_eq_of_mem_set hy).elim (sV y) fun hy=> .inl hy,by rw[List.length_set];exact EG⟩ (by simp only;omega) (Sub.cons rfl (Sub.cons rfl (Sub.cons rfl (Sub.cons rfl (Sub.cons rfl (Sub.nil _)))))) (fun w hw=>ah.mem hw)
    ·
     replace h4:=bz h4
     have iB: ¬(br z).2.length=0:=by simp only[br];omega
     refine Gc ?_
     refine fw [18,19] [[],[],[],[],[],[],[],[],[],[],[],[],[],[],[],[],[],[],[],[18],[18,19],[18,19],[18,19],[18,19],[18,19]] [0,1,2,3,4,5,6,7,8,9,10,11,12,13,14,15,16,17,18,19,20,21,22,23,24] [AW k aC.2.1 aC.2.2.1 141,ar nu (mB z) 102] (fun _ hw=>(ED (ah.mem hw:Mem w0 [ar k (aR (⟨⟨d,aC.2.1,aC.2.2.1,aC.2.2.2.1⟩,aC.2.2.2.2⟩:aV)) 141,ar nu (mB z) 102] _))) (by kernel_rfl) (by kernel_rfl) ?_
     refine ak rfl (au rfl) ?_
     refine ak rfl (aA (o':=0) rfl rfl) ?_
     refine ak rfl (bl rfl) ?_
     refine ak rfl (au rfl) ?_
     refine ak rfl (iV rfl) ?_
     refine ak rfl (aA (o':=0) rfl rfl) ?_
     refine ak rfl (aA (o':=7) rfl rfl) ?_
     refine ak rfl (T5 (a:=aC.2.1) (g:=aC.2.2.1) (T:=141) rfl inferInstance) ?_
     refine ak rfl (Ry.to (v':= .int .u64 ((aC.2.2.1+1).toNat:Int)) (uR (p:=aC.2.2.1.toNat) (q:=1) rfl rfl rfl rfl (by simp only[nb];omega)) (by rw[qn])) ?_
     refine ak rfl (aA (o':=1) rfl rfl) ?_
     refine ak rfl (bl rfl) ?_
     refine ak rfl (bV (v:= .agg (bZ (⟨1,z.id,aC.2.2.1+1,z.body⟩:dk))) rfl (T3 z.id (aC.2.2.1+1) z.body)) ?_
     refine ak rfl (au rfl) ?_
     refine ak rfl (iV rfl) ?_
     refine ak rfl (aA (o':=0) rfl rfl) ?_
     refine ak rfl (aA (o':=6) rfl rfl) ?_
     refine ak rfl (T4 (a:=aC.2.1) (g:=aC.2.2.1) (T:=141) rfl inferInstance) ?_
     refine ak rfl (au rfl) ?_
     refine cK rfl (GP (enc:=bP) (vals:=[aC.2.1.sv.val,fP.val]) [aC.2.1,(⟨fP,zs⟩:Sl Int)] rfl (by simp only[List.map_cons,List.map_nil,Sv.hQ];rfl) rfl (by decide) (by decide) fun AX=>⟨fun _ hw=>(ED (ah.mem hw:Mem w0 [ar k (aR (⟨⟨d,aC.2.1,aC.2.2.1,aC.2.2.2.1⟩,aC.2.2.2.2⟩:aV)) 141,ar nu (mB z) 102] _)),?_⟩)
     refine cK rfl (lT (hc:=Tz (q:=(⟨1,z.id,aC.2.2.1+1,z.body⟩:dk)) (l:=(⟨⟨false,AX,0,2,2,none⟩,[aC.2.1,(⟨fP,zs⟩:Sl Int)]⟩:Sl (Sl Int)))) rfl ⟨gM,by rw[jQ.len];omega,Ub,Uc⟩ fun EH EI=>⟨fun _ hw=>(ED (ah.mem hw:Mem w0 [ar k (aR (⟨⟨EH,aC.2.1,aC.2.2.1,aC.2.2.2.1⟩,aC.2.2.2.2⟩:aV)) 141,ar nu (mB z) 102] _)),?_⟩)
     refine ak rfl (au rfl) ?_
     refine ak rfl (aU (v:= .int .i64 ((dL (cv d) (az [aC.2.1,(⟨fP,zs⟩:Sl Int)]) aC.2.2.2.2 (cA (⟨1,z.id,aC.2.2.1+1,z.body⟩:dk))).2.1)) rfl rfl) ?_
     refine ak rfl (aU (v:= .int .i64 ((dL (cv d) (az [aC.2.1,(⟨fP,zs⟩:Sl Int)]) aC.2.2.2.2 (cA (⟨1,z.id,aC.2.2.1+1,z.body⟩:dk))).2.2)) rfl rfl) ?_
     refine ak rfl (aP rfl) ?_
     refine ak rfl (aP rfl) ?_
     refine Gc ?_
     iterate 2 refine Gs ?_
     refine Gc ?_
     refine aq rfl (fun h5=> ?_) (fun h5=> ?_)
     ·
      replace h5:=bz h5
      have mq:(dL (cv d) (aC.2.1.xs++zs) aC.2.2.2.2 (je (⟨cv aC.1,aC.2.1.xs,aC.2.2.1.toNat,aC.2.2.2.1⟩:VV) (br z))).2.2≠0:=by rw[←uD];exact h5
      have rj:(qU (⟨⟨cv xc,xa.xs,xg.toNat,xl⟩,xy⟩:WV) (it.xs.map br))=((dL (cv d) (aC.2.1.xs++zs) aC.2.2.2.2 (je (⟨cv aC.1,aC.2.1.xs,aC.2.2.1.toNat,aC.2.2.2.1⟩:VV) (br z))).1,zs,(dL (cv d) (aC.2.1.xs++zs) aC.2.2.2.2 (je (⟨cv aC.1,aC.2.1.xs,aC.2.2.1.toNat,aC.2.2.2.1⟩:VV) (br z))).2.2):=by rw[db,bH,if_neg iB,if_pos mq]
      have hE:(jw (⟨⟨cv xc,xa.xs,xg.toNat,xl⟩,xy⟩:WV) (it.xs.map br))=((⟨(⟨cv aC.1,aC.2.1.xs,aC.2.2.1.toNat,aC.2.2.2.1⟩:VV),aC.2.2.2.2⟩:WV).on (dL (cv d) (aC.2.1.xs++zs) aC.2.2.2.2 (je (⟨cv aC.1,aC.2.1.xs,aC.2.2.1.toNat,aC.2.2.2.1⟩:VV) (br z))).1,(dL (cv d) (aC.2.1.xs++zs) aC.2.2.2.2 (je (⟨cv aC.1,aC.2.1.xs,aC.2.2.1.toNat,aC.2.2.2.1⟩:VV) (br z))).2.2):=by rw[jw,if_neg ez,rj,←yh];exact if_pos mq
      refine Gc ?_
      iterate 2 refine Gs ?_
      refine Gc ?_
      refine an (.inl rfl) (aK rfl (al rfl)) (fun w1 hw=> ?_)
      exact⟨(EH,aC.2.1,aC.2.2.1,aC.2.2.2.1,aC.2.2.2.2),by rw[hE,uD],by rw[hE,EI,uD];rfl,ah.mem hw⟩
     ·
      replace h5:=bz h5
      have mq:(dL (cv d) (aC.2.1.xs++zs) aC.2.2.2.2 (je (⟨cv aC.1,aC.2.1.xs,aC.2.2.1.toNat,aC.2.2.2.1⟩:VV) (br z))).2.2=0:=by rw[←uD];exact h5
      obtain⟨p1,p2,p3,p4⟩:=Io (fl:=aC.2.1.xs++zs) (bA:=aC.2.2.2.2) (p:=je (⟨cv aC.1,aC.2.1.xs,aC.2.2.1.toNat,aC.2.2.2.1⟩:VV) (br z)) gM (by rw[jQ.len];omega)
      have p5:=p4 mq
      rw[←uD,←EI]at p1 p2
      refine Gc ?_
      iterate 4 refine Gs ?_
      refine ae (aX rfl rfl z.id.toNat (by omega) (by omega)) ?_
      refine jU (s:=fP) (n:=1) (k:=z.id.toNat) (j:=0) (a:=zi) (a':=(dL (cv d) (az [aC.2.1,(⟨fP,zs⟩:Sl Int)]) aC.2.2.2.2 (cA (⟨1,z.id,aC.2.2.1+1,z.body⟩:dk))).2.1) (xs:=zs) (enc:=bf) (c:=1) (v:= .int .i64 (dL (cv d) (az [aC.2.1,(⟨fP,zs⟩:Sl Int)]) aC.2.2.2.2 (cA (⟨1,z.id,aC.2.2.1+1,z.body⟩:dk))).2.1) (by kernel_rfl) rfl rfl rfl sG (by simp[Value.cells,Value.oneCell']) rfl (by decide) (by rfl) ?_
      refine Gc ?_
      iterate 2 refine Gs ?_
      refine Gi ?_
      exact bh (x:=(j,d,zs)) (j+1,EH,zs.set z.id.toNat (dL (cv d) (az [aC.2.1,(⟨fP,zs⟩:Sl Int)]) aC.2.2.2.2 (cA (⟨1,z.id,aC.2.2.1+1,z.body⟩:dk))).2.1) ⟨by simp only;omega,by rw[db,bH,if_neg iB,if_neg (fun h=>h mq),EI,uD],p1,jQ.trans p2,fun y hy=>by
                 rw[p2.ag,p2.len]
                 exact(List.mem_or_eq_of_mem_set hy).elim (sV y) fun hy=>hy▸ .inr (by rw[uD];exact p5),by rw[List.length_set];exact EG⟩ (by simp only;omega) (Sub.cons rfl (Sub.cons rfl (Sub.cons rfl (Sub.cons rfl (Sub.cons rfl (Sub.nil _)))))) (fun w hw=>ah.mem hw)
   ·
    replace h3:=bz h3
    obtain rfl:j=it.xs.length:=by omega
    have rj:(qU (⟨⟨cv xc,xa.xs,xg.toNat,xl⟩,xy⟩:WV) (it.xs.map br))=(cv d,zs,0):=by rw[db,←gm,List.drop_length];rfl
    have hE:(jw (⟨⟨cv xc,xa.xs,xg.toNat,xl⟩,xy⟩:WV) (it.xs.map br))=iq ((⟨(⟨cv aC.1,aC.2.1.xs,aC.2.2.1.toNat,aC.2.2.2.1⟩:VV),aC.2.2.2.2⟩:WV).on (cv d)) zs:=by rw[jw,if_neg ez,rj,←yh];simp only[ne_eq,not_true_eq_false,if_false]
    have EB:dq ((⟨(⟨cv aC.1,aC.2.1.xs,aC.2.2.1.toNat,aC.2.2.2.1⟩:VV),aC.2.2.2.2⟩:WV).on (cv d)):=uC.on gM jQ
    refine Gc ?_
    iterate 2 refine Gs ?_
    refine bp rfl EB fun AY Ud=> ?_
    refine Gs ?_
    refine Gc ?_
    refine an (.inl rfl) (aK rfl (al rfl)) (fun w1 hw=> ?_)
    exact⟨(AY.1,AY.2.1,AY.2.2.1,AY.2.2.2,aC.2.2.2.2),by rw[hE];rfl,by rw[hE];exact Ud,ah.mem hw⟩
instance aez{w0:World}{L R1 R2 L2:List aj}{i0 i1 i2:Nat}{k:Nat}{xc:Cp}{xa:Sl Int}{xg:UInt64}{xl:Int}{xy:Bool}{it:Sl It}[q0:Has L k (aR (⟨⟨xc,xa,xg,xl⟩,xy⟩:aV)) 141 i0][d0:c8 L i0 R1][q1:At R1 (fz xc) i1][d1:c8 R1 i1 R2][q2:At R2 (fz xa) i2][d2:c8 R2 i2 L2][oQ:aS w0 L2 it]:bW Tryz.prog 88 w0 L [.pointer (some ⟨k,0,none⟩),it.sv.val] (Cp×Sl Int×UInt64×Int×Bool) (fun zz=> .int .i64 ((jw (⟨⟨cv xc,xa.xs,xg.toNat,xl⟩,xy⟩:WV) (it.xs.map br)).2)) (fun zz=>ar k (aR (⟨⟨zz.1,zz.2.1,zz.2.2.1,zz.2.2.2.1⟩,zz.2.2.2.2⟩:aV)) 141::fz zz.1::fz zz.2.1::L2) (fun zz=>(⟨⟨cv zz.1,zz.2.1.xs,zz.2.2.1.toNat,zz.2.2.2.1⟩,zz.2.2.2.2⟩:WV)=(jw (⟨⟨cv xc,xa.xs,xg.toNat,xl⟩,xy⟩:WV) (it.xs.map br)).1) (dq (⟨⟨cv xc,xa.xs,xg.toNat,xl⟩,xy⟩:WV)∧it.xs.length≤1000000∧ ∀x∈it.xs,0≤x.id∧x.id<xa.xs.length∧x.id<64):=⟨fun hp w hw=>T6 w0 w L2 k xc xa xg xl xy it (vY q0.h d0.h q1.h d1.h q2.h d2.h hw) hp⟩
open Go.aL Go.Kb
open Go.RowKit
theorem Ue(w0 w:World)(L:List aj)(k:Nat)(xc:Cp)(xa:Sl Int)(xg:UInt64)(xl:Int)(xy:Bool)(n:Int)(hw:Mem w0 (ar k (aR (⟨⟨xc,xa,xg,xl⟩,xy⟩:aV)) 141::fz xc::fz xa::L) w)(ba:dq (⟨⟨cv xc,xa.xs,xg.toNat,xl⟩,xy⟩:WV)∧0≤n∧n≤64):Calls Tryz.prog 85 #[.pointer (some ⟨k,0,none⟩), .int .i64 n] w fun e w'=> ∃zz:Cp×Sl Int×UInt64×Int,e= .returned (.int .i64 ((nU (⟨⟨cv xc,xa.xs,xg.toNat,xl⟩,xy⟩:WV) n.toNat).2))∧((⟨⟨cv zz.1,zz.2.1.xs,zz.2.2.1.toNat,zz.2.2.2⟩,xy⟩:WV)=(nU (⟨⟨cv xc,xa.xs,xg.toNat,xl⟩,xy⟩:WV) n.toNat).1)∧Mem w0 (ar k (aR (⟨⟨zz.1,zz.2.1,zz.2.2.1,zz.2.2.2⟩,xy⟩:aV)) 141::fz zz.1::fz zz.2.1::L) w':=by
 obtain⟨fD,qm,uv⟩:=ba
 have hk:bg (cv xc)=true:=fD.ai
 have wg:4≤(cv xc).blocks.length:=fD.qc
 have hd:=kL hk
 have cO:(cv xc).blocks.length=xc.blocks.xs.length:=dH _
 refine jH (args:=[_,_]) Tryz.func85 rfl Tryz.ntmps85 rfl hw ?_
 change Cw _ _ _ _ _ [(0, .pointer (some ⟨k,0,none⟩)),(1, .int .i64 n)] (ar k (aR (⟨⟨xc,xa,xg,xl⟩,xy⟩:aV)) 141::fz xc::fz xa::L)
 refine Gc ?_
 refine Gs ?_
 refine Gc ?_
 iterate 5 refine Gs ?_
 refine ae (Ry.to (v':=xc.blocks.sv.val) (bl rfl) rfl) ?_
 iterate 2 refine Gs ?_
 refine Gc ?_
 refine bK (X:=Nat×Cp) (fun zz=>[(18, .int .i64 (zz.1:Nat)),(0, .pointer (some ⟨k,0,none⟩)),(1, .int .i64 n),(17, .int .i64 (xc.blocks.xs.length:Nat))]) (fun zz=>ar k (aR (⟨⟨zz.2,xa,xg,xl⟩,xy⟩:aV)) 141::fz zz.2::fz xa::L) (fun zz=>zz.1≤(cv xc).blocks.length∧(kM (cv xc).blocks.length 0 (cv xc))=kM ((cv xc).blocks.length -zz.1) (zz.1:Int) (cv zz.2)∧bg (cv zz.2)=true∧eH (cv xc) (cv zz.2)) (fun zz=>(cv xc).blocks.length -zz.1) (0,xc) ⟨Nat.zero_le _,rfl,hk, .fZ _⟩ (Sub.cons rfl (Sub.cons rfl (Sub.cons rfl (Sub.cons rfl (Sub.nil _))))) (fun w hw=>ah.mem hw) ?_
 rintro⟨i,d⟩ ⟨bb,aH,bu,cJ⟩
 dsimp only
 simp only at bb aH bu cJ
 have AS:=cJ.len
 have su:(⟨i,d⟩:Nat×Cp)=(i,d):=rfl
 refine Gc ?_
 refine Gs ?_
 refine Gc ?_
 refine aq rfl (fun h0=> ?_) (fun h0=> ?_)
 ·
  replace h0:=bz h0
  have bH:kM ((cv xc).blocks.length -i) (i:Int) (cv d)=(if vH (cv d) i=false then kM ((cv xc).blocks.length -(i+1)) ((i:Int)+1) (cv d)else if eD (cv d) i≠0∧eD (cv d) i≠9 then(jb (cv d) i,eD (cv d) i)else kM ((cv xc).blocks.length -(i+1)) ((i:Int)+1) (jb (cv d) i)):=by
   rw[show(cv xc).blocks.length -i=((cv xc).blocks.length -(i+1))+1 by omega,kM]
  refine Gc ?_
  iterate 2 refine Gs ?_
  refine Gc ?_
  iterate 2 refine Gs ?_
  refine dQ (bX rfl ⟨bu,by omega,by omega⟩) ?_
  refine Gs ?_
  refine Gc ?_
  refine aq rfl (fun h1=> ?_) (fun h1=> ?_)
  ·
   replace h1:=bz h1
   refine Gc ?_
   iterate 2 refine Gs ?_
   refine Gi ?_
   exact bh (x:=(i,d)) (i+1,d) ⟨by simp only;omega,by rw[aH,bH,if_pos h1];rfl,bu,cJ⟩ (by simp only;omega) (Sub.cons rfl (Sub.cons rfl (Sub.cons rfl (Sub.cons rfl (Sub.nil _))))) (fun w hw=>ah.mem hw)
  ·
   replace h1:=bz h1
   have dz: ¬vH (cv d) i=false:=by rw[h1];simp
   refine Gc ?_
   iterate 2 refine Gs ?_
   refine bp rfl ⟨bu,by omega,by omega⟩ fun dg oh=> ?_
   refine Gs ?_
   refine Gc ?_
   iterate 3 refine Gs ?_
   iterate 2 refine Gg ?_
   refine Gs ?_
   refine Gc ?_
   refine aq rfl (fun h2=> ?_) (fun h2=> ?_)
   ·
    replace h2:=bz h2
    have hE:(nU (⟨⟨cv xc,xa.xs,xg.toNat,xl⟩,xy⟩:WV) n.toNat)=((⟨⟨cv xc,xa.xs,xg.toNat,xl⟩,xy⟩:WV).on (jb (cv d) i),eD (cv d) i):=by
     have hz:(kM (cv xc).blocks.length 0 (cv xc))=(jb (cv d) i,eD (cv d) i):=by rw[aH,bH,if_neg dz,if_pos h2]
     rw[nU,if_pos (show(kM (cv xc).blocks.length 0 (cv xc)).2≠0 by rw[hz];exact h2.1),hz]
    refine Gc ?_
    iterate 2 refine Gs ?_
    refine Gc ?_
    refine an (.inl rfl) (aK rfl (al rfl)) (fun w1 hw=> ?_)
    exact⟨(dg,xa,xg,xl),by rw[hE],by rw[hE,oh];rfl,ah.mem hw⟩
   ·
    replace h2:=bz h2
    have ez:eD (cv d) i≠0→eD (cv d) i≠9→False:=fun ga gb=>by omega
    refine Gc ?_
    iterate 2 refine Gs ?_
    refine Gi ?_
    exact bh (x:=(i,d)) (i+1,dg) ⟨by simp only;omega,by rw[aH,bH,if_neg dz,if_neg (fun h=>ez h.1 h.2),oh];rfl,by rw[oh];exact Dd bu _,by rw[oh];exact cJ.trans (De _ _)⟩ (by simp only;omega) (Sub.cons rfl (Sub.cons rfl (Sub.cons rfl (Sub.cons rfl (Sub.nil _))))) (fun w hw=>ah.mem hw)
 ·
  replace h0:=bz h0
  obtain rfl:i=(cv xc).blocks.length:=by omega
  have hz:(kM (cv xc).blocks.length 0 (cv xc))=(cv d,0):=by rw[aH,Nat.sub_self];rfl
  refine Gc ?_
  refine Gs ?_
  refine Gc ?_
  refine bK (X:=Nat×Cp) (fun zz=>[(36, .int .i64 (zz.1:Nat)),(0, .pointer (some ⟨k,0,none⟩)),(1, .int .i64 n)]) (fun zz=>ar k (aR (⟨⟨zz.2,xa,xg,xl⟩,xy⟩:aV)) 141::fz zz.2::fz xa::L) (fun zz=>zz.1≤2∧(nU (⟨⟨cv xc,xa.xs,xg.toNat,xl⟩,xy⟩:WV) n.toNat)=sj (2 -zz.1) (zz.1:Int) ((⟨⟨cv xc,xa.xs,xg.toNat,xl⟩,xy⟩:WV).on (cv zz.2)) n.toNat∧bg (cv zz.2)=true∧eH (cv xc) (cv zz.2)) (fun zz=>2 -zz.1) (0,d) ⟨Nat.zero_le _,by rw[nU,if_neg (show ¬(kM (cv xc).blocks.length 0 (cv xc)).2≠0 by rw[hz];simp),show(kM (cv xc).blocks.length 0 (cv xc)).1=cv d by rw[hz]];rfl,bu,cJ⟩ (Sub.cons rfl (Sub.cons rfl (Sub.cons rfl (Sub.nil _)))) (fun w hw=>ah.mem hw) ?_
  rintro⟨j,e⟩ ⟨jA,db,gM,jQ⟩
  dsimp only
  simp only at jA db gM jQ
  have AS:=jQ.len
  have uu:=Dg (aO (cv e) (1 -(j:Int))).ag
  change l6 (cv e) (1 -(j:Int))<_ at uu
  have dC:fc (cv e) j<281474976710656+2∨ ¬j<2:=by
   by_cases Uf:j<2
   ·
    left;rw[fc];omega
   ·
    exact .inr Uf
  refine Gc ?_
  refine Gs ?_
  refine Gc ?_
  refine aq rfl (fun h3=> ?_) (fun h3=> ?_)
  ·
   replace h3:=bz h3
   have aeA:fc (cv e) j<281474976710656+2:=dC.resolve_right (fun h=>h (by omega))
   have EJ:(UInt64.ofNat (fc (cv e) j)).toNat=fc (cv e) j:=by rw[UInt64.toNat_ofNat'];omega
   refine Gc ?_
   iterate 2 refine Gs ?_
   refine Gc ?_
   refine oN [4,6,7,2004,2006] [[],[],[],[],[],[4],[],[4,6]] [0,1,2,3,4,5,6,7] [ar k (aR (⟨⟨e,xa,xg,xl⟩,xy⟩:aV)) 141,fz e] [(4,nN bf 1 n.toNat (List.replicate n.toNat 0)),(6,kF Tryz.prog 147)] (by kernel_rfl) (fun _ hw=>ah.mem hw) (by kernel_rfl) (by kernel_rfl) ?_
   refine ak rfl (au rfl) ?_
   refine ak rfl (au rfl) ?_
   refine nM rfl (bX rfl ⟨gM,by omega,by omega⟩) ?_
   refine ak rfl (au rfl) ?_
   refine mZ (m:=nN bf 1 n.toNat (List.replicate n.toNat 0)) rfl rfl (Se (enc:=bf) (c:=1) (n:=n.toNat) 0 rfl rfl rfl (by omega) (by omega) (by omega) (by omega)) (Cert.one (i:=6) rfl rfl rfl jZ (Cert.none rfl)) fun iO=> ?_
   change Ln _ _ _ _ _ _ _ _ (cm _ _ (Sv.val ⟨false,iO,0,n.toNat,n.toNat,none⟩)) (own bf 1 ⟨false,iO,0,n.toNat,n.toNat,none⟩ (List.replicate n.toNat 0)::_) _
   refine ak rfl (bV (v:= .agg (cn (⟨UInt64.ofNat (fc (cv e) j),⟨⟨false,iO,0,n.toNat,n.toNat,none⟩,(List.replicate n.toNat 0)⟩⟩:cL))) rfl (by rw[show(.int .u64 ((fc (cv e) j:Nat):Int):Value)= .int .u64 ((UInt64.ofNat (fc (cv e) j)).toNat:Int) by rw[EJ]];exact J3 _ _ _)) ?_
   refine mZ (m:=kF Tryz.prog 147) rfl rfl jZ (Cert.none rfl) fun b8=> ?_
   change Ln _ _ _ _ _ _ _ _ (cm _ _ (.pointer (some ⟨b8,0,none⟩))) (ar b8 (cn fo) 147::_) _
   refine cK rfl (km rfl rfl ⟨fun _ hw=>ah.mem hw,?_⟩)
   iterate 3 refine Gi ?_
   have wh:cM (⟨UInt64.ofNat (fc (cv e) j),⟨⟨false,iO,0,n.toNat,n.toNat,none⟩,(List.replicate n.toNat 0)⟩⟩:cL)=⟨fc (cv e) j,(List.replicate n.toNat 0)⟩:=by simp only[cM,EJ]
   have Ug:mb (cv e) j n.toNat=(dn (cM (⟨UInt64.ofNat (fc (cv e) j),⟨⟨false,iO,0,n.toNat,n.toNat,none⟩,(List.replicate n.toNat 0)⟩⟩:cL)) e.size):=by rw[wh];rfl
   have Uh:2 -j=(2 -(j+1))+1:=by omega
   have bH:(sj (2 -j) (j:Int) ((⟨⟨cv xc,xa.xs,xg.toNat,xl⟩,xy⟩:WV).on (cv e)) n.toNat)=(if(mb (cv e) j n.toNat).2≠0∨fy (cv e) j=0 then sj (2 -(j+1)) ((j:Int)+1) ((⟨⟨cv xc,xa.xs,xg.toNat,xl⟩,xy⟩:WV).on (cv e)) n.toNat else if(cq (cv e) j (mb (cv e) j n.toNat).1)=0 then((⟨Ae (dh (cv e) j (mb (cv e) j n.toNat).1) j n.toNat (fc (cv e) j),xy⟩:WV),(0:Int))else if(cq (cv e) j (mb (cv e) j n.toNat).1)≠9 then((⟨⟨cv xc,xa.xs,xg.toNat,xl⟩,xy⟩:WV).on (dh (cv e) j (mb (cv e) j n.toNat).1),(cq (cv e) j (mb (cv e) j n.toNat).1))else sj (2 -(j+1)) ((j:Int)+1) ((⟨⟨cv xc,xa.xs,xg.toNat,xl⟩,xy⟩:WV).on (dh (cv e) j (mb (cv e) j n.toNat).1)) n.toNat):=by
    rw[Uh,sj]
    rfl
   rw[Ug]at bH
   refine fw [7] [[],[],[],[],[],[],[],[],[7],[7],[7],[7],[7]] [0,1,2,3,4,5,6,7,8,9,10,11,12] [ar k (aR (⟨⟨e,xa,xg,xl⟩,xy⟩:aV)) 141,fz e,ar b8 (cn (⟨UInt64.ofNat (fc (cv e) j),⟨⟨false,iO,0,n.toNat,n.toNat,none⟩,(List.replicate n.toNat 0)⟩⟩:cL)) 147] (fun _ hw=>ah.mem hw) (by kernel_rfl) (by kernel_rfl) ?_
   refine ak rfl (dW rfl) ?_
   refine ak rfl (au rfl) ?_
   refine ak rfl (iV rfl) ?_
   refine ak rfl (aA (o':=0) rfl rfl) ?_
   refine ak rfl (aA (o':=0) rfl rfl) ?_
   refine ak rfl (aA (o':=1) rfl rfl) ?_
   refine ak rfl (Ry.to (v':= .int .i64 e.size) (bl rfl) rfl) ?_
   refine cK rfl (lT rfl trivial fun Ui aeB=>⟨fun _ hw=>ah.mem hw,?_⟩)
   refine ak rfl (au rfl) ?_
   refine ak rfl (aU (v:=Ui.val) rfl rfl) ?_
   refine ak rfl (aU (v:= .int .i64 ((dn (cM (⟨UInt64.ofNat (fc (cv e) j),⟨⟨false,iO,0,n.toNat,n.toNat,none⟩,(List.replicate n.toNat 0)⟩⟩:cL)) e.size).2)) rfl rfl) ?_
   refine ak rfl (aP rfl) ?_
   refine ak rfl (aP rfl) ?_
   refine Gc ?_
   iterate 3 refine Gs ?_
   iterate 2 refine Gg ?_
   refine bD rfl rfl rfl (fun hg=>bX (cg (av hg rfl) (cg (av hg rfl) dO)) ⟨gM,by omega,by omega⟩) ?_
   refine Gg ?_
   refine Gs ?_
   refine Gc ?_
   refine aq rfl (fun h4=> ?_) (fun h4=> ?_)
   ·
    replace h4:=bz h4
    have iB:(dn (cM (⟨UInt64.ofNat (fc (cv e) j),⟨⟨false,iO,0,n.toNat,n.toNat,none⟩,(List.replicate n.toNat 0)⟩⟩:cL)) e.size).2≠0∨fy (cv e) j=0:=h4
    refine Gc ?_
    iterate 2 refine Gs ?_
    refine Gi ?_
    exact bh (x:=(j,e)) (j+1,e) ⟨by simp only;omega,by rw[db,bH,if_pos iB];rfl,gM,jQ⟩ (by simp only;omega) (Sub.cons rfl (Sub.cons rfl (Sub.cons rfl (Sub.nil _)))) (fun w hw=>ah.mem hw)
   ·
    replace h4:=bz h4
    have iB: ¬((dn (cM (⟨UInt64.ofNat (fc (cv e) j),⟨⟨false,iO,0,n.toNat,n.toNat,none⟩,(List.replicate n.toNat 0)⟩⟩:cL)) e.size).2≠0∨fy (cv e) j=0):=fun h=>h.elim (fun g=>g h4.1) h4.2
    refine Gc ?_
    iterate 3 refine Gs ?_
    refine bp rfl ⟨gM,by omega,by omega⟩ fun sW yi=> ?_
    refine Gs ?_
    refine Gc ?_
    iterate 2 refine Gs ?_
    refine Gc ?_
    refine aq rfl (fun h5=> ?_) (fun h5=> ?_)
    ·
     replace h5:=bz h5
     have mq:(cq (cv e) j (dn (cM (⟨UInt64.ofNat (fc (cv e) j),⟨⟨false,iO,0,n.toNat,n.toNat,none⟩,(List.replicate n.toNat 0)⟩⟩:cL)) e.size).1)=0:=h5
     have hE:(nU (⟨⟨cv xc,xa.xs,xg.toNat,xl⟩,xy⟩:WV) n.toNat)=((⟨Ae (dh (cv e) j (dn (cM (⟨UInt64.ofNat (fc (cv e) j),⟨⟨false,iO,0,n.toNat,n.toNat,none⟩,(List.replicate n.toNat 0)⟩⟩:cL)) e.size).1) j n.toNat (fc (cv e) j),xy⟩:WV),0):=by rw[db,bH,if_neg iB,if_pos mq]
     refine Gi ?_
     refine fw [11,15,19,1003,1004,1009,1010,1013,1014,1017,1018] [[],[],[],[],[3],[],[],[],[3,4],[3,4],[3,4,9],[3,4,9,10],[3,4,9,10,11],[3,4,9,10,11],[3,4,9,10,11,13],[3,4,9,10,11,13,14],[3,4,9,10,11,13,14,15],[3,4,9,10,11,13,14,15],[3,4,9,10,11,13,14,15,17],[3,4,9,10,11,13,14,15,17,18]] [0,1,2,3,4,5,6,7,8,9,10,11,12,13,14,15,16,17,18,19] [ar b8 (cn (⟨UInt64.ofNat (fc (cv e) j),⟨⟨false,iO,0,n.toNat,n.toNat,none⟩,(List.replicate n.toNat 0)⟩⟩:cL)) 147] (fun _ hw=>ah.mem hw) (by kernel_rfl) (by kernel_rfl) ?_
     refine ak rfl (au rfl) ?_
     refine ak rfl (au rfl) ?_
     refine ak rfl (au rfl) ?_
     refine jo rfl (aA (o':=1) rfl rfl) ?_
     refine jo rfl (bl rfl) ?_
     refine ak rfl (aA (o':=0) rfl rfl) ?_
     refine ak rfl (bl rfl) ?_
     refine ak rfl (au rfl) ?_
     refine ak rfl (iV rfl) ?_
     refine jo rfl (aA (o':=0) rfl rfl) ?_
     refine jo rfl (aA (o':=6) rfl rfl) ?_
     refine cK rfl (tI (cs':=aR (⟨⟨sW,⟨⟨false,iO,0,n.toNat,n.toNat,none⟩,(List.replicate n.toNat 0)⟩,xg,xl⟩,xy⟩:aV)) rfl rfl (by show 6<10;decide) (by first|rfl|exact Sv.one _) rfl ⟨fun _ hw=>ah.mem hw,?_⟩)
     refine ak rfl (iV rfl) ?_
     refine jo rfl (aA (o':=0) rfl rfl) ?_
     refine jo rfl (aA (o':=7) rfl rfl) ?_
     refine cK rfl (tI (cs':=aR (⟨⟨sW,⟨⟨false,iO,0,n.toNat,n.toNat,none⟩,(List.replicate n.toNat 0)⟩,(UInt64.ofNat (fc (cv e) j)),xl⟩,xy⟩:aV)) rfl rfl (by show 7<10;decide) (by first|rfl|exact Sv.one _) rfl ⟨fun _ hw=>ah.mem hw,?_⟩)
     refine ak rfl (iV rfl) ?_
     refine jo rfl (aA (o':=0) rfl rfl) ?_
     refine jo rfl (aA (o':=8) rfl rfl) ?_
     refine cK rfl (tI (cs':=aR (⟨⟨sW,⟨⟨false,iO,0,n.toNat,n.toNat,none⟩,(List.replicate n.toNat 0)⟩,(UInt64.ofNat (fc (cv e) j)),((j:Nat):Int)⟩,xy⟩:aV)) rfl rfl (by show 8<10;decide) (by first|rfl|exact Sv.one _) rfl ⟨fun _ hw=>ah.mem hw,?_⟩)
     refine Gc ?_
     refine Gs ?_
     refine Gc ?_
     refine an (.inl rfl) (aK rfl (al rfl)) (fun w1 hw=> ?_)
     exact⟨(sW,⟨⟨false,iO,0,n.toNat,n.toNat,none⟩,(List.replicate n.toNat 0)⟩,UInt64.ofNat (fc (cv e) j),(j:Int)),by rw[hE],by rw[hE,yi,Ae];simp only[EJ],ah.mem (tN (a:=⟨⟨false,iO,0,n.toNat,n.toNat,none⟩,(List.replicate n.toNat 0)⟩) (ah.mem hw:Mem w0 (own bf 1 ⟨false,iO,0,n.toNat,n.toNat,none⟩ (List.replicate n.toNat 0)::ar k (aR (⟨⟨sW,⟨⟨false,iO,0,n.toNat,n.toNat,none⟩,(List.replicate n.toNat 0)⟩,(UInt64.ofNat (fc (cv e) j)),(j:Int)⟩,xy⟩:aV)) 141::fz sW::L) _))⟩
    ·
     replace h5:=bz h5
     have mq: ¬(cq (cv e) j (dn (cM (⟨UInt64.ofNat (fc (cv e) j),⟨⟨false,iO,0,n.toNat,n.toNat,none⟩,(List.replicate n.toNat 0)⟩⟩:cL)) e.size).1)=0:=h5
     refine Gc ?_
     iterate 2 refine Gs ?_
     refine Gc ?_
     refine aq rfl (fun h6=> ?_) (fun h6=> ?_)
     ·
      replace h6:=bz h6
      have hE:(nU (⟨⟨cv xc,xa.xs,xg.toNat,xl⟩,xy⟩:WV) n.toNat)=((⟨⟨cv xc,xa.xs,xg.toNat,xl⟩,xy⟩:WV).on (dh (cv e) j (dn (cM (⟨UInt64.ofNat (fc (cv e) j),⟨⟨false,iO,0,n.toNat,n.toNat,none⟩,(List.replicate n.toNat 0)⟩⟩:cL)) e.size).1),(cq (cv e) j (dn (cM (⟨UInt64.ofNat (fc (cv e) j),⟨⟨false,iO,0,n.toNat,n.toNat,none⟩,(List.replicate n.toNat 0)⟩⟩:cL)) e.size).1)):=by rw[db,bH,if_neg iB,if_neg mq,if_pos (show(cq (cv e) j (dn (cM (⟨UInt64.ofNat (fc (cv e) j),⟨⟨false,iO,0,n.toNat,n.toNat,none⟩,(List.replicate n.toNat 0)⟩⟩:cL)) e.size).1)≠9 from h6)]
      refine Gc ?_
      iterate 2 refine Gs ?_
      refine Gc ?_
      refine an (.inl rfl) (aK rfl (al rfl)) (fun w1 hw=> ?_)
      exact⟨(sW,xa,xg,xl),by rw[hE],by rw[hE,yi];rfl,ah.mem hw⟩
     ·
      replace h6:=bz h6
      refine Gc ?_
      iterate 2 refine Gs ?_
      refine Gi ?_
      exact bh (x:=(j,e)) (j+1,sW) ⟨by simp only;omega,by rw[db,bH,if_neg iB,if_neg mq,if_neg (fun h=>h h6),yi];rfl,by rw[yi];exact lg gM _ _,by rw[yi];exact jQ.trans (l5 _ _ _)⟩ (by simp only;omega) (Sub.cons rfl (Sub.cons rfl (Sub.cons rfl (Sub.nil _)))) (fun w hw=>ah.mem hw)
  ·
   replace h3:=bz h3
   obtain rfl:j=2:=by omega
   have hE:(nU (⟨⟨cv xc,xa.xs,xg.toNat,xl⟩,xy⟩:WV) n.toNat)=((⟨⟨cv xc,xa.xs,xg.toNat,xl⟩,xy⟩:WV).on (cv e),9):=by rw[db];rfl
   refine Gc ?_
   refine Gs ?_
   refine Gc ?_
   refine an (.inl rfl) (aK rfl (al rfl)) (fun w1 hw=> ?_)
   exact⟨(e,xa,xg,xl),by rw[hE],by rw[hE];rfl,ah.mem hw⟩
instance aeC{w0:World}{L R1 R2 L2:List aj}{i0 i1 i2:Nat}{k:Nat}{xc:Cp}{xa:Sl Int}{xg:UInt64}{xl:Int}{xy:Bool}{n:Int}[q0:Has L k (aR (⟨⟨xc,xa,xg,xl⟩,xy⟩:aV)) 141 i0][d0:c8 L i0 R1][q1:At R1 (fz xc) i1][d1:c8 R1 i1 R2][q2:At R2 (fz xa) i2][d2:c8 R2 i2 L2]:bW Tryz.prog 85 w0 L [.pointer (some ⟨k,0,none⟩), .int .i64 n] (Cp×Sl Int×UInt64×Int) (fun zz=> .int .i64 ((nU (⟨⟨cv xc,xa.xs,xg.toNat,xl⟩,xy⟩:WV) n.toNat).2)) (fun zz=>ar k (aR (⟨⟨zz.1,zz.2.1,zz.2.2.1,zz.2.2.2⟩,xy⟩:aV)) 141::fz zz.1::fz zz.2.1::L2) (fun zz=>(⟨⟨cv zz.1,zz.2.1.xs,zz.2.2.1.toNat,zz.2.2.2⟩,xy⟩:WV)=(nU (⟨⟨cv xc,xa.xs,xg.toNat,xl⟩,xy⟩:WV) n.toNat).1) (dq (⟨⟨cv xc,xa.xs,xg.toNat,xl⟩,xy⟩:WV)∧0≤n∧n≤64):=⟨fun hp w hw=>Ue w0 w L2 k xc xa xg xl xy n (vY q0.h d0.h q1.h d1.h q2.h d2.h hw) hp⟩
open Go.aL Go.Kb
open Go.RowKit
theorem Uj(w:World)(b:Int)(p:Int):Calls Tryz.prog 42 #[.int .i64 b, .int .i64 p] w fun e w'=>e= .returned (.int .i64 (qV b p))∧Mem w [] w':=by
 refine aW (args:=[_,_]) Tryz.func42 rfl Tryz.ntmps42 rfl ?_
 change Cw _ _ _ _ _ [(0, .int .i64 b),(1, .int .i64 p)] []
 refine Gc ?_
 refine Gs ?_
 refine Gc ?_
 iterate 3 refine Gs ?_
 iterate 2 refine Gg ?_
 iterate 2 refine Gs ?_
 iterate 2 refine Gg ?_
 iterate 2 refine Gs ?_
 iterate 2 refine Gg ?_
 refine Gs ?_
 refine Gc ?_
 refine aq rfl (fun h0=> ?_) (fun h0=> ?_)
 ·
  replace h0:=bz h0
  have hE:qV b p=0:=if_pos (by omega)
  refine Gc ?_
  refine Gs ?_
  refine Gc ?_
  refine an (.inl rfl) (aK rfl (al rfl)) (fun w1 hw=> ?_)
  exact⟨congrArg (fun b=>Ending.returned (Value.int .i64 b)) (hE.symm),ah.mem hw⟩
 ·
  replace h0:=bz h0
  have hE:qV b p=(b -4)*p:=if_neg (by omega)
  have mL:0≤(b -4)*p:=Int.mul_nonneg (by omega) (by omega)
  have sL:(b -4)*p≤28*16:=Int.mul_le_mul (by omega) (by omega) (by omega) (by omega)
  refine Gc ?_
  iterate 3 refine Gs ?_
  refine ae (nE rfl rfl (by omega)) ?_
  refine Gs ?_
  refine Gc ?_
  refine an (.inl rfl) (aK rfl (al rfl)) (fun w1 hw=> ?_)
  exact⟨congrArg (fun b=>Ending.returned (Value.int .i64 b)) (hE.symm),ah.mem hw⟩
instance aeD{w0:World}{L:List aj}{b:Int}{p:Int}:bU Tryz.prog 42 w0 L [.int .i64 b, .int .i64 p] (.int .i64 (qV b p)) (True):=⟨fun hp w hw=>Uj w b p⟩
theorem Uk(w:World)(v:bI)(it:Sl It)(hv:Deep.bk (hp w) v)(oQ:Deep.bk (hp w) it):Calls Tryz.prog 86 #[.agg (bo v),it.sv.val] w fun e w'=>e= .returned (.bool (pb (vv v) (it.xs.map br)))∧Mem w [] w':=by
 have ur:bT w v:=⟨hv⟩
 have Ul:bT w it:=⟨oQ⟩
 have fJ:=oQ.1.bd
 have AZ:=hv.2.1.bd
 have gm:(it.xs.map br).length=it.xs.length:=List.length_map _
 refine aW (args:=[_,_]) Tryz.func86 rfl Tryz.ntmps86 rfl ?_
 change Cw _ _ _ _ _ [(0, .agg (bo v)),(1,it.sv.val)] []
 refine Gc ?_
 refine bL rfl fun b2=> ?_
 refine Gs ?_
 refine Gc ?_
 refine Jv lD nr fun uy=> ?_
 refine Gs ?_
 refine Gc ?_
 iterate 3 refine Gs ?_
 refine Gc ?_
 refine bK (X:=Nat) (fun zz=>[(13, .int .i64 (zz:Nat)),(5, .map (some uy)),(2, .pointer (some ⟨b2,0,none⟩)),(11,it.sv.val),(12, .int .i64 (it.xs.length:Nat))]) (fun zz=>[omap Tryz.prog 3 lD nr uy (qf ((it.xs.map br).map Prod.fst) zz),ar b2 (bo v) 29]) (fun zz=>zz≤it.xs.length∧ ∀j,j<zz→sr (vv v) (it.xs.map br) j=true) (fun zz=>it.xs.length -zz) 0 ⟨Nat.zero_le _,fun j hj=>by first|omega|(simp only[];omega)⟩ (Sub.cons rfl (Sub.cons rfl (Sub.cons rfl (Sub.cons rfl (Sub.cons rfl (Sub.nil _)))))) (fun w hw=>by
  rw[←Pu];exact ah.mem hw) ?_
 rintro i ⟨bb,aH⟩
 refine Gc ?_
 refine Gs ?_
 refine Gc ?_
 refine aq rfl (fun h0=> ?_) (fun h0=> ?_)
 ·
  replace h0:=bz h0
  obtain⟨z,hz⟩:=get_some (xs:=it.xs) (i:=i) (by omega)
  have n5:Mb z it:=⟨List.mem_of_getElem? hz⟩
  have sU:(it.xs.map br)[i]? =Option.some (br z):=by rw[List.getElem?_map,hz];rfl
  have rk:(it.xs.map br).getD i (0,[])=br z:=by simp[List.getD,sU]
  have Um:((it.xs.map br).map Prod.fst)[i]? =Option.some z.id:=by rw[List.getElem?_map,sU];rfl
  have w9:(sr (vv v) (it.xs.map br) i)=(sq (vv v) (br z)&& !(((it.xs.map br).map Prod.fst).take i).contains z.id):=by rw[sr,rk,List.map_take];rfl
  have mi:(sr (vv v) (it.xs.map br) i)=false→pb (vv v) (it.xs.map br)=false:=fun h=>by
   cases lC:pb (vv v) (it.xs.map br)with
   |false=>rfl
   |true=>have:=Dw.1 lC i (by omega);rw[h]at this;cases this
  have iF:sq (vv v) (br z)=true↔0≤z.id∧z.id<v.at_.xs.length∧(z.body.xs.length:Int)≤du v.ai.size:=by
   rw[sq,Bool.and_eq_true,Bool.and_eq_true,decide_eq_true_eq,decide_eq_true_eq,decide_eq_true_eq,and_assoc];rfl
  refine Gc ?_
  refine ae (aX rfl rfl i rfl (by omega)) ?_
  refine ae (fH rfl i hz rfl) ?_
  have S1:Mb z it:=⟨List.mem_of_getElem? hz⟩
  refine bx fun b7=> ?_
  refine Gs ?_
  refine Gc ?_
  refine eF (by kernel_rfl) (by kernel_rfl) ?_
  iterate 4 refine Gq ?_
  iterate 6 refine Gh ?_
  iterate 2 refine Gq ?_
  iterate 4 refine Gh ?_
  refine dB rfl rfl rfl (fun hg=>(Ry.yl (aA (o':=1) (av hg rfl) rfl))) ?_
  refine Gh ?_
  refine dB rfl rfl rfl (fun hg=>bX (cg (av hg rfl) dO) trivial) ?_
  refine Gh ?_
  refine Gq ?_
  refine Gc ?_
  refine aq rfl (fun h1=> ?_) (fun h1=> ?_)
  ·
   replace h1:=bz h1
   have hE:pb (vv v) (it.xs.map br)=false:=mi (by
    have: ¬sq (vv v) (br z)=true:=fun h=>by have:=iF.1 h;omega
    rw[w9,show sq (vv v) (br z)=false by simpa using this];rfl)
   refine Gc ?_
   refine Gs ?_
   refine Gc ?_
   refine an (.inl rfl) (aK rfl (al rfl)) (fun w1 hw=> ?_)
   exact⟨congrArg (fun b=>Ending.returned (Value.bool b)) (hE.symm),ah.mem hw⟩
  ·
   replace h1:=bz h1
   have kC:sq (vv v) (br z)=true:=iF.2 ⟨by omega,by omega,by omega⟩
   have sO:=D9 (n:=z.id) (by omega)
   refine Gc ?_
   iterate 3 refine Gs ?_
   refine ae (DW (cP:=lD) (dI:=nr) (f:=qf ((it.xs.map br).map Prod.fst) i) (v:=z.id) (z:=()) rfl rfl sO) ?_
   refine Gs ?_
   refine ae (aU (v:= .agg #[]) rfl rfl) ?_
   refine ae (aU (v:= .bool ((qf ((it.xs.map br).map Prod.fst) i z.id).isSome)) rfl rfl) ?_
   refine bx fun b8=> ?_
   iterate 2 refine Gs ?_
   refine Gc ?_
   refine Gs ?_
   refine Gc ?_
   refine aq rfl (fun h2=> ?_) (fun h2=> ?_)
   ·
    replace h2:=bz h2
    have hE:pb (vv v) (it.xs.map br)=false:=mi (by
     rw[IH]at h2
     rw[w9,kC,List.contains_eq_mem,h2];rfl)
    refine Gc ?_
    refine Gs ?_
    refine Gc ?_
    refine an (.inl rfl) (aK rfl (al rfl)) (fun w1 hw=> ?_)
    exact⟨congrArg (fun b=>Ending.returned (Value.bool b)) (hE.symm),ah.mem hw⟩
   ·
    replace h2:=bz h2
    have ct:(sr (vv v) (it.xs.map br) i)=true:=by
     rw[IH]at h2
     rw[w9,kC,List.contains_eq_mem,h2];rfl
    have dN:=Pv Um
    refine Gc ?_
    iterate 3 refine Gs ?_
    refine ae (bV (v:= .agg #[]) rfl (fun w=>by kernel_rfl)) ?_
    refine DX (cP:=lD) (dI:=nr) (v:=z.id) (u:=()) rfl rfl rfl sO ?_
    refine Gc ?_
    iterate 2 refine Gs ?_
    refine Gi ?_
    exact bh (x:=(i)) (i+1) ⟨by first|omega|(simp only[];omega),fun j hj=>if e:j=i then e▸ct else aH j (by first|omega|(simp only[];omega))⟩ (by first|omega|(simp only[];omega)) (Sub.cons rfl (Sub.cons rfl (Sub.cons rfl (Sub.cons rfl (Sub.cons rfl (Sub.nil _)))))) (fun w hw=>by
     rw[←dN];exact ah.mem hw)
 ·
  replace h0:=bz h0
  obtain rfl:i=it.xs.length:=by omega
  have hE:pb (vv v) (it.xs.map br)=true:=Dw.2 fun j hj=>aH j (by omega)
  refine Gc ?_
  refine Gs ?_
  refine Gc ?_
  refine an (.inl rfl) (aK rfl (al rfl)) (fun w1 hw=> ?_)
  exact⟨congrArg (fun b=>Ending.returned (Value.bool b)) (hE.symm),ah.mem hw⟩
instance aeE{w0:World}{L:List aj}{v:bI}{it:Sl It}[hv:aS w0 L v][oQ:aS w0 L it]:bU Tryz.prog 86 w0 L [.agg (bo v),it.sv.val] (.bool (pb (vv v) (it.xs.map br))) (True):=⟨fun hp w hw=>Uk w v it (hv.h w hw) (oQ.h w hw)⟩
theorem J9(v:bI)(w:World):(Instr.build 141 #[(0, .agg (bo v))]).run Tryz.prog w= .ok (.agg (aR ⟨v,false⟩)) w:=by
 obtain⟨⟨a1,a2,⟨a3,a4⟩,a5,a6,⟨a7,a8⟩⟩,⟨s,xs⟩,g,l⟩:=v
 unfold bo aR
 obtain⟨e,b,o,l,c,p⟩:=s
 obtain⟨e3,b3,o3,l3,c3,p3⟩:=a3
 obtain⟨e7,b7,o7,l7,c7,p7⟩:=a7
 cases e<;>cases e3<;>cases e7<;>kernel_rfl
theorem yj(c:Cp)(w:World):(Instr.build 29 #[(0, .agg (aB c))]).run Tryz.prog w= .ok (.agg (bo ⟨c,⟨Sv.none,[]⟩,0,0⟩)) w:=by
 obtain⟨a1,a2,⟨a3,a4⟩,a5,a6,⟨a7,a8⟩⟩:=c
 unfold bo aB
 obtain⟨e3,b3,o3,l3,c3,p3⟩:=a3
 obtain⟨e7,b7,o7,l7,c7,p7⟩:=a7
 cases e3<;>cases e7<;>kernel_rfl
theorem yk{w0 w:World}{L:List aj}(h:Mem w0 L w):Mem w0 (fz (⟨Sv.none,[]⟩:Sl Int)::L) w:=tN (a:=⟨Sv.none,[]⟩) (Mem.cz bf 1 h)
theorem Ka{w0 w:World}{c:Cp}{a:Sl Int}(h:Mem w0 [fz c,own bf 1 a.sv a.xs] w):Mem w0 [fz c,fz a] w:=ah.mem (tN (ah.mem h:Mem w0 [own bf 1 a.sv a.xs,fz c] w))
theorem Un(w:World)(v:bI)(it:Sl It)(hv:Deep.bk (hp w) v)(oQ:Deep.bk (hp w) it)(ba:dK v.ai∧v.at_.xs.length≤1000000∧it.xs.length≤1000000):Calls Tryz.prog 41 #[.agg (bo v),it.sv.val] w fun e w'=> ∃zz:Cp×Sl Int×UInt64×Int,e= .returned (.tuple #[.agg (bo (⟨zz.1,zz.2.1,zz.2.2.1,zz.2.2.2⟩:bI)), .int .i64 ((gv (vv v) (it.xs.map br)).2)])∧((⟨cv zz.1,zz.2.1.xs,zz.2.2.1.toNat,zz.2.2.2⟩:VV)=(gv (vv v) (it.xs.map br)).1)∧Mem w [fz zz.1,fz zz.2.1] w':=by
 have ur:bT w v:=⟨hv⟩
 have Ul:bT w it:=⟨oQ⟩
 obtain⟨kv,gZ,gm⟩:=ba
 refine aW (args:=[_,_]) Tryz.func41 rfl Tryz.ntmps41 rfl ?_
 change Cw _ _ _ _ _ [(0, .agg (bo v)),(1,it.sv.val)] []
 refine Gc ?_
 refine bL rfl fun b2=> ?_
 refine bx fun b4=> ?_
 refine Gs ?_
 refine Gc ?_
 iterate 4 refine Gs ?_
 iterate 3 refine Gg ?_
 iterate 2 refine Gs ?_
 refine bD rfl rfl rfl (fun hg=>(Ry.yl (dW rfl))) ?_
 refine Gg ?_
 refine bD rfl rfl rfl (fun hg=>bX (cg (av hg rfl) (cg (av hg rfl) dO)) trivial) ?_
 refine bD rfl rfl rfl (fun hg=>(Ry.yl (fU (av hg rfl)))) ?_
 refine Gs ?_
 refine Gc ?_
 refine aq rfl (fun h0=> ?_) (fun h0=> ?_)
 ·
  replace h0:=bz h0
  have hE:(gv (vv v) (it.xs.map br))=(vv v,1):=by
   rw[gv,if_pos]
   rintro⟨g1,g2,g3⟩
   rcases h0 with(h|h)|h
   ·
    rw[g1]at h;cases h
   ·
    change v.gen.toNat<_ at g2;omega
   ·
    rw[g3]at h;cases h
  refine Gc ?_
  refine Gs ?_
  refine bp rfl ⟨kv,gZ⟩ fun cQ n7=> ?_
  iterate 2 refine Gs ?_
  refine Gc ?_
  refine an (.inl rfl) (aZ rfl (bG rfl) (al rfl)) (fun w1 hw=> ?_)
  exact⟨(cQ.1,⟨cQ.2,v.at_.xs⟩,v.gen,v.last),by rw[hE],by rw[hE,n7];rfl,Ka (ah.mem hw)⟩
 ·
  replace h0:=bz h0
  have hq:gJ (vv v)=true∧(vv v).gen<281474976710655∧pb (vv v) (it.xs.map br)=true:=⟨h0.1.1,by show v.gen.toNat<_;omega,h0.2⟩
  have EK:dq (⟨vv v,false⟩:WV):=Dx hq.1
  have EE: ∀x∈it.xs,0≤x.id∧x.id<v.at_.xs.length:=fun x hx=>by
   obtain⟨j,hj⟩:=List.getElem?_of_mem hx
   have sU:(it.xs.map br)[j]? =Option.some (br x):=by rw[List.getElem?_map,hj];rfl
   have hg:=Dw.1 hq.2.2 j (by rw[List.length_map];exact(List.getElem?_eq_some_iff.1 hj).1)
   rw[sr,show(it.xs.map br).getD j (0,[])=br x by simp[List.getD,sU],Bool.and_eq_true,sq,Bool.and_eq_true,Bool.and_eq_true,decide_eq_true_eq,decide_eq_true_eq]at hg
   exact⟨hg.1.1.1,hg.1.1.2⟩
  have cO:(cv v.ai).blocks.length=v.ai.blocks.xs.length:=dH _
  refine Gc ?_
  iterate 3 refine Gs ?_
  refine Gc ?_
  refine aq rfl (fun h1=> ?_) (fun h1=> ?_)
  ·
   replace h1:=bz h1
   have hE:(gv (vv v) (it.xs.map br))=(vv v,7):=by rw[gv,if_neg (fun h=>h hq),if_pos (show(vv v).ai.off=true from h1)]
   refine Gc ?_
   refine Gs ?_
   refine bp rfl ⟨kv,gZ⟩ fun vV D0=> ?_
   iterate 2 refine Gs ?_
   refine Gc ?_
   refine an (.inl rfl) (aZ rfl (bG rfl) (al rfl)) (fun w1 hw=> ?_)
   exact⟨(vV.1,⟨vV.2,v.at_.xs⟩,v.gen,v.last),by rw[hE],by rw[hE,D0];rfl,Ka (ah.mem hw)⟩
  ·
   replace h1:=bz h1
   have hE:(gv (vv v) (it.xs.map br))=((qe (v.ai.blocks.xs.length+1) (⟨vv v,false⟩:WV) (it.xs.map br)).1.v,(qe (v.ai.blocks.xs.length+1) (⟨vv v,false⟩:WV) (it.xs.map br)).2):=by rw[gv,if_neg (fun h=>h hq),if_neg (show ¬(vv v).ai.off=true by rw[show(vv v).ai.off=v.ai.off from rfl,h1];simp)];rw[show(vv v).ai.blocks.length=v.ai.blocks.xs.length from cO]
   refine Gc ?_
   refine Gs ?_
   refine bp rfl ⟨kv,gZ⟩ fun ke rl=> ?_
   refine ae (bV (v:= .agg (aR (⟨⟨ke.1,⟨ke.2,v.at_.xs⟩,v.gen,v.last⟩,false⟩:aV))) rfl (J9 _)) ?_
   refine bL rfl fun iP=> ?_
   refine Gs ?_
   refine Gc ?_
   refine bK (X:=Nat×Cp×Sl Int×UInt64×Int×Bool) (fun zz=>[(6, .pointer (some ⟨iP,0,none⟩)),(1,it.sv.val),(4, .pointer (some ⟨b4,0,none⟩))]) (fun zz=>[ar iP (aR (⟨⟨zz.2.1,zz.2.2.1,zz.2.2.2.1,zz.2.2.2.2.1⟩,zz.2.2.2.2.2⟩:aV)) 141,fz zz.2.1,fz zz.2.2.1,ar b4 (bo fq) 29]) (fun zz=>(qe (v.ai.blocks.xs.length+1) (⟨vv v,false⟩:WV) (it.xs.map br))=qe zz.1 (⟨⟨cv zz.2.1,zz.2.2.1.xs,zz.2.2.2.1.toNat,zz.2.2.2.2.1⟩,zz.2.2.2.2.2⟩:WV) (it.xs.map br)∧dq (⟨⟨cv zz.2.1,zz.2.2.1.xs,zz.2.2.2.1.toNat,zz.2.2.2.2.1⟩,zz.2.2.2.2.2⟩:WV)∧zz.2.2.1.xs.length=v.at_.xs.length∧eH (cv v.ai) (cv zz.2.1)∧v.ai.blocks.xs.length<zz.1+kK (cv zz.2.1)) (fun zz=>zz.1) (v.ai.blocks.xs.length+1,ke.1,⟨ke.2,v.at_.xs⟩,v.gen,v.last,false) ⟨by rw[rl];rfl,by rw[rl];exact EK,rfl,by rw[rl];exact .fZ _,by simp only;omega⟩ (Sub.cons rfl (Sub.cons rfl (Sub.cons rfl (Sub.nil _)))) (fun w hw=>ah.mem (tN (a:=(⟨ke.2,v.at_.xs⟩:Sl Int)) (ah.mem hw:Mem _ [own bf 1 ke.2 v.at_.xs,ar iP (aR (⟨⟨ke.1,⟨ke.2,v.at_.xs⟩,v.gen,v.last⟩,false⟩:aV)) 141,fz ke.1,ar b4 (bo fq) 29] _))) ?_
   rintro⟨n,c,a,g,q,y⟩ ⟨bb,aH,bu,cJ,ya⟩
   dsimp only
   simp only at bb aH bu cJ ya
   have hbc:=Pt (cv c)
   have hlc:(cv c).blocks.length=(cv v.ai).blocks.length:=cJ.len
   have vO:a.xs.length≤64:=aH.qb
   have Uo: ∀x∈it.xs,0≤x.id∧x.id<a.xs.length∧x.id<64:=fun x hx=>by have:=EE x hx;omega
   obtain⟨r,rfl⟩: ∃r,n=r+1:=⟨n -1,by omega⟩
   refine Gc ?_
   iterate 3 refine Gs ?_
   refine Gc ?_
   iterate 2 refine Gs ?_
   refine bp rfl ⟨aH,gm,Uo⟩ fun ky sR=> ?_
   have hb:=Ps (l:=(it.xs.map br)) aH
   rw[←sR]at hb
   refine Gs ?_
   refine Gc ?_
   iterate 3 refine Gs ?_
   refine Gg ?_
   refine dG rfl rfl rfl (fun hg=>bX (cg (av hg rfl) dO) trivial) ?_
   iterate 2 refine Gg ?_
   refine Gs ?_
   refine Gc ?_
   refine aq rfl (fun h2=> ?_) (fun h2=> ?_)
   ·
    replace h2:=bz h2
    have ez:(jw (⟨⟨cv c,a.xs,g.toNat,q⟩,y⟩:WV) (it.xs.map br)).2=5∧kK (cv c)<kK (jw (⟨⟨cv c,a.xs,g.toNat,q⟩,y⟩:WV) (it.xs.map br)).1.v.ai:=⟨h2.1,by rw[←sR];show kK (cv c)<kK (cv ky.1);omega⟩
    iterate 3 refine Gi ?_
    exact bh (x:=(r+1,c,a,g,q,y)) (r,ky.1,ky.2.1,ky.2.2.1,ky.2.2.2.1,ky.2.2.2.2) ⟨by rw[bb,qe,if_pos ez,←sR],hb.ok,hb.vJ.trans bu,cJ.trans hb.jt,by have:=ez.2;rw[←sR]at this;change kK (cv c)<kK (cv ky.1)at this;simp only;omega⟩ (by simp only;omega) (Sub.cons rfl (Sub.cons rfl (Sub.cons rfl (Sub.nil _)))) (fun w hw=>ah.mem hw)
   ·
    replace h2:=bz h2
    have ez: ¬((jw (⟨⟨cv c,a.xs,g.toNat,q⟩,y⟩:WV) (it.xs.map br)).2=5∧kK (cv c)<kK (jw (⟨⟨cv c,a.xs,g.toNat,q⟩,y⟩:WV) (it.xs.map br)).1.v.ai):=by
     rw[←sR]
     rintro⟨ga,gb⟩
     change kK (cv c)<kK (cv ky.1)at gb
     rcases h2 with h|h
     ·
      exact h ga
     ·
      omega
    have Kc:(qe (v.ai.blocks.xs.length+1) (⟨vv v,false⟩:WV) (it.xs.map br))=jw (⟨⟨cv c,a.xs,g.toNat,q⟩,y⟩:WV) (it.xs.map br):=by rw[bb,qe,if_neg ez]
    refine Gc ?_
    iterate 3 refine Gs ?_
    refine ae (Ry.to (v':= .agg (bo (⟨ky.1,ky.2.1,ky.2.2.1,ky.2.2.2.1⟩:bI))) (eE rfl) rfl) ?_
    iterate 3 refine Gs ?_
    refine Gc ?_
    refine an (.inl rfl) (aZ rfl (bG rfl) (al rfl)) (fun w1 hw=> ?_)
    exact⟨(ky.1,ky.2.1,ky.2.2.1,ky.2.2.2.1),by rw[hE,Kc],by rw[hE,Kc,←sR],ah.mem hw⟩
instance aeF{w0:World}{L:List aj}{v:bI}{it:Sl It}[hv:aS w0 L v][oQ:aS w0 L it]:bW Tryz.prog 41 w0 L [.agg (bo v),it.sv.val] (Cp×Sl Int×UInt64×Int) (fun zz=> .tuple #[.agg (bo (⟨zz.1,zz.2.1,zz.2.2.1,zz.2.2.2⟩:bI)), .int .i64 ((gv (vv v) (it.xs.map br)).2)]) (fun zz=>fz zz.1::fz zz.2.1::L) (fun zz=>(⟨cv zz.1,zz.2.1.xs,zz.2.2.1.toNat,zz.2.2.2⟩:VV)=(gv (vv v) (it.xs.map br)).1) (dK v.ai∧v.at_.xs.length≤1000000∧it.xs.length≤1000000):=⟨fun hp w hw=>(Un w v it (hv.h w hw) (oQ.h w hw) hp).mono fun e w' ⟨x,h1,h2,h3⟩=>⟨x,h1,h2,hw.call h3⟩⟩
theorem Up(w:World)(c:Cp)(n:Int)(hc:Deep.bk (hp w) c)(ba:dK c):Calls Tryz.prog 40 #[.agg (aB c), .int .i64 n] w fun e w'=> ∃zz:Cp×Sl Int×UInt64×Int,e= .returned (.tuple #[.agg (bo (⟨zz.1,zz.2.1,zz.2.2.1,zz.2.2.2⟩:bI)), .int .i64 ((kN (cv c) n).2)])∧((⟨cv zz.1,zz.2.1.xs,zz.2.2.1.toNat,zz.2.2.2⟩:VV)=(kN (cv c) n).1)∧Mem w [fz zz.1,fz zz.2.1] w':=by
 have gy:bT w c:=⟨hc⟩
 have kv:dK c:=ba
 refine aW (args:=[_,_]) Tryz.func40 rfl Tryz.ntmps40 rfl ?_
 change Cw _ _ _ _ _ [(0, .agg (aB c)),(1, .int .i64 n)] []
 refine Gc ?_
 refine bL rfl fun b2=> ?_
 refine bx fun b4=> ?_
 refine Gs ?_
 refine Gc ?_
 iterate 4 refine Gs ?_
 iterate 2 refine Gg ?_
 iterate 2 refine Gs ?_
 iterate 3 refine Gg ?_
 refine bD rfl rfl rfl (fun hg=>bX (cg (av hg rfl) dO) trivial) ?_
 refine Gg ?_
 refine Gs ?_
 refine Gc ?_
 refine aq rfl (fun h0=> ?_) (fun h0=> ?_)
 ·
  replace h0:=bz h0
  have hE:(kN (cv c) n)=(⟨cv c,[],0,0⟩,1):=by
   rw[kN,if_pos]
   rintro⟨g1,g2,g3⟩
   rcases h0 with(h|h)|h
   ·
    rw[g1]at h;cases h
   ·
    omega
   ·
    change _≤fY c.size at g3;omega
  refine Gc ?_
  refine Gs ?_
  refine bp rfl (by assumption) fun lz AB=> ?_
  refine ae (bV (v:= .agg (bo (⟨lz,⟨Sv.none,[]⟩,0,0⟩:bI))) rfl (yj lz)) ?_
  iterate 2 refine Gs ?_
  refine Gc ?_
  refine an (.inl rfl) (aZ rfl (bG rfl) (al rfl)) (fun w1 hw=> ?_)
  exact⟨(lz,⟨Sv.none,[]⟩,0,0),by rw[hE],by rw[hE,AB];rfl,ah.mem (yk (ah.mem hw:Mem w [fz lz] _))⟩
 ·
  replace h0:=bz h0
  have hq:iH (cv c)=true∧1≤n∧n≤fY (cv c).size:=⟨h0.1.1,by omega,by show n≤fY c.size;omega⟩
  obtain⟨e1,e2,e3,e4⟩:=vu.1 hq.1
  have w8:=Pe (cv c).size
  have EK:dq (⟨⟨cv c,[],0,0⟩,false⟩:WV):=⟨e1,e2,e3,e4, .inl rfl,(by show(0:Nat)<_;omega),(fun n hn=>by cases hn),(by show(0:Nat)≤64;omega)⟩
  refine Gc ?_
  iterate 2 refine Gs ?_
  refine Gc ?_
  refine aq rfl (fun h1=> ?_) (fun h1=> ?_)
  ·
   replace h1:=bz h1
   have hE:(kN (cv c) n)=(⟨cv c,[],0,0⟩,7):=by rw[kN,if_neg (fun h=>h hq),if_pos (show(cv c).off=true from h1)]
   refine Gc ?_
   refine Gs ?_
   refine bp rfl (by assumption) fun da lF=> ?_
   refine ae (bV (v:= .agg (bo (⟨da,⟨Sv.none,[]⟩,0,0⟩:bI))) rfl (yj da)) ?_
   iterate 2 refine Gs ?_
   refine Gc ?_
   refine an (.inl rfl) (aZ rfl (bG rfl) (al rfl)) (fun w1 hw=> ?_)
   exact⟨(da,⟨Sv.none,[]⟩,0,0),by rw[hE],by rw[hE,lF];rfl,ah.mem (yk (ah.mem hw:Mem w [fz da] _))⟩
  ·
   replace h1:=bz h1
   have rR:(kN (cv c) n)=(if(lh (cv c) n).2≠0 then(⟨(lh (cv c) n).1.v.ai,[],0,0⟩,(lh (cv c) n).2)else((lh (cv c) n).1.v,0)):=by rw[kN,if_neg (fun h=>h hq),if_neg (show ¬(cv c).off=true by rw[show(cv c).off=c.off from rfl,h1];simp)]
   refine Gc ?_
   refine Gs ?_
   refine bp rfl (by assumption) fun ke rl=> ?_
   refine ae (bV (v:= .agg (bo (⟨ke,⟨Sv.none,[]⟩,0,0⟩:bI))) rfl (yj ke)) ?_
   refine ae (bV (v:= .agg (aR (⟨(⟨ke,⟨Sv.none,[]⟩,0,0⟩:bI),false⟩:aV))) rfl (J9 _)) ?_
   refine bL rfl fun ym=> ?_
   refine Gs ?_
   iterate 4 refine Gi ?_
   refine oH [ar ym (aR (⟨⟨ke,⟨Sv.none,[]⟩,0,0⟩,false⟩:aV)) 141,fz ke,fz (⟨Sv.none,[]⟩:Sl Int),ar b4 (bo fq) 29] (fun w hw=>ah.mem (yk (ah.mem hw:Mem _ [ar ym (aR (⟨⟨ke,⟨Sv.none,[]⟩,0,0⟩,false⟩:aV)) 141,fz ke,ar b4 (bo fq) 29] _))) ?_
   refine Gi ?_
   iterate 2 refine Gs ?_
   refine bp rfl ⟨by rw[rl];exact EK,by omega,by omega⟩ fun kf Kd=> ?_
   have vO:(⟨⟨cv kf.1,kf.2.1.xs,kf.2.2.1.toNat,kf.2.2.2⟩,false⟩:WV)=(lh (cv c) n).1:=by rw[Kd,lh,←rl];rfl
   refine Gs ?_
   refine Gc ?_
   iterate 2 refine Gs ?_
   refine Gc ?_
   refine aq rfl (fun h2=> ?_) (fun h2=> ?_)
   ·
    replace h2:=bz h2
    have hE:(kN (cv c) n)=(⟨(lh (cv c) n).1.v.ai,[],0,0⟩,(lh (cv c) n).2):=by rw[rR,if_pos (by rw[lh,←rl];exact h2)]
    refine Gc ?_
    iterate 4 refine Gs ?_
    refine ae (Ry.to (v':= .agg (aB kf.1)) (eE rfl) rfl) ?_
    refine ae (bV (v:= .agg (bo (⟨kf.1,⟨Sv.none,[]⟩,0,0⟩:bI))) rfl (yj kf.1)) ?_
    iterate 3 refine Gs ?_
    refine Gc ?_
    refine an (.inl rfl) (aZ rfl (bG rfl) (al rfl)) (fun w1 hw=> ?_)
    exact⟨(kf.1,⟨Sv.none,[]⟩,0,0),by rw[hE,lh,←rl];rfl,by rw[hE,←vO];rfl,ah.mem (yk (ah.mem hw:Mem w [fz kf.1] _))⟩
   ·
    replace h2:=bz h2
    have hE:(kN (cv c) n)=((lh (cv c) n).1.v,0):=by rw[rR,if_neg (by rw[lh,←rl];exact fun h=>h h2)]
    refine Gc ?_
    iterate 3 refine Gs ?_
    refine ae (Ry.to (v':= .agg (bo (⟨kf.1,kf.2.1,kf.2.2.1,kf.2.2.2⟩:bI))) (eE rfl) rfl) ?_
    iterate 2 refine Gs ?_
    refine Gc ?_
    refine an (.inl rfl) (aZ rfl (bG rfl) (al rfl)) (fun w1 hw=> ?_)
    exact⟨(kf.1,kf.2.1,kf.2.2.1,kf.2.2.2),by rw[hE],by rw[hE,←vO],ah.mem hw⟩
instance aeG{w0:World}{L:List aj}{c:Cp}{n:Int}[hc:aS w0 L c]:bW Tryz.prog 40 w0 L [.agg (aB c), .int .i64 n] (Cp×Sl Int×UInt64×Int) (fun zz=> .tuple #[.agg (bo (⟨zz.1,zz.2.1,zz.2.2.1,zz.2.2.2⟩:bI)), .int .i64 ((kN (cv c) n).2)]) (fun zz=>fz zz.1::fz zz.2.1::L) (fun zz=>(⟨cv zz.1,zz.2.1.xs,zz.2.2.1.toNat,zz.2.2.2⟩:VV)=(kN (cv c) n).1) (dK c):=⟨fun hp w hw=>(Up w c n (hc.h w hw) hp).mono fun e w' ⟨x,h1,h2,h3⟩=>⟨x,h1,h2,hw.call h3⟩⟩
open Go.aL Go.Kb
theorem Uq(w:World)(n many:Nat)(hn:n<2^64)(hm:1≤many∧many≤8):Calls Tryz.prog 156 #[.int .u64 (n:Nat), .int .i64 (many:Nat)] w fun e w'=> ∃s:Sv,e= .returned s.val∧s.Ok∧s.len=many∧Mem w [own aJ 1 s (be n many)] w':=by
 refine aW (args:=[_,_]) Tryz.func156 rfl Tryz.ntmps156 rfl ?_
 change Cw _ _ _ _ _ [(0, .int .u64 (n:Nat)),(1, .int .i64 (many:Nat))] []
 refine ay ?_
 refine aI ?_
 refine ae (aP rfl) ?_
 refine aG ?_
 refine ax ?_
 refine ay ?_
 refine aI ?_
 refine ae (aP rfl) ?_
 refine aG ?_
 refine ax ?_
 refine ay ?_
 refine ay ?_
 refine aI ?_
 refine ae (au rfl) ?_
 refine ae (bt rfl rfl rfl) ?_
 refine ae (au rfl) ?_
 refine bD rfl rfl rfl (fun hg=>(au rfl).yl) ?_
 refine bD rfl rfl rfl (fun hg=>(bt (av hg rfl) rfl rfl).yl) ?_
 refine ae (hM rfl rfl rfl) ?_
 refine aG ?_
 refine ax ?_
 refine aq rfl (fun h0=> ?_) (fun h0=> ?_)
 ·
  exfalso;simp at h0;omega
 ·
  refine cS ?_
  refine ax ?_
  refine ay ?_
  refine ay ?_
  refine aI ?_
  refine ae (aP rfl) ?_
  refine aG ?_
  refine ax ?_
  refine eL ?_
  refine bK (X:=Nat×Sv) (fun x=>[(0, .int .u64 (n/256^x.1:Nat)),(1, .int .i64 (many:Nat)),(6, .int .i64 (x.1:Nat)),(5,x.2.val)]) (fun x=>[own aJ 1 x.2 (be n x.1)]) (fun x=>x.1≤many∧x.2.Ok∧x.2.len=x.1) (fun x=>many -x.1) (0,Sv.none) ⟨by omega,Sv.uV,rfl⟩ (Sub.cons (look_eq rfl (by simp)) (Sub.cons rfl (Sub.cons rfl (Sub.cons rfl (Sub.nil _))))) (fun w hw=>hw.cz aJ 1) ?_
  rintro⟨i,s⟩ ⟨bb,aH,bu⟩
  refine ay ?_
  refine ay ?_
  refine aI ?_
  refine ae (au rfl) ?_
  refine ae (au rfl) ?_
  refine ae (bt rfl rfl rfl) ?_
  refine aG ?_
  refine ax ?_
  refine aq rfl (fun h1=> ?_) (fun h1=> ?_)
  ·
   simp only[decide_eq_true_eq]at h1
   refine cS ?_
   refine ax ?_
   refine ay ?_
   refine eL ?_
   refine ay ?_
   refine aI ?_
   refine ae (au rfl) ?_
   refine ae (uY rfl rfl rfl rfl (by decide)) ?_
   refine ae (uZ rfl rfl) ?_
   refine mz (enc:=aJ) [b8 (n/256^i)] (vals:=[_]) rfl (by rw[L9];rfl) rfl (by decide) (by decide) fun uo=> ?_
   refine ae (au rfl) ?_
   refine jG (ys:=be n i) rfl rfl (by decide) (fun w hw=>gX Tryz.underlying38 (by decide) ((inferInstance:eT _ s _ _ _ _).holds w hw)) (by simp[jl];omega) (by simp[jl];omega) fun EL Ke A0=> ?_
   refine ae (aP rfl) ?_
   refine aG ?_
   refine ax ?_
   refine aI ?_
   refine ae (au rfl) ?_
   refine ae (FU rfl rfl rfl rfl (Nat.lt_of_le_of_lt (Nat.div_le_self _ _) hn) (by decide)) ?_
   refine ae (aP rfl) ?_
   refine aG ?_
   refine jj ?_
   refine ax ?_
   refine aI ?_
   refine ae (au rfl) ?_
   refine ae (gk rfl rfl (by omega)) ?_
   refine ae (aP rfl) ?_
   refine aG ?_
   exact bh (i+1,EL) ⟨by omega,Ke,A0.trans (by simp[jl])⟩ (by omega) (Sub.cons (look_eq rfl (by rw[Nat.div_div_eq_div_mul,Nat.pow_succ])) (Sub.cons rfl (Sub.cons rfl (Sub.cons rfl (Sub.nil _))))) (fun w hw=>hw.sub (List.Sublist.cons_cons _ (List.nil_sublist _)))
  ·
   simp only[decide_eq_false_iff_not]at h1
   refine kj ?_
   refine eR ?_
   refine eR ?_
   refine kl ?_
   refine ax ?_
   refine ay ?_
   refine aI ?_
   refine ae (au rfl) ?_
   refine ae (aP rfl) ?_
   refine aG ?_
   refine ax ?_
   refine cD ?_
   refine an (.inl rfl) (dX rfl rfl) (fun w hw=> ?_)
   exact⟨s,rfl,aH,(show s.len=i from bu).trans (by omega),by rwa [show i=many by omega]at hw⟩
theorem Ur(w:World)(s:Sv)(xs:List UInt8)(hs:bM aJ 1 (hp w) s xs)(hm:xs.length≤7):Calls Tryz.prog 99 #[s.val] w fun e w'=>e= .returned (.int .u64 (de xs:Nat))∧Mem w [] w':=by
 refine aW (args:=[_]) Tryz.func99 rfl Tryz.ntmps99 rfl ?_
 change Cw _ _ _ _ _ [(0,s.val)] []
 refine ay ?_
 refine aI ?_
 refine ae (aP rfl) ?_
 refine aG ?_
 refine ax ?_
 refine ay ?_
 refine aI ?_
 refine ae (aP rfl) ?_
 refine aG ?_
 refine ax ?_
 refine ay ?_
 refine ay ?_
 refine aI ?_
 refine ae (aP rfl) ?_
 refine aG ?_
 refine ax ?_
 refine eL ?_
 refine bK (X:=Nat) (fun i=>[(0,s.val),(3, .int .u64 (de (xs.take i):Nat)),(4, .int .i64 (i:Nat))]) (fun i=>[]) (fun i=>i≤xs.length) (fun i=>xs.length -i) 0 (by omega) (Sub.cons rfl (Sub.cons rfl (Sub.cons rfl (Sub.nil _)))) (fun w hw=>hw) ?_
 rintro i hi
 refine ay ?_
 refine ay ?_
 refine aI ?_
 refine ae (au rfl) ?_
 refine ae (au rfl) ?_
 refine ae (oD rfl hs.ok hs.len) ?_
 refine ae (bt rfl rfl rfl) ?_
 refine aG ?_
 refine ax ?_
 refine aq rfl (fun h0=> ?_) (fun h0=> ?_)
 ·
  simp only[decide_eq_true_eq]at h0
  obtain⟨b,hb⟩:=get_some (xs:=xs) (i:=i) (by omega)
  have bB:de (xs.take i)<256^7:=Nat.lt_of_lt_of_le (y7 xs i hi) (Nat.pow_le_pow_right (by decide) (by omega))
  have cO:=b.toNat_lt
  refine cS ?_
  refine ax ?_
  refine ay ?_
  refine eL ?_
  refine aI ?_
  refine ae (au rfl) ?_
  refine ae (FW rfl rfl rfl rfl (by simp only[nb];omega)) ?_
  refine ae (au rfl) ?_
  refine ae (au rfl) ?_
  refine ae (jk rfl rfl rfl hs.ok (by rw[hs.len];omega)) ?_
  refine ae (FN (j:=0) rfl (qz hs) hb rfl (by decide) rfl) ?_
  refine ae (mw rfl (by simp only[nb];omega)) ?_
  refine ae (uR rfl rfl rfl rfl (by simp only[nb];omega)) ?_
  refine ae (aP rfl) ?_
  refine aG ?_
  refine jj ?_
  refine ax ?_
  refine aI ?_
  refine ae (au rfl) ?_
  refine ae (gk rfl rfl (by omega)) ?_
  refine ae (aP rfl) ?_
  refine aG ?_
  exact bh (i+1) (by omega) (by omega) (Sub.cons rfl (Sub.cons (look_eq rfl (by rw[BR hb])) (Sub.cons rfl (Sub.nil _)))) (fun w hw=>hw)
 ·
  simp only[decide_eq_false_iff_not]at h0
  refine kj ?_
  refine eR ?_
  refine eR ?_
  refine kl ?_
  refine ax ?_
  refine ay ?_
  refine aI ?_
  refine ae (au rfl) ?_
  refine ae (aP rfl) ?_
  refine aG ?_
  refine ax ?_
  refine cD ?_
  refine an (.inl rfl) (dX rfl rfl) (fun w hw=> ?_)
  exact⟨by rw[List.take_of_length_le (by omega)],hw⟩
theorem Us(a b:Int):iS Tryz.prog 57 [.int .i64 a, .int .i64 b] (.int .i64 (ku a b)):=⟨fun w=>by
 refine aW (args:=[_,_]) Tryz.func57 rfl Tryz.ntmps57 rfl ?_
 change Cw _ _ _ _ _ [(0, .int .i64 a),(1, .int .i64 b)] []
 refine ay ?_
 refine aI ?_
 refine ae (aP rfl) ?_
 refine aG ?_
 refine ax ?_
 refine ay ?_
 refine ay ?_
 refine aI ?_
 refine ae (au rfl) ?_
 refine ae (bt rfl rfl rfl) ?_
 refine ae (au rfl) ?_
 refine bD rfl rfl rfl (fun hg=>(au rfl).yl) ?_
 refine bD rfl rfl rfl (fun hg=>(bt (av hg rfl) rfl rfl).yl) ?_
 refine ae (hM rfl rfl rfl) ?_
 refine ae (au rfl) ?_
 refine bD rfl rfl rfl (fun hg=>(au rfl).yl) ?_
 refine bD rfl rfl rfl (fun hg=>(bt (av hg rfl) rfl rfl).yl) ?_
 refine ae (hM rfl rfl rfl) ?_
 refine ae (au rfl) ?_
 refine bD rfl rfl rfl (fun hg=>(au rfl).yl) ?_
 refine bD rfl rfl rfl (fun hg=>(bt (av hg rfl) rfl rfl).yl) ?_
 refine ae (hM rfl rfl rfl) ?_
 refine aG ?_
 refine ax ?_
 refine aq rfl (fun h0=> ?_) (fun h0=> ?_)
 ·
  simp only[Bool.or_eq_true,decide_eq_true_eq]at h0
  refine ay ?_
  refine aI ?_
  refine ae (aP rfl) ?_
  refine aG ?_
  refine ax ?_
  refine cD ?_
  refine cw ?_
  refine an (.inl rfl) (dX rfl rfl) (fun w hw=> ?_)
  exact⟨congrArg (fun b=>Ending.returned (Value.int .i64 b)) ((if_pos (by omega)).symm),hw.sub (List.nil_sublist _)⟩
 ·
  simp only[Bool.or_eq_false_iff,decide_eq_false_iff_not]at h0
  have hq:b/20≤12:=by omega
  have q7:0≤b/20:=by omega
  have hm:a*(b/20)≤64*12:=Int.mul_le_mul (by omega) hq q7 (by decide)
  have mL:0≤a*(b/20):=Int.mul_nonneg (by omega) q7
  refine cS ?_
  refine ax ?_
  refine ay ?_
  refine aI ?_
  refine ae (au rfl) ?_
  refine ae (au rfl) ?_
  refine ae (gV rfl rfl (by omega) (by omega)) ?_
  refine ae (nE rfl rfl (by omega)) ?_
  refine ae (BC rfl rfl) ?_
  refine ae (aP rfl) ?_
  refine aG ?_
  refine ax ?_
  refine cD ?_
  refine an (.inl rfl) (dX rfl rfl) (fun w hw=> ?_)
  exact⟨congrArg (fun b=>Ending.returned (Value.int .i64 b)) ((if_neg (by omega)).symm),hw.sub (List.nil_sublist _)⟩⟩
instance aeH(a b:Int):iS Tryz.prog 57 [.int .i64 a, .int .i64 b] (.int .i64 (ku a b)):=Us a b
theorem Ut(a b:Int):iS Tryz.prog 60 [.int .i64 a, .int .i64 b] (.int .i64 (ku a b)):=⟨fun w=>by
 refine aW (args:=[_,_]) Tryz.func60 rfl Tryz.ntmps60 rfl ?_
 change Cw _ _ _ _ _ [(0, .int .i64 a),(1, .int .i64 b)] []
 refine ay ?_
 refine aI ?_
 refine ae (aP rfl) ?_
 refine aG ?_
 refine ax ?_
 refine ay ?_
 refine ay ?_
 refine aI ?_
 refine ae (au rfl) ?_
 refine ae (bt rfl rfl rfl) ?_
 refine ae (au rfl) ?_
 refine bD rfl rfl rfl (fun hg=>(au rfl).yl) ?_
 refine bD rfl rfl rfl (fun hg=>(bt (av hg rfl) rfl rfl).yl) ?_
 refine ae (hM rfl rfl rfl) ?_
 refine ae (au rfl) ?_
 refine bD rfl rfl rfl (fun hg=>(au rfl).yl) ?_
 refine bD rfl rfl rfl (fun hg=>(bt (av hg rfl) rfl rfl).yl) ?_
 refine ae (hM rfl rfl rfl) ?_
 refine ae (au rfl) ?_
 refine bD rfl rfl rfl (fun hg=>(au rfl).yl) ?_
 refine bD rfl rfl rfl (fun hg=>(bt (av hg rfl) rfl rfl).yl) ?_
 refine ae (hM rfl rfl rfl) ?_
 refine aG ?_
 refine ax ?_
 refine aq rfl (fun h0=> ?_) (fun h0=> ?_)
 ·
  simp only[Bool.or_eq_true,decide_eq_true_eq]at h0
  refine ay ?_
  refine aI ?_
  refine ae (aP rfl) ?_
  refine aG ?_
  refine ax ?_
  refine cD ?_
  refine cw ?_
  refine an (.inl rfl) (dX rfl rfl) (fun w hw=> ?_)
  exact⟨congrArg (fun b=>Ending.returned (Value.int .i64 b)) ((if_pos (by omega)).symm),hw.sub (List.nil_sublist _)⟩
 ·
  simp only[Bool.or_eq_false_iff,decide_eq_false_iff_not]at h0
  have hq:b/20≤12:=by omega
  have q7:0≤b/20:=by omega
  have hm:a*(b/20)≤64*12:=Int.mul_le_mul (by omega) hq q7 (by decide)
  have mL:0≤a*(b/20):=Int.mul_nonneg (by omega) q7
  refine cS ?_
  refine ax ?_
  refine ay ?_
  refine aI ?_
  refine ae (au rfl) ?_
  refine ae (au rfl) ?_
  refine ae (gV rfl rfl (by omega) (by omega)) ?_
  refine ae (nE rfl rfl (by omega)) ?_
  refine ae (aP rfl) ?_
  refine aG ?_
  refine ax ?_
  refine ay ?_
  refine ay ?_
  refine aI ?_
  refine ae (au rfl) ?_
  refine ae (bt rfl rfl rfl) ?_
  refine aG ?_
  refine ax ?_
  refine aq rfl (fun h1=> ?_) (fun h1=> ?_)
  ·
   simp only[decide_eq_true_eq]at h1
   refine ay ?_
   refine aI ?_
   refine ae (aP rfl) ?_
   refine aG ?_
   refine ax ?_
   refine cD ?_
   refine cw ?_
   refine an (.inl rfl) (dX rfl rfl) (fun w hw=> ?_)
   exact⟨congrArg (fun b=>Ending.returned (Value.int .i64 b)) (((if_neg (by omega)).trans (by omega)).symm),hw.sub (List.nil_sublist _)⟩
  ·
   simp only[decide_eq_false_iff_not]at h1
   refine cS ?_
   refine ax ?_
   refine ay ?_
   refine aI ?_
   refine ae (au rfl) ?_
   refine ae (aP rfl) ?_
   refine aG ?_
   refine ax ?_
   refine cD ?_
   refine an (.inl rfl) (dX rfl rfl) (fun w hw=> ?_)
   exact⟨congrArg (fun b=>Ending.returned (Value.int .i64 b)) (((if_neg (by omega)).trans (by omega)).symm),hw.sub (List.nil_sublist _)⟩⟩
instance aeI(a b:Int):iS Tryz.prog 60 [.int .i64 a, .int .i64 b] (.int .i64 (ku a b)):=Ut a b
open Go.aL Go.Kb
def yn:Array Value:=Array.replicate 20 (.int .u8 0)
theorem pq:yn.size=20:=by simp[yn]
instance:eC Tryz.prog 197 (.agg yn):=⟨by kernel_rfl⟩
theorem Kf(k:Key):(cc k).all (·.oneCell')=true:=(inferInstance:fv (cc k) 16).one
theorem Uu(w0 w:World)(L:List aj)(s:Sv)(xs:List UInt8)(r:Rt)(hw:Mem w0 (own aJ 1 s xs::L) w)(hl:xs.length≤1000000):Calls Tryz.prog 113 #[s.val, .agg (aw r)] w fun e w'=> ∃s':Sv,e= .returned s'.val∧s'.Ok∧s'.len=xs.length+20∧Mem w0 (own aJ 1 s' (xs++gH r)::L) w':=by
 refine jH (args:=[_,_]) Tryz.func113 rfl Tryz.ntmps113 rfl hw ?_
 change Cw _ _ _ _ _ [(0,s.val),(1, .agg (aw r))] (own aJ 1 s xs::L)
 refine ay ?_
 refine aI ?_
 refine bL rfl fun b3=> ?_
 refine ae (aP rfl) ?_
 refine aG ?_
 refine ax ?_
 refine ay ?_
 refine aI ?_
 refine bx fun b5=> ?_
 refine aG ?_
 refine ax ?_
 refine ay ?_
 refine ay ?_
 refine aI ?_
 refine ae (aA (o':=0) rfl rfl) ?_
 refine ae (aA (o':=0) rfl rfl) ?_
 refine ae (bl rfl) ?_
 refine ae (bt rfl rfl rfl) ?_
 refine aG ?_
 refine ax ?_
 refine aq rfl (fun h0=> ?_) (fun h0=> ?_)
 ·
  simp only[decide_eq_true_eq]at h0
  refine aI ?_
  refine ae (pA rfl rfl (by omega) (by omega)) ?_
  refine dM rfl rfl (by simp[pq]) rfl rfl ?_
  refine aG ?_
  refine ax ?_
  refine ay ?_
  refine aI ?_
  refine ae (aA (o':=0) rfl rfl) ?_
  refine ae (aA (o':=1) rfl rfl) ?_
  refine ae (bl rfl) ?_
  refine ae (pB rfl (vq _)) ?_
  refine ae (pA rfl rfl (by omega) (by omega)) ?_
  refine dM rfl rfl (by simp[pq]) rfl rfl ?_
  refine aG ?_
  refine ax ?_
  refine ay ?_
  refine tp 4 [] (by kernel_rfl) (by kernel_rfl) ?_
  simp only[List.take_succ_cons,List.take_zero]
  refine aT (FI rfl rfl (by decide) (by decide)) ?_
  refine aT (aA (o':=0) rfl rfl) ?_
  refine aT (aA (o':=2) rfl rfl) ?_
  refine aT (tk rfl) ?_
  refine rC ?_
  refine rD ?_
  simp only[List.drop_succ_cons,List.drop_zero]
  refine BF (vs:=cc r.p.key) rfl rfl (by rw[fX];rfl) (fun w hw j hj=>by rw[Addr.fF,hw.cell (i:=1) rfl];exact(hY r (2+j) (by rw[fX]at hj;omega)).trans (kY r.p j)) (Kf _) (by simp[fX,pq]) rfl ?_
  refine aG ?_
  refine ax ?_
  refine ay ?_
  refine aI ?_
  refine ae (aA (o':=18) rfl rfl) ?_
  refine ae (bl rfl) ?_
  refine ae (tm (p:=r.eA.toNat) rfl rfl (Nat.lt_of_lt_of_le r.eA.toNat_lt (by decide)) (by decide)) ?_
  refine ae (uZ (n:=r.eA.toNat/256) rfl rfl) ?_
  refine ae (pA rfl rfl (by omega) (by omega)) ?_
  refine dM rfl rfl (by simp[lM,fX,pq]) rfl rfl ?_
  refine aG ?_
  refine ax ?_
  refine ay ?_
  refine aI ?_
  refine ae (aA (o':=18) rfl rfl) ?_
  refine ae (bl rfl) ?_
  refine ae (uZ (n:=r.eA.toNat) rfl rfl) ?_
  refine ae (pA rfl rfl (by omega) (by omega)) ?_
  refine dM rfl rfl (by simp[lM,fX,pq]) rfl rfl ?_
  refine aG ?_
  refine ax ?_
  refine ay ?_
  refine aI ?_
  refine ae (au rfl) ?_
  refine ae (tk rfl) ?_
  refine jG (ys:=gH r) rfl rfl (by decide) (fun w hw=>gX (s:=⟨false,b5,0,20,20,none⟩) Tryz.underlying38 (by decide) (y6 (HE r (by simp[pq]) (by simp[yn,h0])) (pU r) (by decide) w hw)) (by rw[pU];omega) (by rw[pU];omega) fun EM EN EO=> ?_
  refine ae (aP rfl) ?_
  refine aG ?_
  refine ax ?_
  refine cD ?_
  refine an (.inl rfl) (dX rfl rfl) (fun w hw=> ?_)
  exact⟨EM,rfl,EN,EO.trans (by rw[List.length_append,pU]),hw.sub (List.Sublist.cons _ (List.Sublist.cons _ (List.Sublist.refl _)))⟩
 ·
  simp only[decide_eq_false_iff_not]at h0
  refine cS ?_
  refine ax ?_
  refine ay ?_
  refine aI ?_
  refine ae (aA (o':=0) rfl rfl) ?_
  refine ae (aA (o':=1) rfl rfl) ?_
  refine ae (bl rfl) ?_
  refine ae (pB rfl (vq _)) ?_
  refine ae (pA rfl rfl (by omega) (by omega)) ?_
  refine dM rfl rfl (by simp[pq]) rfl rfl ?_
  refine aG ?_
  refine ax ?_
  refine ay ?_
  refine tp 4 [] (by kernel_rfl) (by kernel_rfl) ?_
  simp only[List.take_succ_cons,List.take_zero]
  refine aT (FI rfl rfl (by decide) (by decide)) ?_
  refine aT (aA (o':=0) rfl rfl) ?_
  refine aT (aA (o':=2) rfl rfl) ?_
  refine aT (tk rfl) ?_
  refine rC ?_
  refine rD ?_
  simp only[List.drop_succ_cons,List.drop_zero]
  refine BF (vs:=cc r.p.key) rfl rfl (by rw[fX];rfl) (fun w hw j hj=>by rw[Addr.fF,hw.cell (i:=1) rfl];exact(hY r (2+j) (by rw[fX]at hj;omega)).trans (kY r.p j)) (Kf _) (by simp[fX,pq]) rfl ?_
  refine aG ?_
  refine ax ?_
  refine ay ?_
  refine aI ?_
  refine ae (aA (o':=18) rfl rfl) ?_
  refine ae (bl rfl) ?_
  refine ae (tm (p:=r.eA.toNat) rfl rfl (Nat.lt_of_lt_of_le r.eA.toNat_lt (by decide)) (by decide)) ?_
  refine ae (uZ (n:=r.eA.toNat/256) rfl rfl) ?_
  refine ae (pA rfl rfl (by omega) (by omega)) ?_
  refine dM rfl rfl (by simp[lM,fX,pq]) rfl rfl ?_
  refine aG ?_
  refine ax ?_
  refine ay ?_
  refine aI ?_
  refine ae (aA (o':=18) rfl rfl) ?_
  refine ae (bl rfl) ?_
  refine ae (uZ (n:=r.eA.toNat) rfl rfl) ?_
  refine ae (pA rfl rfl (by omega) (by omega)) ?_
  refine dM rfl rfl (by simp[lM,fX,pq]) rfl rfl ?_
  refine aG ?_
  refine ax ?_
  refine ay ?_
  refine aI ?_
  refine ae (au rfl) ?_
  refine ae (tk rfl) ?_
  refine jG (ys:=gH r) rfl rfl (by decide) (fun w hw=>gX (s:=⟨false,b5,0,20,20,none⟩) Tryz.underlying38 (by decide) (y6 (HE r (by simp[pq]) (by simp[yn,h0])) (pU r) (by decide) w hw)) (by rw[pU];omega) (by rw[pU];omega) fun EM EN EO=> ?_
  refine ae (aP rfl) ?_
  refine aG ?_
  refine ax ?_
  refine cD ?_
  refine an (.inl rfl) (dX rfl rfl) (fun w hw=> ?_)
  exact⟨EM,rfl,EN,EO.trans (by rw[List.length_append,pU]),hw.sub (List.Sublist.cons _ (List.Sublist.cons _ (List.Sublist.refl _)))⟩
open Go.aL Go.Kb
theorem Uv(w:World)(s:Sv)(xs:List Rt)(hs:bM aw 19 (hp w) s xs):Calls Tryz.prog 39 #[s.val] w fun e w'=>e= .returned (.bool (dD xs))∧Mem w [] w':=by
 refine aW (args:=[_]) Tryz.func39 rfl Tryz.ntmps39 rfl ?_
 change Cw _ _ _ _ _ [(0,s.val)] []
 refine ay ?_
 refine aI ?_
 refine ae (aP rfl) ?_
 refine aG ?_
 refine ax ?_
 refine ay ?_
 refine ay ?_
 refine aI ?_
 refine ae (au rfl) ?_
 refine ae (oD rfl hs.ok hs.len) ?_
 refine ae (bt rfl rfl rfl) ?_
 refine aG ?_
 refine ax ?_
 refine aq rfl (fun h0=> ?_) (fun h0=> ?_)
 ·
  simp only[decide_eq_true_eq]at h0
  refine ay ?_
  refine aI ?_
  refine ae (aP rfl) ?_
  refine aG ?_
  refine ax ?_
  refine cD ?_
  refine cw ?_
  refine an (.inl rfl) (dX rfl rfl) (fun w hw=> ?_)
  exact⟨congrArg (fun b=>Ending.returned (Value.bool b)) ((B5 (by omega)).symm),hw.sub (List.nil_sublist _)⟩
 ·
  simp only[decide_eq_false_iff_not]at h0
  refine cS ?_
  refine ax ?_
  refine ay ?_
  refine ay ?_
  refine aI ?_
  refine ae (au rfl) ?_
  refine ae (oD rfl hs.ok hs.len) ?_
  refine ae (au rfl) ?_
  refine aG ?_
  refine ax ?_
  refine eL ?_
  refine bK (X:=Nat) (fun i=>[(10, .int .i64 (i:Nat)),(9, .int .i64 (xs.length:Nat)),(8,s.val),(0,s.val)]) (fun i=>[]) (fun i=>i≤xs.length∧pN xs i=true) (fun i=>xs.length -i) 0 ⟨by omega,Gp xs⟩ (Sub.cons rfl (Sub.cons rfl (Sub.cons rfl (Sub.cons rfl (Sub.nil _))))) (fun w hw=>hw) ?_
  rintro i ⟨bb,aH⟩
  refine ay ?_
  refine aI ?_
  refine ae (bt rfl rfl rfl) ?_
  refine aG ?_
  refine ax ?_
  refine ay ?_
  refine aq rfl (fun h1=> ?_) (fun h1=> ?_)
  ·
   simp only[decide_eq_true_eq]at h1
   have bB:i<xs.length:=by omega
   obtain⟨r,hr⟩:=get_some bB
   obtain⟨q,hq⟩:=get_some (xs:=xs) (i:=i -1) (by omega)
   refine cS ?_
   refine ax ?_
   refine ay ?_
   refine eL ?_
   refine ay ?_
   refine aI ?_
   refine ae (au rfl) ?_
   refine ae (jk rfl rfl rfl hs.ok (by rw[hs.len];omega)) ?_
   refine ae (y3 rfl (qz hs) hr rfl) ?_
   refine bx fun b4=> ?_
   refine ae (aP rfl) ?_
   refine pC rfl rfl ?_
   refine aG ?_
   refine ax ?_
   refine ay ?_
   refine ay ?_
   refine aI ?_
   refine ae (aA (o':=0) rfl rfl) ?_
   refine ae (eE rfl) ?_
   refine dQ (ki rfl) ?_
   refine ae (fU rfl) ?_
   refine aG ?_
   refine ax ?_
   refine aq rfl (fun h2=> ?_) (fun h2=> ?_)
   ·
    refine ay ?_
    refine aI ?_
    refine ae (aP rfl) ?_
    refine aG ?_
    refine ax ?_
    refine cD ?_
    refine cw ?_
    refine fW ?_
    refine cw ?_
    refine cw ?_
    refine fW ?_
    refine cw ?_
    refine an (.inl rfl) (dX rfl rfl) (fun w hw=> ?_)
    exact⟨congrArg (fun b=>Ending.returned (Value.bool b)) ((wY bB (Gu hr (by simpa using h2))).symm),hw.sub (List.nil_sublist _)⟩
   ·
    refine cS ?_
    refine ax ?_
    refine ay ?_
    refine eF (by kernel_rfl) (by kernel_rfl) ?_
    refine aT (au rfl) ?_
    refine aT (bt rfl rfl rfl) ?_
    refine aT (au rfl) ?_
    refine c5 rfl rfl rfl (fun hg=>(au rfl).yl) ?_
    refine c5 rfl rfl rfl (fun hg=>(au rfl).yl) ?_
    refine c5 rfl rfl rfl (fun hg=>(qx (av hg rfl) rfl (by omega)).yl) ?_
    refine c5 rfl rfl rfl (fun hg=>(jk (i:=i -1) (av hg rfl) (av hg rfl) (by have:=of_decide_eq_true hg;omega) hs.ok (by rw[hs.len];omega)).yl) ?_
    refine c5 rfl rfl rfl (fun hg=>(aA (av hg rfl) rfl).yl) ?_
    refine c5 rfl rfl rfl (fun hg=>(wM (j:=0) (av hg rfl) (qz hs) hq rfl (by decide)).yl) ?_
    refine c5 rfl rfl rfl (fun hg=>(aA (o':=0) rfl rfl).yl) ?_
    refine c5 rfl rfl rfl (fun hg=>(eE (av hg rfl)).yl) ?_
    refine c5 rfl rfl rfl (fun hg=>ki (cg (av hg rfl) (cg (av hg rfl) dO))) ?_
    refine c5 rfl rfl rfl (fun hg=>(fU (av hg rfl)).yl) ?_
    refine aT (nD rfl rfl rfl) ?_
    refine qy ?_
    refine ax ?_
    refine aq rfl (fun h3=> ?_) (fun h3=> ?_)
    ·
     refine ay ?_
     refine aI ?_
     refine ae (aP rfl) ?_
     refine aG ?_
     refine ax ?_
     refine cD ?_
     refine fW ?_
     refine cw ?_
     refine cw ?_
     refine fW ?_
     refine cw ?_
     refine an (.inl rfl) (dX rfl rfl) (fun w hw=> ?_)
     exact⟨congrArg (fun b=>Ending.returned (Value.bool b)) ((wY bB (by rw[B6 hr hq,h3];simp)).symm),hw.sub (List.nil_sublist _)⟩
    ·
     refine cS ?_
     refine jj ?_
     refine ax ?_
     refine aI ?_
     refine ae (gk rfl rfl (by omega)) ?_
     refine ae (au rfl) ?_
     refine aG ?_
     exact bh (i+1) ⟨by omega,by rw[Gr,aH,B6 hr hq,h3];simpa using h2⟩ (by omega) (Sub.cons rfl (Sub.cons rfl (Sub.cons rfl (Sub.cons rfl (Sub.nil _))))) (fun w hw=>hw.sub (List.nil_sublist _))
  ·
   simp only[decide_eq_false_iff_not]at h1
   refine kj ?_
   refine eR ?_
   refine eR ?_
   refine kl ?_
   refine ax ?_
   refine ay ?_
   refine aI ?_
   refine ae (aP rfl) ?_
   refine aG ?_
   refine ax ?_
   refine cD ?_
   refine an (.inl rfl) (dX rfl rfl) (fun w hw=> ?_)
   exact⟨congrArg (fun b=>Ending.returned (Value.bool b)) ((Gt (by omega) (by rwa [show i=xs.length by omega]at aH)).symm),hw.sub (List.nil_sublist _)⟩
theorem Uw(w:World)(s:Sv)(xs:List Rt)(hs:bM aw 19 (hp w) s xs):Calls Tryz.prog 102 #[s.val] w fun e w'=>e= .returned (.bool (dD xs))∧Mem w [] w':=by
 refine aW (args:=[_]) Tryz.func102 rfl Tryz.ntmps102 rfl ?_
 change Cw _ _ _ _ _ [(0,s.val)] []
 refine ay ?_
 refine aI ?_
 refine ae (aP rfl) ?_
 refine aG ?_
 refine ax ?_
 refine ay ?_
 refine ay ?_
 refine aI ?_
 refine ae (au rfl) ?_
 refine ae (oD rfl hs.ok hs.len) ?_
 refine ae (bt rfl rfl rfl) ?_
 refine aG ?_
 refine ax ?_
 refine aq rfl (fun h0=> ?_) (fun h0=> ?_)
 ·
  simp only[decide_eq_true_eq]at h0
  refine ay ?_
  refine aI ?_
  refine ae (aP rfl) ?_
  refine aG ?_
  refine ax ?_
  refine cD ?_
  refine cw ?_
  refine an (.inl rfl) (dX rfl rfl) (fun w hw=> ?_)
  exact⟨congrArg (fun b=>Ending.returned (Value.bool b)) ((B5 (by omega)).symm),hw.sub (List.nil_sublist _)⟩
 ·
  simp only[decide_eq_false_iff_not]at h0
  refine cS ?_
  refine ax ?_
  refine ay ?_
  refine ay ?_
  refine aI ?_
  refine ae (aP rfl) ?_
  refine aG ?_
  refine ax ?_
  refine eL ?_
  refine bK (X:=Nat) (fun i=>[(3, .int .i64 (i:Nat)),(0,s.val)]) (fun i=>[]) (fun i=>i≤xs.length∧pN xs i=true) (fun i=>xs.length -i) 0 ⟨by omega,Gp xs⟩ (Sub.cons rfl (Sub.cons rfl (Sub.nil _))) (fun w hw=>hw) ?_
  rintro i ⟨bb,aH⟩
  refine ay ?_
  refine ay ?_
  refine aI ?_
  refine ae (au rfl) ?_
  refine ae (au rfl) ?_
  refine ae (oD rfl hs.ok hs.len) ?_
  refine ae (bt rfl rfl rfl) ?_
  refine aG ?_
  refine ax ?_
  refine aq rfl (fun h1=> ?_) (fun h1=> ?_)
  ·
   simp only[decide_eq_true_eq]at h1
   have bB:i<xs.length:=by omega
   obtain⟨r,hr⟩:=get_some bB
   obtain⟨q,hq⟩:=get_some (xs:=xs) (i:=i -1) (by omega)
   refine cS ?_
   refine ax ?_
   refine ay ?_
   refine eL ?_
   refine ay ?_
   refine eF (by kernel_rfl) (by kernel_rfl) ?_
   refine aT (au rfl) ?_
   refine aT (au rfl) ?_
   refine aT (jk rfl rfl rfl hs.ok (by rw[hs.len];omega)) ?_
   refine aT (aA rfl rfl) ?_
   refine aT (wM (j:=0) rfl (qz hs) hr rfl (by decide)) ?_
   refine oz (ki rfl) ?_
   refine aT (fU rfl) ?_
   refine aT (au rfl) ?_
   refine dB rfl rfl rfl (fun hg=>(au rfl).yl) ?_
   refine dB rfl rfl rfl (fun hg=>(bt (av hg rfl) rfl rfl).yl) ?_
   refine dB rfl rfl rfl (fun hg=>(au (av hg rfl)).yl) ?_
   refine kB rfl rfl rfl (fun hg=>(au rfl).yl) ?_
   refine kB rfl rfl rfl (fun hg=>(au rfl).yl) ?_
   refine kB rfl rfl rfl (fun hg=>(qx (av hg rfl) rfl (by omega)).yl) ?_
   refine kB rfl rfl rfl (fun hg=>(jk (i:=i -1) (av hg rfl) (av hg rfl) (by have:=of_decide_eq_true (MJ hg);omega) hs.ok (by rw[hs.len];omega)).yl) ?_
   refine kB rfl rfl rfl (fun hg=>(aA (av hg rfl) rfl).yl) ?_
   refine kB rfl rfl rfl (fun hg=>(wM (j:=0) (av hg rfl) (qz hs) hq rfl (by decide)).yl) ?_
   refine kB rfl rfl rfl (fun hg=>(au rfl).yl) ?_
   refine kB rfl rfl rfl (fun hg=>(au rfl).yl) ?_
   refine kB rfl rfl rfl (fun hg=>(jk (av hg rfl) (av hg rfl) rfl hs.ok (by rw[hs.len];omega)).yl) ?_
   refine kB rfl rfl rfl (fun hg=>(aA (av hg rfl) rfl).yl) ?_
   refine kB rfl rfl rfl (fun hg=>(wM (j:=0) (av hg rfl) (qz hs) hr rfl (by decide)).yl) ?_
   refine kB rfl rfl rfl (fun hg=>ki (cg (av hg rfl) (cg (av hg rfl) dO))) ?_
   refine kB rfl rfl rfl (fun hg=>(fU (av hg rfl)).yl) ?_
   refine dB rfl rfl rfl (fun hg=>(nD (av hg rfl) (oA hg rfl) rfl).yl) ?_
   refine aT (hM rfl rfl rfl) ?_
   refine qy ?_
   refine ax ?_
   refine aq rfl (fun h2=> ?_) (fun h2=> ?_)
   ·
    refine ay ?_
    refine aI ?_
    refine ae (aP rfl) ?_
    refine aG ?_
    refine ax ?_
    refine cD ?_
    refine fW ?_
    refine cw ?_
    refine cw ?_
    refine fW ?_
    refine cw ?_
    refine an (.inl rfl) (dX rfl rfl) (fun w hw=> ?_)
    exact⟨congrArg (fun b=>Ending.returned (Value.bool b)) ((wY bB (by rw[Gx hr hq,h2];rfl)).symm),hw.sub (List.nil_sublist _)⟩
   ·
    refine cS ?_
    refine jj ?_
    refine ax ?_
    refine aI ?_
    refine ae (au rfl) ?_
    refine ae (gk rfl rfl (by omega)) ?_
    refine ae (aP rfl) ?_
    refine aG ?_
    exact bh (i+1) ⟨by omega,by rw[Gr,aH,Gx hr hq,h2];rfl⟩ (by omega) (Sub.cons rfl (Sub.cons rfl (Sub.nil _))) (fun w hw=>hw)
  ·
   simp only[decide_eq_false_iff_not]at h1
   refine kj ?_
   refine eR ?_
   refine eR ?_
   refine kl ?_
   refine ax ?_
   refine ay ?_
   refine aI ?_
   refine ae (aP rfl) ?_
   refine aG ?_
   refine ax ?_
   refine cD ?_
   refine an (.inl rfl) (dX rfl rfl) (fun w hw=> ?_)
   exact⟨congrArg (fun b=>Ending.returned (Value.bool b)) ((Gt (by omega) (by rwa [show i=xs.length by omega]at aH)).symm),hw.sub (List.nil_sublist _)⟩
theorem Ux(w:World)(s t:Sv)(xs ys:List Rt)(hs:bM aw 19 (hp w) s xs)(ht:bM aw 19 (hp w) t ys)(hb:xs.length<9223372036854775807):Calls Tryz.prog 36 #[s.val,t.val] w fun e w'=>e= .returned (.bool (decide (xs=ys)))∧Mem w [] w':=by
 refine aW (args:=[_,_]) Tryz.func36 rfl Tryz.ntmps36 rfl ?_
 change Cw _ _ _ _ _ [(0,s.val),(1,t.val)] []
 refine ay ?_
 refine aI ?_
 refine ae (aP rfl) ?_
 refine aG ?_
 refine ax ?_
 refine ay ?_
 refine ay ?_
 refine aI ?_
 refine ae (au rfl) ?_
 refine ae (oD rfl hs.ok hs.len) ?_
 refine ae (au rfl) ?_
 refine ae (oD rfl ht.ok ht.len) ?_
 refine ae (bt rfl rfl rfl) ?_
 refine aG ?_
 refine ax ?_
 refine aq rfl (fun h0=> ?_) (fun h0=> ?_)
 ·
  simp only[Bool.not_eq_true',decide_eq_false_iff_not]at h0
  refine ay ?_
  refine aI ?_
  refine ae (aP rfl) ?_
  refine aG ?_
  refine ax ?_
  refine cD ?_
  refine cw ?_
  refine an (.inl rfl) (dX rfl rfl) (fun w hw=> ?_)
  exact⟨congrArg (fun b=>Ending.returned (Value.bool b)) ((decide_eq_false (fun e=>h0 (by rw[e]))).symm),hw.sub (List.nil_sublist _)⟩
 ·
  simp only[Bool.not_eq_false',decide_eq_true_eq]at h0
  refine cS ?_
  refine ax ?_
  refine ay ?_
  refine ay ?_
  refine aI ?_
  refine ae (aP rfl) ?_
  refine aG ?_
  refine ax ?_
  refine eL ?_
  refine bK (X:=Nat) (fun i=>[(5, .int .i64 (i:Nat)),(0,s.val),(1,t.val)]) (fun i=>[]) (fun i=>i≤xs.length∧ ∀j,j<i→xs[j]? =ys[j]?) (fun i=>xs.length -i) 0 ⟨by omega,fun j h=>by omega⟩ (Sub.cons rfl (Sub.cons rfl (Sub.cons rfl (Sub.nil _)))) (fun w hw=>hw) ?_
  rintro i ⟨bb,aH⟩
  refine ay ?_
  refine ay ?_
  refine aI ?_
  refine ae (au rfl) ?_
  refine ae (au rfl) ?_
  refine ae (oD rfl hs.ok hs.len) ?_
  refine ae (bt rfl rfl rfl) ?_
  refine aG ?_
  refine ax ?_
  refine aq rfl (fun h1=> ?_) (fun h1=> ?_)
  ·
   simp only[decide_eq_true_eq]at h1
   obtain⟨r,hr⟩:=get_some (xs:=xs) (i:=i) (by omega)
   obtain⟨q,hq⟩:=get_some (xs:=ys) (i:=i) (by omega)
   refine cS ?_
   refine ax ?_
   refine ay ?_
   refine eL ?_
   refine ay ?_
   refine eF (by kernel_rfl) (by kernel_rfl) ?_
   refine aT (au rfl) ?_
   refine aT (au rfl) ?_
   refine aT (jk rfl rfl rfl hs.ok (by rw[hs.len];omega)) ?_
   refine aT (y3 rfl (qz hs) hr rfl) ?_
   refine aT (au rfl) ?_
   refine aT (au rfl) ?_
   refine aT (jk rfl rfl rfl ht.ok (by rw[ht.len];omega)) ?_
   refine aT (y3 rfl (qz ht) hq rfl) ?_
   refine aT (BA rfl rfl) ?_
   refine qy ?_
   refine ax ?_
   refine aq rfl (fun h2=> ?_) (fun h2=> ?_)
   ·
    refine ay ?_
    refine aI ?_
    refine ae (aP rfl) ?_
    refine aG ?_
    refine ax ?_
    refine cD ?_
    refine fW ?_
    refine cw ?_
    refine cw ?_
    refine fW ?_
    refine cw ?_
    refine an (.inl rfl) (dX rfl rfl) (fun w hw=> ?_)
    exact⟨congrArg (fun b=>Ending.returned (Value.bool b)) ((decide_eq_false (ML hr hq (by simpa using h2))).symm),hw.sub (List.nil_sublist _)⟩
   ·
    refine cS ?_
    refine jj ?_
    refine ax ?_
    refine aI ?_
    refine ae (au rfl) ?_
    refine ae (gk rfl rfl (by omega)) ?_
    refine ae (aP rfl) ?_
    refine aG ?_
    exact bh (i+1) ⟨by omega,fun j hj=>if e:j=i then(by subst e;rw[hr,hq];simpa using h2)else aH j (by omega)⟩ (by omega) (Sub.cons rfl (Sub.cons rfl (Sub.cons rfl (Sub.nil _)))) (fun w hw=>hw)
  ·
   simp only[decide_eq_false_iff_not]at h1
   refine kj ?_
   refine eR ?_
   refine eR ?_
   refine kl ?_
   refine ax ?_
   refine ay ?_
   refine aI ?_
   refine ae (aP rfl) ?_
   refine aG ?_
   refine ax ?_
   refine cD ?_
   refine an (.inl rfl) (dX rfl rfl) (fun w hw=> ?_)
   exact⟨congrArg (fun b=>Ending.returned (Value.bool b)) ((decide_eq_true (MM (by omega) (fun j hj=>aH j (by omega)))).symm),hw.sub (List.nil_sublist _)⟩
end Go.Proofs.YtaipiecplldinaaGreat
