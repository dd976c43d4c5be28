/- Part of a proof. -/
import Derived.Test.YtaipiecplldinaaGreatG4
import Derived.Test.YtaipiecplldinaaGreatG3
import Derived.Test.YtaipiecplldinaaGreatG1
import Derived.Test.YtaipiecplldinaaGreatG2
set_option maxRecDepth 20000
set_option linter.unusedSimpArgs false
set_option linter.unusedVariables false
namespace Go.Proofs.YtaipiecplldinaaGreat
open Go.ay Go.Kb
open Go.RowKit
instance:fo Tryz.prog 3 (.int .i64 0):=⟨by kernel_rfl⟩
theorem zP(a:Sl Int):aw [a]=a.xs:=by simp[aw]
theorem GL(a b:Sl Int):aw [a,b]=a.xs++b.xs:=by simp[aw]
theorem WY(w:World)(xb:Nat)(xc:Cp)(xa:Sl Int)(xg:UInt64)(xl:Int)(xy:Bool)(eU:w.heap[xb]? =Option.some (.cells (aL (⟨⟨xc,xa,xg,xl⟩,xy⟩:aP)) 141 (0,0)))(dX:Deep.aZ (hp w) xc)(mZ:Deep.aZ (hp w) xa)(bf:qh (cv xc) xa.xs):Calls Tryz.prog 150 #[.pointer (some ⟨xb,0,none⟩)] w fun e w'=>e= .returned (.tuple #[.int .i64 ((m0 (cv xc) xa.xs).1), .int .i64 ((m0 (cv xc) xa.xs).2)])∧Mem w [] w':=by
 have sF:pC w xb (aL (⟨⟨xc,xa,xg,xl⟩,xy⟩:aP)) 141:=⟨eU⟩
 have sG:cM w xc:=⟨dX⟩
 have ah3:cM w xa:=⟨mZ⟩
 have oL:qh (cv xc) (aw [xa]):=by rw[zP];exact bf
 have hk:=bf.1.1
 have MY: ∀z∈(aB (cv xc) (aw [xa])),B3 (cv xc) (aw [xa]).length z:=fun z hz=>tC hk hz
 have tN:=Lk hk (aB (cv xc) (aw [xa])) MY
 have rB:=kf (cv xc) (aw [xa])
 have hd:=eH hk
 change _∧_∧1≤xc.ae∧xc.ae≤16∧_∧_ at hd
 refine bh (args:=[_]) Tryz.func150 rfl Tryz.ntmps150 rfl ?_
 change Cw _ _ _ _ _ [(0, .pointer (some ⟨xb,0,none⟩))] []
 refine Gc ?_
 iterate 2 refine Gs ?_
 refine Gc ?_
 iterate 2 refine Gs ?_
 refine Gc ?_
 iterate 5 refine Gs ?_
 refine ah (Ry.to (v':=xa.sv.val) (mu rfl) rfl) ?_
 refine pa (enc:=cd) (vals:=[xa.sv.val]) [xa] rfl (by simp only[List.map_cons,List.map_nil,Sv.jc];rfl) rfl (by decide) (by decide) fun WZ=> ?_
 refine bu (hc:=GK (l:=(⟨⟨false,WZ,0,1,1,none⟩,[xa]⟩:Sl (Sl Int)))) rfl oL fun aD km=> ?_
 iterate 2 refine Gs ?_
 refine Gc ?_
 refine ct (X:=Nat) (fun zz=>[(18, .int .i64 (zz:Nat)),(4, .int .i64 ((fD xc.ae ((aB (cv xc) (aw [xa])).take zz)).1)),(5, .int .i64 ((fD xc.ae ((aB (cv xc) (aw [xa])).take zz)).2)),(0, .pointer (some ⟨xb,0,none⟩)),(16,aD.val),(17, .int .i64 ((aB (cv xc) (aw [xa])).length:Nat))]) (fun zz=>[own bC 4 aD (aB (cv xc) (aw [xa]))]) (fun zz=>zz≤(aB (cv xc) (aw [xa])).length) (fun zz=>(aB (cv xc) (aw [xa])).length -zz) 0 (Nat.zero_le _) (Sub.cons rfl (Sub.cons (look_eq rfl (by rw[List.take_zero];rfl)) (Sub.cons (look_eq rfl (by rw[List.take_zero];rfl)) (Sub.cons rfl (Sub.cons rfl (Sub.cons rfl (Sub.nil _))))))) (fun w hw=>ai.mem hw) ?_
 rintro i bl
 refine Gc ?_
 refine Gs ?_
 refine Gc ?_
 refine av rfl (fun h0=> ?_) (fun h0=> ?_)
 ·
  replace h0:=bz h0
  obtain⟨z,hz⟩:=get_some (xs:=(aB (cv xc) (aw [xa]))) (i:=i) (by omega)
  have eS:=Lj (p:=xc.ae) hz
  have ht:=MY z (List.mem_of_getElem? hz)
  have MZ:=ht.zn
  have CJ:z.used≤xc.ae:=ht.w8
  have gJ:0≤(fD xc.ae ((aB (cv xc) (aw [xa])).take i)).1∧(fD xc.ae ((aB (cv xc) (aw [xa])).take i)).1≤16*(i:Int)∧0≤(fD xc.ae ((aB (cv xc) (aw [xa])).take i)).2∧(fD xc.ae ((aB (cv xc) (aw [xa])).take i)).2≤16:=tN i (by omega)
  refine Gc ?_
  refine ah (bo rfl rfl i rfl (by omega)) ?_
  refine ah (jb rfl i hz rfl) ?_
  refine bM fun b7=> ?_
  refine Gs ?_
  refine Gc ?_
  iterate 2 refine Gs ?_
  refine Gc ?_
  refine av rfl (fun h1=> ?_) (fun h1=> ?_)
  ·
   replace h1:=bz h1
   have bH:(fD xc.ae ((aB (cv xc) (aw [xa])).take (i+1)))=(fD xc.ae ((aB (cv xc) (aw [xa])).take i)):=by rw[eS,vm,if_pos h1]
   refine Gc ?_
   iterate 2 refine Gs ?_
   refine Gi ?_
   exact bI (x:=(i)) (i+1) (by first|omega|(simp only[];omega)) (by first|omega|(simp only[];omega)) (Sub.cons rfl (Sub.cons (look_eq rfl (by rw[bH])) (Sub.cons (look_eq rfl (by rw[bH])) (Sub.cons rfl (Sub.cons rfl (Sub.cons rfl (Sub.nil _))))))) (fun w hw=>ai.mem hw)
  ·
   replace h1:=bz h1
   have pt: ¬z.bad=true:=by rw[h1];simp
   refine Gc ?_
   refine jw (by kernel_rfl) (by kernel_rfl) ?_
   iterate 5 refine Gq ?_
   refine bA (Ry.to (v':= .int .i64 xc.ae) (mu rfl) rfl) ?_
   iterate 4 refine Gq ?_
   refine Gc ?_
   iterate 3 refine Gs ?_
   refine Gc ?_
   refine av rfl (fun h2=> ?_) (fun h2=> ?_)
   ·
    replace h2:=bz h2
    refine Gc ?_
    iterate 2 refine Gs ?_
    refine Gc ?_
    refine av rfl (fun h3=> ?_) (fun h3=> ?_)
    ·
     replace h3:=bz h3
     have hN:qn xc.ae z=xc.ae:=by rw[qn,if_pos ⟨h2,h3⟩]
     have bH:(fD xc.ae ((aB (cv xc) (aw [xa])).take (i+1)))=((fD xc.ae ((aB (cv xc) (aw [xa])).take i)).1+xc.ae,max (fD xc.ae ((aB (cv xc) (aw [xa])).take i)).2 xc.ae):=by rw[eS,vm,if_neg pt,if_pos h2,hN]
     refine Gi ?_
     iterate 5 refine Gs ?_
     refine ah (Ry.to (v':= .int .i64 xc.ae) (mu rfl) rfl) ?_
     refine Gs ?_
     refine Gc ?_
     iterate 2 refine Gs ?_
     refine ah (uE rfl rfl) ?_
     refine Gs ?_
     refine Gc ?_
     iterate 4 refine Gs ?_
     refine Gc ?_
     iterate 2 refine Gs ?_
     refine Gi ?_
     exact bI (x:=(i)) (i+1) (by first|omega|(simp only[];omega)) (by first|omega|(simp only[];omega)) (Sub.cons rfl (Sub.cons (look_eq rfl (by rw[bH])) (Sub.cons (look_eq rfl (by rw[bH])) (Sub.cons rfl (Sub.cons rfl (Sub.cons rfl (Sub.nil _))))))) (fun w hw=>ai.mem hw)
    ·
     replace h3:=bz h3
     have hN:qn xc.ae z=xc.ae -z.used:=by rw[qn,if_neg (fun h=>h3 h.2)]
     have bH:(fD xc.ae ((aB (cv xc) (aw [xa])).take (i+1)))=((fD xc.ae ((aB (cv xc) (aw [xa])).take i)).1+(xc.ae -z.used),max (fD xc.ae ((aB (cv xc) (aw [xa])).take i)).2 (xc.ae -z.used)):=by rw[eS,vm,if_neg pt,if_pos h2,hN]
     refine Gc ?_
     iterate 2 refine Gs ?_
     refine ah (uE rfl rfl) ?_
     refine Gs ?_
     refine Gc ?_
     iterate 4 refine Gs ?_
     refine Gc ?_
     iterate 2 refine Gs ?_
     refine Gi ?_
     exact bI (x:=(i)) (i+1) (by first|omega|(simp only[];omega)) (by first|omega|(simp only[];omega)) (Sub.cons rfl (Sub.cons (look_eq rfl (by rw[bH])) (Sub.cons (look_eq rfl (by rw[bH])) (Sub.cons rfl (Sub.cons rfl (Sub.cons rfl (Sub.nil _))))))) (fun w hw=>ai.mem hw)
   ·
    replace h2:=bz h2
    have hN:qn xc.ae z=xc.ae -z.used:=by rw[qn,if_neg (fun h=>h2 h.1)]
    have bH:(fD xc.ae ((aB (cv xc) (aw [xa])).take (i+1)))=((fD xc.ae ((aB (cv xc) (aw [xa])).take i)).1+(xc.ae -z.used),(fD xc.ae ((aB (cv xc) (aw [xa])).take i)).2):=by rw[eS,vm,if_neg pt,if_neg h2,hN]
    refine Gc ?_
    iterate 4 refine Gs ?_
    refine Gc ?_
    iterate 2 refine Gs ?_
    refine Gi ?_
    exact bI (x:=(i)) (i+1) (by first|omega|(simp only[];omega)) (by first|omega|(simp only[];omega)) (Sub.cons rfl (Sub.cons (look_eq rfl (by rw[bH])) (Sub.cons (look_eq rfl (by rw[bH])) (Sub.cons rfl (Sub.cons rfl (Sub.cons rfl (Sub.nil _))))))) (fun w hw=>ai.mem hw)
 ·
  replace h0:=bz h0
  obtain rfl:i=(aB (cv xc) (aw [xa])).length:=by omega
  have hE:m0 (cv xc) xa.xs=((fD xc.ae ((aB (cv xc) (aw [xa])).take (aB (cv xc) (aw [xa])).length)).1 -(fD xc.ae ((aB (cv xc) (aw [xa])).take (aB (cv xc) (aw [xa])).length)).2,(fD xc.ae ((aB (cv xc) (aw [xa])).take (aB (cv xc) (aw [xa])).length)).1):=by rw[m0,←zP xa,List.take_length];rfl
  have gJ:0≤(fD xc.ae ((aB (cv xc) (aw [xa])).take (aB (cv xc) (aw [xa])).length)).1∧(fD xc.ae ((aB (cv xc) (aw [xa])).take (aB (cv xc) (aw [xa])).length)).1≤16*((aB (cv xc) (aw [xa])).length:Int)∧0≤(fD xc.ae ((aB (cv xc) (aw [xa])).take (aB (cv xc) (aw [xa])).length)).2∧(fD xc.ae ((aB (cv xc) (aw [xa])).take (aB (cv xc) (aw [xa])).length)).2≤16:=tN (aB (cv xc) (aw [xa])).length (Nat.le_refl _)
  refine Gc ?_
  iterate 6 refine Gs ?_
  refine Gc ?_
  refine au (.inl rfl) (bq rfl (aq rfl) (aq rfl)) (fun w1 hw=> ?_)
  exact⟨by rw[hE],ai.mem hw⟩
instance ah4{w0:World}{L:List ak}{xb:Nat}{xc:Cp}{xa:Sl Int}{xg:UInt64}{xl:Int}{xy:Bool}[eU:lr w0 L xb (aL (⟨⟨xc,xa,xg,xl⟩,xy⟩:aP)) 141][dX:aW w0 L xc][mZ:aW w0 L xa]:cR Tryz.prog 150 w0 L [.pointer (some ⟨xb,0,none⟩)] (.tuple #[.int .i64 ((m0 (cv xc) xa.xs).1), .int .i64 ((m0 (cv xc) xa.xs).2)]) (qh (cv xc) xa.xs):=⟨fun hp w hw=>WY w xb xc xa xg xl xy (eU.h w hw) (dX.h w hw) (mZ.h w hw) hp⟩
theorem W0(w:World)(x:aA):Calls Tryz.prog 175 #[.agg (bC x)] w fun e w'=>e= .returned (.bool (vl x))∧Mem w [] w':=by
 refine bh (args:=[_]) Tryz.func175 rfl Tryz.ntmps175 rfl ?_
 change Cw _ _ _ _ _ [(0, .agg (bC x))] []
 refine Gc ?_
 refine cA rfl fun b1=> ?_
 refine Gs ?_
 refine Gc ?_
 iterate 4 refine Gs ?_
 refine Gc ?_
 refine au (.inl rfl) (aQ rfl (aq rfl)) (fun w1 hw=> ?_)
 exact⟨congrArg (fun b=>Ending.returned (Value.bool b)) (rfl),ai.mem hw⟩
instance {w0:World}{L:List ak}:qz Tryz.prog w0 L 175 #[] bC vl:=⟨inferInstance,fun w _ x=>W0 w x⟩
theorem W1(w:World)(x:aA):Calls Tryz.prog 176 #[.agg (bC x)] w fun e w'=>e= .returned (.bool (gH x))∧Mem w [] w':=by
 refine bh (args:=[_]) Tryz.func176 rfl Tryz.ntmps176 rfl ?_
 change Cw _ _ _ _ _ [(0, .agg (bC x))] []
 refine Gc ?_
 refine cA rfl fun b1=> ?_
 refine Gs ?_
 refine Gc ?_
 iterate 4 refine Gs ?_
 refine Gc ?_
 refine au (.inl rfl) (aQ rfl (aq rfl)) (fun w1 hw=> ?_)
 exact⟨congrArg (fun b=>Ending.returned (Value.bool b)) (rfl),ai.mem hw⟩
instance {w0:World}{L:List ak}:qz Tryz.prog w0 L 176 #[] bC gH:=⟨inferInstance,fun w _ x=>W1 w x⟩
theorem W2(w0 w:World)(L:List ak)(k:Nat)(xc:Cp)(xa:Sl Int)(xg:UInt64)(xl:Int)(xy:Bool)(l:Sl (Sl Int))[hl:aW w0 L l](hw:Mem w0 (ar k (aL (⟨⟨xc,xa,xg,xl⟩,xy⟩:aP)) 141::fz xc::L) w)(bf:aT (cv xc)=true∧3≤(cv xc).blocks.length∧ig (cv xc) (aw l.xs)∧(aw l.xs).length≤1000):Calls Tryz.prog 153 #[.pointer (some ⟨k,0,none⟩),l.sv.val] w fun e w'=> ∃zz:Cp,e= .returned (.tuple #[.int .i64 ((bg (cv xc) (aw l.xs) xy).2.1), .int .i64 ((bg (cv xc) (aw l.xs) xy).2.2)])∧(cv zz=(bg (cv xc) (aw l.xs) xy).1)∧Mem w0 (ar k (aL (⟨⟨zz,xa,xg,xl⟩,xy⟩:aP)) 141::fz zz::L) w':=by
 obtain⟨hk,xM,vJ,nG⟩:=bf
 have oL:=vJ.kn hk (by omega) (by omega)
 have hd:=eH hk
 have rB:=kf (cv xc) (aw l.xs)
 refine kv (args:=[_,_]) Tryz.func153 rfl Tryz.ntmps153 rfl hw ?_
 change Cw _ _ _ _ _ [(0, .pointer (some ⟨k,0,none⟩)),(1,l.sv.val)] (ar k (aL (⟨⟨xc,xa,xg,xl⟩,xy⟩:aP)) 141::fz xc::L)
 refine Gc ?_
 iterate 2 refine Gs ?_
 refine Gc ?_
 refine jd [2] [[],[],[],[],[],[],[],[],[],[2],[2]] [0,1,3,4,5,6,7,8,2,9,10] [ar k (aL (⟨⟨xc,xa,xg,xl⟩,xy⟩:aP)) 141,fz xc] (fun _ hw=>ai.mem hw) (by kernel_rfl) (by kernel_rfl) ?_
 refine al rfl (aE rfl) ?_
 refine al rfl (aE rfl) ?_
 refine al rfl (aE rfl) ?_
 refine al rfl (jO rfl) ?_
 refine al rfl (aI (o':=0) rfl rfl) ?_
 refine al rfl (aI (o':=0) rfl rfl) ?_
 refine al rfl (aI (o':=0) rfl rfl) ?_
 refine al rfl (Ry.to (v':= .int .i64 xc.ae) (bJ rfl) rfl) ?_
 refine dC rfl (nA rfl oL fun gT vB=>⟨fun _ hw=>ai.mem hw,?_⟩)
 refine al rfl (bn rfl) ?_
 refine al rfl (bn rfl) ?_
 refine Gc ?_
 refine Gs ?_
 refine bu rfl (by omega) fun xw Gk=> ?_
 iterate 3 refine Gs ?_
 refine ah (aU (v:= .int .i64 ((eY (bZ vl (aB (cv xc) (aw l.xs))) xc.ae).1)) rfl rfl) ?_
 refine ah (aU (v:= .bool ((eY (bZ vl (aB (cv xc) (aw l.xs))) xc.ae).2)) rfl rfl) ?_
 iterate 2 refine Gs ?_
 refine Gc ?_
 refine Gs ?_
 refine Gc ?_
 refine av rfl (fun h0=> ?_) (fun h0=> ?_)
 ·
  replace h0:=bz h0
  have nQ:(mX (cv xc) (aw l.xs)).2=true:=h0
  have hE:(bg (cv xc) (aw l.xs) xy)=(cv xc,(mX (cv xc) (aw l.xs)).1+2,0):=by rw[bg,if_pos nQ]
  have nc:=Lf nQ
  change 0≤(eY (bZ vl (aB (cv xc) (aw l.xs))) xc.ae).1∧(eY (bZ vl (aB (cv xc) (aw l.xs))) xc.ae).1<_∧_ at nc
  refine Gc ?_
  iterate 4 refine Gs ?_
  refine Gc ?_
  refine au (.inl rfl) (bq rfl (aq rfl) (aq rfl)) (fun w1 hw=> ?_)
  exact⟨xc,by rw[hE];rfl,by rw[hE],ai.mem hw⟩
 ·
  replace h0:=bz h0
  have nQ: ¬(mX (cv xc) (aw l.xs)).2=true:=fun h=>by rw[show(mX (cv xc) (aw l.xs)).2=false from h0]at h;cases h
  refine Gc ?_
  refine Gs ?_
  refine Gc ?_
  iterate 3 refine Gs ?_
  refine Gc ?_
  refine ct (X:=Nat) (fun zz=>[(39, .int .i64 (zz:Nat)),(10, .int .i64 ((((aB (cv xc) (aw l.xs)).take zz).filter fun z=> !z.bad&&decide (z.live=0)).length:Nat)),(0, .pointer (some ⟨k,0,none⟩)),(6,gT.val),(7, .int .i64 xc.ae),(37,gT.val),(38, .int .i64 ((aB (cv xc) (aw l.xs)).length:Nat))]) (fun zz=>ar k (aL (⟨⟨xc,xa,xg,xl⟩,xy⟩:aP)) 141::fz xc::own bC 4 gT (aB (cv xc) (aw l.xs))::L) (fun zz=>zz≤(aB (cv xc) (aw l.xs)).length) (fun zz=>(aB (cv xc) (aw l.xs)).length -zz) 0 (Nat.zero_le _) (Sub.cons rfl (Sub.cons rfl (Sub.cons rfl (Sub.cons rfl (Sub.cons rfl (Sub.cons rfl (Sub.cons rfl (Sub.nil _)))))))) (fun w hw=>ai.mem hw) ?_
  rintro i bl
  refine Gc ?_
  refine Gs ?_
  refine Gc ?_
  refine av rfl (fun h1=> ?_) (fun h1=> ?_)
  ·
   replace h1:=bz h1
   obtain⟨z,hz⟩:=get_some (xs:=(aB (cv xc) (aw l.xs))) (i:=i) (by omega)
   have eS:=Tz hz
   have hle:=TA ((aB (cv xc) (aw l.xs)).take i)
   rw[List.length_take]at hle
   refine Gc ?_
   refine ah (bo rfl rfl i rfl (by omega)) ?_
   refine ah (jb rfl i hz rfl) ?_
   refine bM fun tV=> ?_
   refine Gs ?_
   refine Gc ?_
   iterate 4 refine Gs ?_
   iterate 3 refine Gg ?_
   refine Gs ?_
   refine Gc ?_
   refine av rfl (fun h2=> ?_) (fun h2=> ?_)
   ·
    replace h2:=bz h2
    rw[if_pos (by simpa using h2)]at eS
    refine Gi ?_
    iterate 3 refine Gs ?_
    refine Gc ?_
    iterate 2 refine Gs ?_
    refine Gi ?_
    exact bI (x:=(i)) (i+1) (by first|omega|(simp only[];omega)) (by first|omega|(simp only[];omega)) (Sub.cons rfl (Sub.cons (look_eq rfl (by rw[eS];rfl)) (Sub.cons rfl (Sub.cons rfl (Sub.cons rfl (Sub.cons rfl (Sub.cons rfl (Sub.nil _)))))))) (fun w hw=>ai.mem hw)
   ·
    replace h2:=bz h2
    rw[if_neg (fun g=>h2.elim (fun h=>absurd (h.symm.trans g.1) (by simp)) (fun h=>h g.2))]at eS
    refine Gc ?_
    iterate 2 refine Gs ?_
    refine Gi ?_
    exact bI (x:=(i)) (i+1) (by first|omega|(simp only[];omega)) (by first|omega|(simp only[];omega)) (Sub.cons rfl (Sub.cons (look_eq rfl (by rw[eS,Nat.add_zero])) (Sub.cons rfl (Sub.cons rfl (Sub.cons rfl (Sub.cons rfl (Sub.cons rfl (Sub.nil _)))))))) (fun w hw=>ai.mem hw)
  ·
   replace h1:=bz h1
   obtain rfl:i=(aB (cv xc) (aw l.xs)).length:=by omega
   have hG:fP (aB (cv xc) (aw l.xs))=(((aB (cv xc) (aw l.xs)).take (aB (cv xc) (aw l.xs)).length).filter fun z=> !z.bad&&decide (z.live=0)).length:=by rw[fP,List.take_length]
   refine Gc ?_
   iterate 3 refine Gs ?_
   iterate 2 refine Gg ?_
   refine bS rfl rfl rfl (fun hg=>(Ry.yl (aE (aG hg rfl)))) ?_
   refine lC rfl rfl rfl (fun hg=>(Ry.yl (aE rfl))) ?_
   refine lC rfl rfl rfl (fun hg=>(Ry.yl (jO (aG hg rfl)))) ?_
   refine lC rfl rfl rfl (fun hg=>(Ry.yl (aI (o':=9) (aG hg rfl) rfl))) ?_
   refine lC rfl rfl rfl (fun hg=>(Ry.yl (Ry.to (v':= .bool xy) (bJ (aG hg rfl)) rfl))) ?_
   refine lC rfl rfl rfl (fun hg=>(Ry.yl (iD (aG hg rfl)))) ?_
   refine bS rfl rfl rfl (fun hg=>(Ry.yl (uz (aG hg rfl) (sY hg rfl) rfl))) ?_
   refine Gs ?_
   refine Gc ?_
   refine av rfl (fun h3=> ?_) (fun h3=> ?_)
   ·
    replace h3:=bz h3
    have nR:fP (aB (cv xc) (aw l.xs))=0∨(fP (aB (cv xc) (aw l.xs))=1∧xy=false):=by
     rw[hG]
     rcases h3 with h|h
     ·
      exact .inl (by omega)
     ·
      exact .inr ⟨by omega,h.2⟩
    have hE:(bg (cv xc) (aw l.xs) xy)=(cv xc,0,5):=by rw[bg,if_neg nQ,if_pos nR]
    refine Gc ?_
    iterate 2 refine Gs ?_
    refine Gc ?_
    refine au (.inl rfl) (bq rfl (aq rfl) (aq rfl)) (fun w1 hw=> ?_)
    exact⟨xc,by rw[hE],by rw[hE],ai.mem hw⟩
   ·
    replace h3:=bz h3
    have nR: ¬(fP (aB (cv xc) (aw l.xs))=0∨(fP (aB (cv xc) (aw l.xs))=1∧xy=false)):=by
     rw[hG]
     rintro(h|h)
     ·
      exact h3.1 (by omega)
     ·
      rcases h3.2 with g|g
      ·
       exact g (by omega)
      ·
       rw[h.2]at g;cases g
    refine Gc ?_
    refine Gs ?_
    refine bu rfl (by omega) fun eK GM=> ?_
    refine Gs ?_
    refine Gc ?_
    iterate 4 refine Gs ?_
    refine ah (aU (v:= .int .i64 ((eY (bZ gH (aB (cv xc) (aw l.xs))) xc.ae).1)) rfl rfl) ?_
    refine ah (aU (v:= .bool ((eY (bZ gH (aB (cv xc) (aw l.xs))) xc.ae).2)) rfl rfl) ?_
    iterate 2 refine Gs ?_
    refine Gc ?_
    refine Gs ?_
    refine Gc ?_
    refine av rfl (fun h4=> ?_) (fun h4=> ?_)
    ·
     replace h4:=bz h4
     have jm:(kV (cv xc) (aw l.xs)).2=true:=h4
     have hE:(bg (cv xc) (aw l.xs) xy)=(cv xc,(kV (cv xc) (aw l.xs)).1+2,0):=by rw[bg,if_neg nQ,if_neg nR,if_pos jm]
     have nc:=Lg jm
     change 0≤(eY (bZ gH (aB (cv xc) (aw l.xs))) xc.ae).1∧(eY (bZ gH (aB (cv xc) (aw l.xs))) xc.ae).1<_∧_ at nc
     refine Gc ?_
     iterate 4 refine Gs ?_
     refine Gc ?_
     refine au (.inl rfl) (bq rfl (aq rfl) (aq rfl)) (fun w1 hw=> ?_)
     exact⟨xc,by rw[hE];rfl,by rw[hE],ai.mem hw⟩
    ·
     replace h4:=bz h4
     have jm: ¬(kV (cv xc) (aw l.xs)).2=true:=fun h=>by rw[show(kV (cv xc) (aw l.xs)).2=false from h4]at h;cases h
     obtain⟨d1,d2,d3⟩:=FD hk xM (fun e=>nR (.inl e)) jm
     change 0≤(eZ (bZ gH (aB (cv xc) (aw l.xs))) xc.ae).1 at d1
     change(eZ (bZ gH (aB (cv xc) (aw l.xs))) xc.ae).1<_ at d2
     have hE:(bg (cv xc) (aw l.xs) xy)=((cG (cv xc) (mY (cv xc) (aw l.xs)+2)).1,mY (cv xc) (aw l.xs)+2,(cG (cv xc) (mY (cv xc) (aw l.xs)+2)).2):=by rw[bg,if_neg nQ,if_neg nR,if_neg jm]
     refine Gc ?_
     iterate 4 refine Gs ?_
     refine ah (aU (v:= .int .i64 ((eZ (bZ gH (aB (cv xc) (aw l.xs))) xc.ae).1)) rfl rfl) ?_
     refine ah (aU (v:= .bool ((eZ (bZ gH (aB (cv xc) (aw l.xs))) xc.ae).2)) rfl rfl) ?_
     iterate 2 refine Gs ?_
     refine Gc ?_
     iterate 5 refine Gs ?_
     refine bu rfl ⟨hk,by omega,by omega⟩ fun W3 W4=> ?_
     iterate 2 refine Gs ?_
     refine Gc ?_
     refine au (.inl rfl) (bq rfl (aq rfl) (aq rfl)) (fun w1 hw=> ?_)
     exact⟨W3,by rw[hE];rfl,by rw[W4,hE];rfl,ai.mem hw⟩
instance ah5{w0:World}{L R1 L2:List ak}{i0 i1:Nat}{k:Nat}{xc:Cp}{xa:Sl Int}{xg:UInt64}{xl:Int}{xy:Bool}{l:Sl (Sl Int)}[q0:Has L k (aL (⟨⟨xc,xa,xg,xl⟩,xy⟩:aP)) 141 i0][d0:dx L i0 R1][q1:At R1 (fz xc) i1][d1:dx R1 i1 L2][hl:aW w0 L2 l]:cw Tryz.prog 153 w0 L [.pointer (some ⟨k,0,none⟩),l.sv.val] (Cp) (fun zz=> .tuple #[.int .i64 ((bg (cv xc) (aw l.xs) xy).2.1), .int .i64 ((bg (cv xc) (aw l.xs) xy).2.2)]) (fun zz=>ar k (aL (⟨⟨zz,xa,xg,xl⟩,xy⟩:aP)) 141::fz zz::L2) (fun zz=>cv zz=(bg (cv xc) (aw l.xs) xy).1) (aT (cv xc)=true∧3≤(cv xc).blocks.length∧ig (cv xc) (aw l.xs)∧(aw l.xs).length≤1000):=⟨fun hp w hw=>W2 w0 w L2 k xc xa xg xl xy l (sq q0.h d0.h q1.h d1.h hw) hp⟩
open Go.ay Go.Kb
open Go.RowKit
theorem W5(w0 w:World)(L:List ak)(k:Nat)(xc:Cp)(xa:Sl Int)(xg:UInt64)(xl:Int)(xy:Bool)(q:ez)(l:Sl (Sl Int))[hq:aW w0 L q][hl:aW w0 L l](hw:Mem w0 (ar k (aL (⟨⟨xc,xa,xg,xl⟩,xy⟩:aP)) 141::fz xc::L) w)(bf:aT (cv xc)=true∧3≤(cv xc).blocks.length∧ig (cv xc) (aw l.xs)∧(aw l.xs).length≤1000):Calls Tryz.prog 127 #[.pointer (some ⟨k,0,none⟩), .agg (cL q),l.sv.val] w fun e w'=> ∃zz:Cp,e= .returned (.tuple #[.int .i64 ((da (cv xc) (aw l.xs) xy (cF q)).2.1), .int .i64 ((da (cv xc) (aw l.xs) xy (cF q)).2.2)])∧(cv zz=(da (cv xc) (aw l.xs) xy (cF q)).1)∧Mem w0 (ar k (aL (⟨⟨zz,xa,xg,xl⟩,xy⟩:aP)) 141::fz zz::L) w':=by
 obtain⟨hk,xM,vJ,nG⟩:=bf
 have hd:=eH hk
 have uO:1≤xc.ae∧xc.ae≤16:=⟨hd.2.2.1,hd.2.2.2.1⟩
 refine kv (args:=[_,_,_]) Tryz.func127 rfl Tryz.ntmps127 rfl hw ?_
 change Cw _ _ _ _ _ [(0, .pointer (some ⟨k,0,none⟩)),(1, .agg (cL q)),(2,l.sv.val)] (ar k (aL (⟨⟨xc,xa,xg,xl⟩,xy⟩:aP)) 141::fz xc::L)
 refine Gc ?_
 refine cA rfl fun b4=> ?_
 iterate 2 refine Gs ?_
 refine Gc ?_
 refine jd [7] [[],[],[],[],[],[],[],[],[7],[7],[7],[7],[7]] [0,1,2,3,4,5,6,7,8,9,10,11,12] [ar b4 (cL q) 110,ar k (aL (⟨⟨xc,xa,xg,xl⟩,xy⟩:aP)) 141,fz xc] (fun _ hw=>ai.mem hw) (by kernel_rfl) (by kernel_rfl) ?_
 refine al rfl (gu rfl) ?_
 refine al rfl (aE rfl) ?_
 refine al rfl (jO rfl) ?_
 refine al rfl (aI (o':=0) rfl rfl) ?_
 refine al rfl (aI (o':=0) rfl rfl) ?_
 refine al rfl (aI (o':=1) rfl rfl) ?_
 refine al rfl (Ry.to (v':= .int .i64 xc.size) (bJ rfl) rfl) ?_
 refine dC rfl (nA rfl trivial fun jn GN=>⟨fun _ hw=>ai.mem hw,?_⟩)
 skip
 refine al rfl (aE rfl) ?_
 refine al rfl (aU (v:=jn.val) rfl rfl) ?_
 refine al rfl (aU (v:= .int .i64 ((dr (cF q) xc.size).2)) rfl rfl) ?_
 refine al rfl (bn rfl) ?_
 refine al rfl (bn rfl) ?_
 refine Gc ?_
 iterate 2 refine Gs ?_
 refine Gc ?_
 refine av rfl (fun h0=> ?_) (fun h0=> ?_)
 ·
  replace h0:=bz h0
  have hE:(da (cv xc) (aw l.xs) xy (cF q))=(cv xc,0,(dr (cF q) xc.size).2):=by rw[da,if_pos (show(dr (cF q) (cv xc).size).2≠0 from h0)];rfl
  refine Gc ?_
  iterate 3 refine Gs ?_
  refine Gc ?_
  refine au (.inl rfl) (bq rfl (aq rfl) (aq rfl)) (fun w1 hw=> ?_)
  exact⟨xc,by rw[hE],by rw[hE],ai.mem hw⟩
 ·
  replace h0:=bz h0
  refine Gc ?_
  refine ct (X:=Nat×Cp) (fun zz=>[(0, .pointer (some ⟨k,0,none⟩)),(2,l.sv.val),(8,jn.val)]) (fun zz=>ar k (aL (⟨⟨zz.2,xa,xg,xl⟩,xy⟩:aP)) 141::fz zz.2::own aM 1 jn (dr (cF q) xc.size).1::L) (fun zz=>(da (cv xc) (aw l.xs) xy (cF q))=gR zz.1 (cv zz.2) (aw l.xs) xy (dr (cF q) xc.size).1∧aT (cv zz.2)=true∧dL (cv xc) (cv zz.2)∧(cN -(cv zz.2).ops).toNat<zz.1) (fun zz=>zz.1) ((cN -(cv xc).ops).toNat+1,xc) ⟨by rw[da,if_neg (show ¬(dr (cF q) (cv xc).size).2≠0 from fun h=>h h0)];rfl,hk, .bY _,by simp only;omega⟩ (Sub.cons rfl (Sub.cons rfl (Sub.cons rfl (Sub.nil _)))) (fun w hw=>ai.mem hw) ?_
  rintro⟨m,d⟩ ⟨bl,aH,bB,c6⟩
  dsimp only
  simp only at bl aH bB c6
  obtain⟨n,rfl⟩: ∃n,m=n+1:=⟨m -1,by omega⟩
  refine Gc ?_
  iterate 2 refine Gs ?_
  refine bu rfl ⟨aH,by rw[bB.len];exact xM,vJ.cx bB,nG⟩ fun my vK=> ?_
  obtain⟨f1,f2,f3,f4,f5⟩:=B5 (c:=cv d) (fl:=(aw l.xs)) (aC:=xy) aH (by rw[bB.len];exact xM)
  rw[←vK]at f1 f2 f3 f4 f5
  have f6:=bB.trans f2
  have dF:(cv my).blocks.length=my.blocks.xs.length:=gD _
  have U0:=f6.len
  have ng:my.ae=xc.ae:=f6.ae
  have zQ:=bB.len
  have MX:=qm f1
  refine Gs ?_
  refine ah (aU (v:= .int .i64 ((bg (cv d) (aw l.xs) xy).2.1)) rfl rfl) ?_
  refine ah (aU (v:= .int .i64 ((bg (cv d) (aw l.xs) xy).2.2)) rfl rfl) ?_
  iterate 2 refine Gs ?_
  refine Gc ?_
  iterate 2 refine Gs ?_
  refine Gc ?_
  refine av rfl (fun h1=> ?_) (fun h1=> ?_)
  ·
   replace h1:=bz h1
   have eD:(bg (cv d) (aw l.xs) xy).2.2=0:=h1
   obtain⟨g1,g2,g3⟩:=f4 eD
   obtain⟨B,hB⟩:=get_some (xs:=my.blocks.xs) (i:=(bg (cv d) (aw l.xs) xy).2.1.toNat) (by omega)
   have qy:Mb B my.blocks:=⟨List.mem_of_getElem? hB⟩
   have eI:=ra hB
   have fV:=eX.1 (rb f1 (b:=(bg (cv d) (aw l.xs) xy).2.1) (by omega) (by omega))
   have oN:(aj (cv my) (bg (cv d) (aw l.xs) xy).2.1).used=B.used:=by rw[eI];rfl
   rw[oN]at fV
   have W6:(cv my).ae=xc.ae:=ng
   rw[W6]at fV
   have lP:0≤(bg (cv d) (aw l.xs) xy).2.1*xc.ae:=Int.mul_nonneg (by omega) (by omega)
   have na:(bg (cv d) (aw l.xs) xy).2.1*xc.ae≤32*16:=Int.mul_le_mul (by omega) (by omega) (by omega) (by omega)
   refine Gi ?_
   refine jw (by kernel_rfl) (by kernel_rfl) ?_
   iterate 6 refine Gq ?_
   refine bA (Ry.to (v':= .int .i64 xc.ae) (bJ rfl) (by rw[←ng])) ?_
   refine bA (uC rfl rfl (by omega)) ?_
   iterate 5 refine Gq ?_
   refine bA (Ry.to (v':=my.blocks.sv.val) (bJ rfl) rfl) ?_
   refine Gq ?_
   refine bA (bo rfl rfl ((bg (cv d) (aw l.xs) xy).2.1.toNat) (by omega) (by omega)) ?_
   refine bA (aI rfl rfl) ?_
   refine bA (bO (j:=1) rfl ((bg (cv d) (aw l.xs) xy).2.1.toNat) hB rfl (by decide)) ?_
   iterate 3 refine Gq ?_
   refine Gc ?_
   iterate 3 refine Gs ?_
   refine bu rfl ⟨f1,by omega,by omega⟩ fun GO xN=> ?_
   refine Gs ?_
   refine Gc ?_
   iterate 2 refine Gs ?_
   refine Gc ?_
   refine av rfl (fun h2=> ?_) (fun h2=> ?_)
   ·
    replace h2:=bz h2
    have fk:(bm (cv my) (bg (cv d) (aw l.xs) xy).2.1 (dr (cF q) xc.size).1)=0:=h2
    have hE:(da (cv xc) (aw l.xs) xy (cF q))=(bj (cv my) (bg (cv d) (aw l.xs) xy).2.1 (dr (cF q) xc.size).1,(bg (cv d) (aw l.xs) xy).2.1*xc.ae+B.used+1,0):=by
     rw[bl,gR,←vK,if_pos eD,if_pos fk,oN,show(cv d).ae=xc.ae from bB.ae]
    refine Gc ?_
    iterate 3 refine Gs ?_
    refine Gc ?_
    refine au (.inl rfl) (bq rfl (aq rfl) (aq rfl)) (fun w1 hw=> ?_)
    exact⟨GO,by rw[hE],by rw[hE,xN],ai.mem hw⟩
   ·
    replace h2:=bz h2
    have fk: ¬(bm (cv my) (bg (cv d) (aw l.xs) xy).2.1 (dr (cF q) xc.size).1)=0:=h2
    refine Gc ?_
    iterate 2 refine Gs ?_
    refine Gc ?_
    refine av rfl (fun h3=> ?_) (fun h3=> ?_)
    ·
     replace h3:=bz h3
     refine Gc ?_
     iterate 3 refine Gs ?_
     refine Gc ?_
     refine au (.inl rfl) (bq rfl (aq rfl) (aq rfl)) (fun w1 hw=> ?_)
     exact⟨GO,by rw[bl,gR,←vK,if_pos eD,if_neg fk,if_pos (show(bm (cv my) (bg (cv d) (aw l.xs) xy).2.1 (dr (cF q) xc.size).1)≠9 from h3)],by rw[xN,bl,gR,←vK,if_pos eD,if_neg fk,if_pos (show(bm (cv my) (bg (cv d) (aw l.xs) xy).2.1 (dr (cF q) xc.size).1)≠9 from h3)],ai.mem hw⟩
    ·
     replace h3:=bz h3
     iterate 2 refine Gi ?_
     have nR:(bm (cv my) (bg (cv d) (aw l.xs) xy).2.1 (dr (cF q) xc.size).1)=9:=h3
     have zR:=q9 g3 (p:=(dr (cF q) xc.size).1) (.inl nR)
     have GP:=qm (iI f1 (bg (cv d) (aw l.xs) xy).2.1 (dr (cF q) xc.size).1)
     rw[zR]at GP
     exact bI (x:=(n+1,d)) (n,GO) ⟨by rw[bl,gR,←vK,if_pos eD,if_neg fk,if_neg (by simpa using nR),xN],by rw[xN];exact iI f1 _ _,by rw[xN];exact f6.trans (gm _ _ _),by rw[xN,zR];omega⟩ (by simp only;omega) (Sub.cons rfl (Sub.cons rfl (Sub.cons rfl (Sub.nil _)))) (fun w hw=>ai.mem hw)
  ·
   replace h1:=bz h1
   have eD: ¬(bg (cv d) (aw l.xs) xy).2.2=0:=h1
   refine Gc ?_
   iterate 2 refine Gs ?_
   refine Gc ?_
   refine av rfl (fun h3=> ?_) (fun h3=> ?_)
   ·
    replace h3:=bz h3
    refine Gc ?_
    iterate 3 refine Gs ?_
    refine Gc ?_
    refine au (.inl rfl) (bq rfl (aq rfl) (aq rfl)) (fun w1 hw=> ?_)
    exact⟨my,by rw[bl,gR,if_neg eD,if_pos (show(bg (cv d) (aw l.xs) xy).2.2≠9 from h3)],by rw[vK,bl,gR,if_neg eD,if_pos (show(bg (cv d) (aw l.xs) xy).2.2≠9 from h3)],ai.mem hw⟩
   ·
    replace h3:=bz h3
    iterate 2 refine Gi ?_
    have nR:(bg (cv d) (aw l.xs) xy).2.2=9:=h3
    exact bI (x:=(n+1,d)) (n,my) ⟨by rw[bl,gR,if_neg eD,if_neg (by simpa using nR),vK],f1,f6,by have:=f5 nR;simp only;omega⟩ (by simp only;omega) (Sub.cons rfl (Sub.cons rfl (Sub.cons rfl (Sub.nil _)))) (fun w hw=>ai.mem hw)
instance W7{w0:World}{L R1 L2:List ak}{i0 i1:Nat}{k:Nat}{xc:Cp}{xa:Sl Int}{xg:UInt64}{xl:Int}{xy:Bool}{q:ez}{l:Sl (Sl Int)}[q0:Has L k (aL (⟨⟨xc,xa,xg,xl⟩,xy⟩:aP)) 141 i0][d0:dx L i0 R1][q1:At R1 (fz xc) i1][d1:dx R1 i1 L2][hq:aW w0 L2 q][hl:aW w0 L2 l]:cw Tryz.prog 127 w0 L [.pointer (some ⟨k,0,none⟩), .agg (cL q),l.sv.val] (Cp) (fun zz=> .tuple #[.int .i64 ((da (cv xc) (aw l.xs) xy (cF q)).2.1), .int .i64 ((da (cv xc) (aw l.xs) xy (cF q)).2.2)]) (fun zz=>ar k (aL (⟨⟨zz,xa,xg,xl⟩,xy⟩:aP)) 141::fz zz::L2) (fun zz=>cv zz=(da (cv xc) (aw l.xs) xy (cF q)).1) (aT (cv xc)=true∧3≤(cv xc).blocks.length∧ig (cv xc) (aw l.xs)∧(aw l.xs).length≤1000):=⟨fun hp w hw=>W5 w0 w L2 k xc xa xg xl xy q l (sq q0.h d0.h q1.h d1.h hw) hp⟩
open Go.ay Go.Kb
open Go.RowKit
theorem W8(w0 w:World)(L:List ak)(k:Nat)(xc:Cp)(xa:Sl Int)(xg:UInt64)(xl:Int)(xy:Bool)(hw:Mem w0 (ar k (aL (⟨⟨xc,xa,xg,xl⟩,xy⟩:aP)) 141::fz xc::L) w)(bf:aT (cv xc)=true∧2≤(cv xc).blocks.length∧(xl=0∨xl=1)):Calls Tryz.prog 154 #[.pointer (some ⟨k,0,none⟩)] w fun e w'=> ∃zz:Cp,e= .returned (.tuple #[.int .i64 ((aV (cv xc) xl).2.1), .int .i64 ((aV (cv xc) xl).2.2)])∧(cv zz=(aV (cv xc) xl).1)∧Mem w0 (ar k (aL (⟨⟨zz,xa,xg,xl⟩,xy⟩:aP)) 141::fz zz::L) w':=by
 obtain⟨hk,pv,MS⟩:=bf
 have dF:(cv xc).blocks.length=xc.blocks.xs.length:=gD _
 obtain⟨Bo,fV⟩:=get_some (xs:=xc.blocks.xs) (i:=(1 -xl).toNat) (by omega)
 have mbo:Mb Bo xc.blocks:=⟨List.mem_of_getElem? fV⟩
 have xI:=ra fV
 refine kv (args:=[_]) Tryz.func154 rfl Tryz.ntmps154 rfl hw ?_
 change Cw _ _ _ _ _ [(0, .pointer (some ⟨k,0,none⟩))] (ar k (aL (⟨⟨xc,xa,xg,xl⟩,xy⟩:aP)) 141::fz xc::L)
 refine Gc ?_
 iterate 2 refine Gs ?_
 refine Gc ?_
 iterate 4 refine Gs ?_
 refine ah (Ry.to (v':= .int .i64 xl) (bJ rfl) rfl) ?_
 iterate 2 refine Gs ?_
 refine Gc ?_
 iterate 4 refine Gs ?_
 refine ah (Ry.to (v':= .int .i64 xl) (bJ rfl) rfl) ?_
 refine Gs ?_
 refine pa (enc:=bP) (vals:=[_,_]) [xl,1 -xl] rfl rfl rfl (by decide) (by decide) fun pB=> ?_
 iterate 2 refine Gs ?_
 refine Gc ?_
 refine ct (X:=Nat) (fun zz=>[(21, .int .i64 (zz:Nat)),(0, .pointer (some ⟨k,0,none⟩)),(4, .int .i64 (1 -xl)),(19,(⟨false,pB,0,2,2,none⟩:Sv).val),(20, .int .i64 ([xl,1 -xl].length:Nat))]) (fun zz=>ar k (aL (⟨⟨xc,xa,xg,xl⟩,xy⟩:aP)) 141::fz xc::own bP 1 ⟨false,pB,0,2,2,none⟩ [xl,1 -xl]::L) (fun zz=>zz≤2∧ ∀(j:Nat) (y:Int),j<zz→[xl,1 -xl][j]? =Option.some y→ ¬0<dV (cv xc) y) (fun zz=>2 -zz) 0 ⟨Nat.zero_le _,fun j y hj=>by first|omega|(simp only[];omega)⟩ (Sub.cons rfl (Sub.cons rfl (Sub.cons rfl (Sub.cons rfl (Sub.cons rfl (Sub.nil _)))))) (fun w hw=>ai.mem hw) ?_
 rintro i ⟨bl,aH⟩
 refine Gc ?_
 refine Gs ?_
 refine Gc ?_
 refine av rfl (fun h0=> ?_) (fun h0=> ?_)
 ·
  replace h0:=bz h0
  obtain⟨y,hy⟩:=get_some (xs:=[xl,1 -xl]) (i:=i) (by simp only[List.length_cons,List.length_nil]at h0⊢;omega)
  have GQ:i=0∨i=1:=by simp only[List.length_cons,List.length_nil]at h0;omega
  have VB:y=0∨y=1:=by
   have:=List.mem_of_getElem? hy
   simp only[List.mem_cons,List.not_mem_nil,or_false]at this
   omega
  refine Gc ?_
  refine ah (bo rfl rfl i rfl (by omega)) ?_
  refine ah (bO (j:=0) rfl i hy rfl (by decide)) ?_
  refine Gs ?_
  refine Gc ?_
  iterate 2 refine Gs ?_
  refine fF (cJ rfl ⟨hk,by omega,by omega⟩) ?_
  refine Gs ?_
  refine Gc ?_
  refine av rfl (fun h1=> ?_) (fun h1=> ?_)
  ·
   replace h1:=bz h1
   have hE:(aV (cv xc) xl)=(cv xc,y,0):=by
    rcases GQ with rfl|rfl
    ·
     obtain rfl:xl=y:=by simpa using hy
     rw[aV,if_pos h1]
    ·
     obtain rfl:1 -xl=y:=by simpa using hy
     rw[aV,if_neg (aH 0 xl (by omega) rfl),if_pos h1]
   refine Gc ?_
   iterate 3 refine Gs ?_
   refine Gc ?_
   refine au (.inl rfl) (bq rfl (aq rfl) (aq rfl)) (fun w1 hw=> ?_)
   exact⟨xc,by rw[hE],by rw[hE],ai.mem hw⟩
  ·
   replace h1:=bz h1
   refine Gc ?_
   iterate 2 refine Gs ?_
   refine Gi ?_
   exact bI (x:=(i)) (i+1) ⟨by first|omega|(simp only[];omega),fun j z hj hz=>if e:j=i then(by subst e;rw[hy]at hz;cases hz;exact h1)else aH j z (by first|omega|(simp only[];omega)) hz⟩ (by first|omega|(simp only[];omega)) (Sub.cons rfl (Sub.cons rfl (Sub.cons rfl (Sub.cons rfl (Sub.cons rfl (Sub.nil _)))))) (fun w hw=>ai.mem hw)
 ·
  replace h0:=bz h0
  have W9:i=2:=by simp only[List.length_cons,List.length_nil]at h0 bl;omega
  subst W9
  have tX:=aH 0 xl (by omega) rfl
  have xB:=aH 1 (1 -xl) (by omega) rfl
  refine Gc ?_
  iterate 5 refine Gs ?_
  refine ah (Ry.to (v':=xc.blocks.sv.val) (bJ rfl) rfl) ?_
  refine Gs ?_
  refine ah (bo rfl rfl ((1 -xl).toNat) (by omega) (by omega)) ?_
  refine ah (aI rfl rfl) ?_
  refine ah (bO (j:=3) rfl ((1 -xl).toNat) fV rfl (by decide)) ?_
  refine Gc ?_
  refine av rfl (fun h2=> ?_) (fun h2=> ?_)
  ·
   replace h2:=bz h2
   have hE:(aV (cv xc) xl)=(cv xc,0,9):=by rw[aV,if_neg tX,if_neg xB,xI,if_pos (show(bv Bo).bad=true from h2)]
   refine Gc ?_
   iterate 2 refine Gs ?_
   refine Gc ?_
   refine au (.inl rfl) (bq rfl (aq rfl) (aq rfl)) (fun w1 hw=> ?_)
   exact⟨xc,by rw[hE],by rw[hE],ai.mem hw⟩
  ·
   replace h2:=bz h2
   have hE:(aV (cv xc) xl)=(dh (cv xc) (1 -xl),1 -xl,dS (cv xc) (1 -xl)):=by rw[aV,if_neg tX,if_neg xB,xI,if_neg (show ¬(bv Bo).bad=true by rw[show(bv Bo).bad=Bo.bad from rfl,h2];simp)]
   refine Gc ?_
   iterate 3 refine Gs ?_
   refine bu rfl ⟨hk,by omega,by omega⟩ fun Xa Xb=> ?_
   iterate 2 refine Gs ?_
   refine Gc ?_
   refine au (.inl rfl) (bq rfl (aq rfl) (aq rfl)) (fun w1 hw=> ?_)
   exact⟨Xa,by rw[hE],by rw[Xb,hE],ai.mem hw⟩
instance ah6{w0:World}{L R1 L2:List ak}{i0 i1:Nat}{k:Nat}{xc:Cp}{xa:Sl Int}{xg:UInt64}{xl:Int}{xy:Bool}[q0:Has L k (aL (⟨⟨xc,xa,xg,xl⟩,xy⟩:aP)) 141 i0][d0:dx L i0 R1][q1:At R1 (fz xc) i1][d1:dx R1 i1 L2]:cw Tryz.prog 154 w0 L [.pointer (some ⟨k,0,none⟩)] (Cp) (fun zz=> .tuple #[.int .i64 ((aV (cv xc) xl).2.1), .int .i64 ((aV (cv xc) xl).2.2)]) (fun zz=>ar k (aL (⟨⟨zz,xa,xg,xl⟩,xy⟩:aP)) 141::fz zz::L2) (fun zz=>cv zz=(aV (cv xc) xl).1) (aT (cv xc)=true∧2≤(cv xc).blocks.length∧(xl=0∨xl=1)):=⟨fun hp w hw=>W8 w0 w L2 k xc xa xg xl xy (sq q0.h d0.h q1.h d1.h hw) hp⟩
theorem GR{g:UInt64}(h:g.toNat<281474976710656):(g+1).toNat=g.toNat+1:=by
 rw[UInt64.toNat_add,show(1:UInt64).toNat=1 from rfl,Nat.mod_eq_of_lt (by omega)]
theorem M0(g:UInt64)(s:Sv)(xs:List Int)(w:World):(Instr.build 147 #[(0, .int .u64 (g.toNat:Int)),(1,s.val)]).run Tryz.prog w= .ok (.agg (dE ⟨g,⟨s,xs⟩⟩)) w:=by
 obtain⟨e,b,o,l,c,p⟩:=s
 unfold dE
 cases e<;>kernel_rfl
theorem Xc(w0 w:World)(L:List ak)(k:Nat)(xc:Cp)(xa:Sl Int)(xg:UInt64)(xl:Int)(xy:Bool)(s:Sv)(ss:List Int)(hw:Mem w0 (ar k (aL (⟨⟨xc,xa,xg,xl⟩,xy⟩:aP)) 141::fz xc::fz xa::own bP 1 s ss::L) w)(bf:cf (⟨⟨cv xc,xa.xs,xg.toNat,xl⟩,xy⟩:WV)):Calls Tryz.prog 128 #[.pointer (some ⟨k,0,none⟩),s.val] w fun e w'=> ∃zz:Cp×Sl Int×UInt64×Int,e= .returned (.int .i64 ((et (⟨⟨cv xc,xa.xs,xg.toNat,xl⟩,xy⟩:WV) ss).2))∧((⟨⟨cv zz.1,zz.2.1.xs,zz.2.2.1.toNat,zz.2.2.2⟩,xy⟩:WV)=(et (⟨⟨cv xc,xa.xs,xg.toNat,xl⟩,xy⟩:WV) ss).1)∧Mem w0 (ar k (aL (⟨⟨zz.1,zz.2.1,zz.2.2.1,zz.2.2.2⟩,xy⟩:aP)) 141::fz zz.1::fz zz.2.1::L) w':=by
 have gA:=bf
 have hk:aT (cv xc)=true:=gA.ag
 have zS:xg.toNat<281474976710656:=gA.gen
 have rC:=GR zS
 have xO:4≤(cv xc).blocks.length:=gA.oD
 have CK:xl=0∨xl=1:=gA.last
 have xP:dg (⟨xg+1,⟨s,ss⟩⟩:df)=⟨xg.toNat+1,ss⟩:=by simp only[dg,rC]
 refine kv (args:=[_,_]) Tryz.func128 rfl Tryz.ntmps128 rfl hw ?_
 change Cw _ _ _ _ _ [(0, .pointer (some ⟨k,0,none⟩)),(1,s.val)] (ar k (aL (⟨⟨xc,xa,xg,xl⟩,xy⟩:aP)) 141::fz xc::fz xa::own bP 1 s ss::L)
 refine Gc ?_
 refine Gs ?_
 refine Gc ?_
 iterate 4 refine Gs ?_
 refine ah (Ry.to (v':= .int .u64 (xg.toNat:Nat)) (bJ rfl) rfl) ?_
 refine ah (Ry.to (v':= .int .u64 ((xg+1).toNat:Int)) (yB (p:=xg.toNat) (q:=1) rfl rfl rfl rfl (by simp only[nb];omega)) (by rw[rC])) ?_
 refine Gs ?_
 refine Gc ?_
 iterate 2 refine Gs ?_
 refine ah (cW (v:= .agg (dE (⟨xg+1,⟨s,ss⟩⟩:df))) rfl (M0 (xg+1) s ss)) ?_
 iterate 5 refine Gs ?_
 refine ah (Ry.to (v':= .int .i64 xc.size) (bJ rfl) rfl) ?_
 refine bu rfl trivial fun ko qA=> ?_
 refine Gs ?_
 refine ah (aU (v:=ko.val) rfl rfl) ?_
 refine ah (aU (v:= .int .i64 ((cj (dg (⟨xg+1,⟨s,ss⟩⟩:df)) xc.size).2)) rfl rfl) ?_
 iterate 2 refine Gs ?_
 refine Gc ?_
 iterate 2 refine Gs ?_
 refine Gc ?_
 refine av rfl (fun h0=> ?_) (fun h0=> ?_)
 ·
  replace h0:=bz h0
  have hE:(et (⟨⟨cv xc,xa.xs,xg.toNat,xl⟩,xy⟩:WV) ss)=((⟨⟨cv xc,xa.xs,xg.toNat,xl⟩,xy⟩:WV),(cj (dg (⟨xg+1,⟨s,ss⟩⟩:df)) xc.size).2):=by rw[et,if_pos (show(cj ⟨xg.toNat+1,ss⟩ (cv xc).size).2≠0 by rw[←xP];exact h0),xP];rfl
  refine Gc ?_
  iterate 2 refine Gs ?_
  refine Gc ?_
  refine au (.inl rfl) (aQ rfl (aq rfl)) (fun w1 hw=> ?_)
  exact⟨(xc,xa,xg,xl),by rw[hE],by rw[hE],ai.mem hw⟩
 ·
  replace h0:=bz h0
  refine Gc ?_
  refine ct (X:=Nat×Cp) (fun zz=>[(0, .pointer (some ⟨k,0,none⟩)),(1,s.val),(5, .int .u64 ((xg+1).toNat:Nat)),(6,ko.val)]) (fun zz=>ar k (aL (⟨⟨zz.2,xa,xg,xl⟩,xy⟩:aP)) 141::fz zz.2::fz xa::own bP 1 s ss::own aM 1 ko (cj (dg (⟨xg+1,⟨s,ss⟩⟩:df)) xc.size).1::L) (fun zz=>(et (⟨⟨cv xc,xa.xs,xg.toNat,xl⟩,xy⟩:WV) ss)=fh zz.1 ((⟨⟨cv xc,xa.xs,xg.toNat,xl⟩,xy⟩:WV).on (cv zz.2)) ss (cj (dg (⟨xg+1,⟨s,ss⟩⟩:df)) xc.size).1∧aT (cv zz.2)=true∧dL (cv xc) (cv zz.2)∧(cN -(cv zz.2).ops).toNat<zz.1) (fun zz=>zz.1) ((cN -(cv xc).ops).toNat+1,xc) ⟨by rw[et,if_neg (show ¬(cj ⟨xg.toNat+1,ss⟩ (cv xc).size).2≠0 by rw[←xP];exact fun h=>h h0),xP];rfl,hk, .bY _,by simp only;omega⟩ (Sub.cons rfl (Sub.cons rfl (Sub.cons rfl (Sub.cons rfl (Sub.nil _))))) (fun w hw=>ai.mem hw) ?_
  rintro⟨m,d⟩ ⟨bl,aH,bB,c6⟩
  dsimp only
  simp only at bl aH bB c6
  obtain⟨n,rfl⟩: ∃n,m=n+1:=⟨m -1,by omega⟩
  refine Gc ?_
  refine Gs ?_
  refine bu rfl ⟨aH,by rw[bB.len];omega,CK⟩ fun nh GS=> ?_
  obtain⟨r1,r2,r3,r4⟩:=xd (c:=cv d) (last:=xl) aH CK
  rw[←GS]at r1 r2 r3 r4
  have r7:=bB.trans r2
  have tL:=r7.len
  have zQ:=bB.len
  have MX:=qm r1
  refine Gs ?_
  refine ah (aU (v:= .int .i64 ((aV (cv d) xl).2.1)) rfl rfl) ?_
  refine ah (aU (v:= .int .i64 ((aV (cv d) xl).2.2)) rfl rfl) ?_
  iterate 2 refine Gs ?_
  refine Gc ?_
  iterate 2 refine Gs ?_
  refine Gc ?_
  refine av rfl (fun h1=> ?_) (fun h1=> ?_)
  ·
   replace h1:=bz h1
   have hE:(et (⟨⟨cv xc,xa.xs,xg.toNat,xl⟩,xy⟩:WV) ss)=((⟨⟨cv xc,xa.xs,xg.toNat,xl⟩,xy⟩:WV).on (cv nh),(aV (cv d) xl).2.2):=by
    rw[bl,fh]
    refine(if_pos h1).trans ?_
    rw[GS];rfl
   refine Gc ?_
   iterate 2 refine Gs ?_
   refine Gc ?_
   refine au (.inl rfl) (aQ rfl (aq rfl)) (fun w1 hw=> ?_)
   exact⟨(nh,xa,xg,xl),by rw[hE],by rw[hE];rfl,ai.mem hw⟩
  ·
   replace h1:=bz h1
   have eD:(aV (cv d) xl).2.2=0:=h1
   obtain⟨r5,r6⟩:=r4 eD
   have bH:(et (⟨⟨cv xc,xa.xs,xg.toNat,xl⟩,xy⟩:WV) ss)=(if(bm (cv nh) (aV (cv d) xl).2.1 (cj (dg (⟨xg+1,⟨s,ss⟩⟩:df)) xc.size).1)=0 then((⟨⟨(bj (cv nh) (aV (cv d) xl).2.1 (cj (dg (⟨xg+1,⟨s,ss⟩⟩:df)) xc.size).1),ss,xg.toNat+1,if gn (bj (cv nh) (aV (cv d) xl).2.1 (cj (dg (⟨xg+1,⟨s,ss⟩⟩:df)) xc.size).1) 1=xg.toNat+1 then 1 else(aV (cv d) xl).2.1⟩,xy⟩:WV),(0:Int))else if(bm (cv nh) (aV (cv d) xl).2.1 (cj (dg (⟨xg+1,⟨s,ss⟩⟩:df)) xc.size).1)≠9 then((⟨⟨cv xc,xa.xs,xg.toNat,xl⟩,xy⟩:WV).on (bj (cv nh) (aV (cv d) xl).2.1 (cj (dg (⟨xg+1,⟨s,ss⟩⟩:df)) xc.size).1),(bm (cv nh) (aV (cv d) xl).2.1 (cj (dg (⟨xg+1,⟨s,ss⟩⟩:df)) xc.size).1))else fh n ((⟨⟨cv xc,xa.xs,xg.toNat,xl⟩,xy⟩:WV).on (bj (cv nh) (aV (cv d) xl).2.1 (cj (dg (⟨xg+1,⟨s,ss⟩⟩:df)) xc.size).1)) ss (cj (dg (⟨xg+1,⟨s,ss⟩⟩:df)) xc.size).1):=by
    rw[bl,fh]
    refine(if_neg (fun h=>h eD)).trans ?_
    rw[GS];rfl
   refine Gc ?_
   iterate 3 refine Gs ?_
   refine bu rfl ⟨r1,by omega,by omega⟩ fun jL pG=> ?_
   refine Gs ?_
   refine Gc ?_
   iterate 2 refine Gs ?_
   refine Gc ?_
   refine av rfl (fun h2=> ?_) (fun h2=> ?_)
   ·
    replace h2:=bz h2
    have fk:(bm (cv nh) (aV (cv d) xl).2.1 (cj (dg (⟨xg+1,⟨s,ss⟩⟩:df)) xc.size).1)=0:=h2
    rw[if_pos fk]at bH
    refine Gc ?_
    refine Gs ?_
    refine fF (cJ rfl ⟨by rw[pG];exact iI r1 _ _,by omega,by rw[pG,(gm _ _ _).len];omega⟩) ?_
    iterate 2 refine Gs ?_
    refine Gc ?_
    refine av rfl (fun h3=> ?_) (fun h3=> ?_)
    ·
     replace h3:=bz h3
     have hE:=bH
     rw[if_pos (show gn (bj (cv nh) (aV (cv d) xl).2.1 (cj (dg (⟨xg+1,⟨s,ss⟩⟩:df)) xc.size).1) 1=xg.toNat+1 by rw[←pG];omega)]at hE
     refine Gi ?_
     refine Gs ?_
     refine Gc ?_
     iterate 9 refine Gs ?_
     refine eV (cs':=aL (⟨⟨jL,⟨s,ss⟩,xg,xl⟩,xy⟩:aP)) rfl rfl (by show 6<10;decide) (by first|rfl|exact Sv.one _) rfl ?_
     iterate 3 refine Gs ?_
     refine eV (cs':=aL (⟨⟨jL,⟨s,ss⟩,(xg+1),xl⟩,xy⟩:aP)) rfl rfl (by show 7<10;decide) (by first|rfl|exact Sv.one _) rfl ?_
     iterate 3 refine Gs ?_
     refine eV (cs':=aL (⟨⟨jL,⟨s,ss⟩,(xg+1),1⟩,xy⟩:aP)) rfl rfl (by show 8<10;decide) (by first|rfl|exact Sv.one _) rfl ?_
     refine Gc ?_
     refine Gs ?_
     refine Gc ?_
     refine au (.inl rfl) (aQ rfl (aq rfl)) (fun w1 hw=> ?_)
     exact⟨(jL,⟨s,ss⟩,xg+1,1),by rw[hE],by rw[hE,pG,rC],ai.mem (u7 (a:=⟨s,ss⟩) (ai.mem hw:Mem w0 (own bP 1 s ss::ar k (aL (⟨⟨jL,⟨s,ss⟩,xg+1,1⟩,xy⟩:aP)) 141::fz jL::L) _))⟩
    ·
     replace h3:=bz h3
     have hE:=bH
     rw[if_neg (show ¬gn (bj (cv nh) (aV (cv d) xl).2.1 (cj (dg (⟨xg+1,⟨s,ss⟩⟩:df)) xc.size).1) 1=xg.toNat+1 by rw[←pG];omega)]at hE
     refine Gc ?_
     iterate 9 refine Gs ?_
     refine eV (cs':=aL (⟨⟨jL,⟨s,ss⟩,xg,xl⟩,xy⟩:aP)) rfl rfl (by show 6<10;decide) (by first|rfl|exact Sv.one _) rfl ?_
     iterate 3 refine Gs ?_
     refine eV (cs':=aL (⟨⟨jL,⟨s,ss⟩,(xg+1),xl⟩,xy⟩:aP)) rfl rfl (by show 7<10;decide) (by first|rfl|exact Sv.one _) rfl ?_
     iterate 3 refine Gs ?_
     refine eV (cs':=aL (⟨⟨jL,⟨s,ss⟩,(xg+1),(aV (cv d) xl).2.1⟩,xy⟩:aP)) rfl rfl (by show 8<10;decide) (by first|rfl|exact Sv.one _) rfl ?_
     refine Gc ?_
     refine Gs ?_
     refine Gc ?_
     refine au (.inl rfl) (aQ rfl (aq rfl)) (fun w1 hw=> ?_)
     exact⟨(jL,⟨s,ss⟩,xg+1,(aV (cv d) xl).2.1),by rw[hE],by rw[hE,pG,rC],ai.mem (u7 (a:=⟨s,ss⟩) (ai.mem hw:Mem w0 (own bP 1 s ss::ar k (aL (⟨⟨jL,⟨s,ss⟩,xg+1,(aV (cv d) xl).2.1⟩,xy⟩:aP)) 141::fz jL::L) _))⟩
   ·
    replace h2:=bz h2
    have fk: ¬(bm (cv nh) (aV (cv d) xl).2.1 (cj (dg (⟨xg+1,⟨s,ss⟩⟩:df)) xc.size).1)=0:=h2
    refine Gc ?_
    iterate 2 refine Gs ?_
    refine Gc ?_
    refine av rfl (fun h4=> ?_) (fun h4=> ?_)
    ·
     replace h4:=bz h4
     have hE:=bH
     rw[if_neg fk,if_pos (show(bm (cv nh) (aV (cv d) xl).2.1 (cj (dg (⟨xg+1,⟨s,ss⟩⟩:df)) xc.size).1)≠9 from h4)]at hE
     refine Gc ?_
     iterate 2 refine Gs ?_
     refine Gc ?_
     refine au (.inl rfl) (aQ rfl (aq rfl)) (fun w1 hw=> ?_)
     exact⟨(jL,xa,xg,xl),by rw[hE],by rw[hE,pG];rfl,ai.mem hw⟩
    ·
     replace h4:=bz h4
     iterate 2 refine Gi ?_
     have jm:(bm (cv nh) (aV (cv d) xl).2.1 (cj (dg (⟨xg+1,⟨s,ss⟩⟩:df)) xc.size).1)=9:=h4
     have zR:=q9 r6 (p:=(cj (dg (⟨xg+1,⟨s,ss⟩⟩:df)) xc.size).1) (.inl jm)
     have GP:=qm (iI r1 (aV (cv d) xl).2.1 (cj (dg (⟨xg+1,⟨s,ss⟩⟩:df)) xc.size).1)
     rw[zR]at GP
     exact bI (x:=(n+1,d)) (n,jL) ⟨by rw[bH,if_neg fk,if_neg (fun h=>h jm),pG],by rw[pG];exact iI r1 _ _,by rw[pG];exact r7.trans (gm _ _ _),by rw[pG,zR];omega⟩ (by simp only;omega) (Sub.cons rfl (Sub.cons rfl (Sub.cons rfl (Sub.cons rfl (Sub.nil _))))) (fun w hw=>ai.mem hw)
instance ah7{w0:World}{L R1 R2 R3 L2:List ak}{i0 i1 i2 i3:Nat}{k:Nat}{xc:Cp}{xa:Sl Int}{xg:UInt64}{xl:Int}{xy:Bool}{s:Sv}{ss:List Int}[q0:Has L k (aL (⟨⟨xc,xa,xg,xl⟩,xy⟩:aP)) 141 i0][d0:dx L i0 R1][q1:At R1 (fz xc) i1][d1:dx R1 i1 R2][q2:At R2 (fz xa) i2][d2:dx R2 i2 R3][q3:fL R3 s bP 1 ss i3][d3:dx R3 i3 L2]:cw Tryz.prog 128 w0 L [.pointer (some ⟨k,0,none⟩),s.val] (Cp×Sl Int×UInt64×Int) (fun zz=> .int .i64 ((et (⟨⟨cv xc,xa.xs,xg.toNat,xl⟩,xy⟩:WV) ss).2)) (fun zz=>ar k (aL (⟨⟨zz.1,zz.2.1,zz.2.2.1,zz.2.2.2⟩,xy⟩:aP)) 141::fz zz.1::fz zz.2.1::L2) (fun zz=>(⟨⟨cv zz.1,zz.2.1.xs,zz.2.2.1.toNat,zz.2.2.2⟩,xy⟩:WV)=(et (⟨⟨cv xc,xa.xs,xg.toNat,xl⟩,xy⟩:WV) ss).1) (cf (⟨⟨cv xc,xa.xs,xg.toNat,xl⟩,xy⟩:WV)):=⟨fun hp w hw=>Xc w0 w L2 k xc xa xg xl xy s ss (VH q0.h d0.h q1.h d1.h q2.h d2.h q3.h d3.h hw) hp⟩
open Go.ay Go.Kb
open Go.RowKit
theorem Xd(i:Int)(g:UInt64)(s:Sv)(xs:List UInt8)(w:World):(Instr.build 110 #[(0, .int .i64 1),(1, .int .i64 i),(2, .int .u64 (g.toNat:Int)),(3,s.val)]).run Tryz.prog w= .ok (.agg (cL ⟨1,i,g,⟨s,xs⟩⟩)) w:=by
 obtain⟨e,b,o,l,c,p⟩:=s
 unfold cL
 cases e<;>kernel_rfl
theorem Xe(w0 w:World)(L:List ak)(k:Nat)(xc:Cp)(xa:Sl Int)(xg:UInt64)(xl:Int)(xy:Bool)(f:Int)(t:Int)(hw:Mem w0 (ar k (aL (⟨⟨xc,xa,xg,xl⟩,xy⟩:aP)) 141::fz xc::fz xa::L) w)(bf:cf (⟨⟨cv xc,xa.xs,xg.toNat,xl⟩,xy⟩:WV)∧2≤f∧f<(cv xc).blocks.length∧(0≤t→2≤t∧t<(cv xc).blocks.length)):Calls Tryz.prog 183 #[.pointer (some ⟨k,0,none⟩), .int .i64 f, .int .i64 t] w fun e w'=> ∃zz:Cp×Sl Int×UInt64×Int,e= .returned (.tuple #[.bool ((cY (⟨⟨cv xc,xa.xs,xg.toNat,xl⟩,xy⟩:WV) f t).2.1), .int .i64 ((cY (⟨⟨cv xc,xa.xs,xg.toNat,xl⟩,xy⟩:WV) f t).2.2)])∧((⟨⟨cv zz.1,zz.2.1.xs,zz.2.2.1.toNat,zz.2.2.2⟩,xy⟩:WV)=(cY (⟨⟨cv xc,xa.xs,xg.toNat,xl⟩,xy⟩:WV) f t).1)∧Mem w0 (ar k (aL (⟨⟨zz.1,zz.2.1,zz.2.2.1,zz.2.2.2⟩,xy⟩:aP)) 141::fz zz.1::fz zz.2.1::L) w':=by
 obtain⟨gA,la,tn,GB⟩:=bf
 have hk:aT (cv xc)=true:=gA.ag
 have xO:4≤(cv xc).blocks.length:=gA.oD
 have hd:=eH hk
 have zS:xg.toNat<281474976710656:=gA.gen
 have rC:=GR zS
 have fG:xa.xs.length≤64:=gA.nL
 have vJ:ig (cv xc) xa.xs:=gA.re
 have M1:1≤xc.ae∧xc.ae≤16:=⟨hd.2.2.1,hd.2.2.2.1⟩
 refine kv (args:=[_,_,_]) Tryz.func183 rfl Tryz.ntmps183 rfl hw ?_
 change Cw _ _ _ _ _ [(0, .pointer (some ⟨k,0,none⟩)),(1, .int .i64 f),(2, .int .i64 t)] (ar k (aL (⟨⟨xc,xa,xg,xl⟩,xy⟩:aP)) 141::fz xc::fz xa::L)
 refine Gc ?_
 iterate 2 refine Gs ?_
 refine Gc ?_
 iterate 5 refine Gs ?_
 refine ah (Ry.to (v':= .int .i64 xc.ae) (bJ rfl) rfl) ?_
 refine Gs ?_
 refine Gc ?_
 iterate 4 refine Gs ?_
 refine ah (Ry.to (v':=xa.sv.val) (bJ rfl) rfl) ?_
 refine bu rfl (by omega) fun az sI=> ?_
 refine Gs ?_
 refine Gc ?_
 iterate 4 refine Gs ?_
 refine ah (Ry.to (v':=xa.sv.val) (bJ rfl) rfl) ?_
 iterate 2 refine Gs ?_
 refine Gc ?_
 refine ct (X:=Nat×Cp×List Int) (fun zz=>[(39, .int .i64 (zz.1:Nat)),(0, .pointer (some ⟨k,0,none⟩)),(9,az.val),(1, .int .i64 f),(2, .int .i64 t),(8, .int .i64 xc.ae),(37,xa.sv.val),(38, .int .i64 (xa.xs.length:Nat))]) (fun zz=>ar k (aL (⟨⟨zz.2.1,xa,xg,xl⟩,xy⟩:aP)) 141::fz zz.2.1::fz xa::own bP 1 az zz.2.2::L) (fun zz=>zz.1≤xa.xs.length∧(ca (⟨cv xc,xa.xs,xg.toNat,xl⟩:VV) f t xa.xs 0 (cv xc) xa.xs)=(ca (⟨cv xc,xa.xs,xg.toNat,xl⟩:VV) f t (xa.xs.drop zz.1) zz.1 (cv zz.2.1) zz.2.2)∧aT (cv zz.2.1)=true∧dL (cv xc) (cv zz.2.1)∧zz.2.2.length=xa.xs.length∧ig (cv xc) zz.2.2) (fun zz=>xa.xs.length -zz.1) (0,xc,xa.xs) ⟨Nat.zero_le _,rfl,hk, .bY _,rfl,vJ⟩ (Sub.cons rfl (Sub.cons rfl (Sub.cons rfl (Sub.cons rfl (Sub.cons rfl (Sub.cons rfl (Sub.cons rfl (Sub.cons rfl (Sub.nil _))))))))) (fun w hw=>ai.mem hw) ?_
 rintro⟨i,d,zs⟩ ⟨bl,aH,bB,c6,zT,CL⟩
 dsimp only
 simp only at bl aH bB c6 zT CL
 have CM:=c6.len
 have zU:d.ae=xc.ae:=c6.ae
 have jQ:(cv d).blocks.length=d.blocks.xs.length:=gD _
 refine Gc ?_
 refine Gs ?_
 refine Gc ?_
 refine av rfl (fun h0=> ?_) (fun h0=> ?_)
 ·
  replace h0:=bz h0
  obtain⟨n,tU⟩:=get_some (xs:=xa.xs) (i:=i) (by omega)
  obtain⟨zi,tO⟩:=get_some (xs:=zs) (i:=i) (by omega)
  have GU:=vJ n (List.mem_of_getElem? tU)
  have hnn:0≤n:=by rcases GU with h|h<;>omega
  have hnp:n≤512:=by
   rcases GU with h|h
   ·
    omega
   ·
    exact Lc M1.1 M1.2 hd.2.1 h.2.2
  have bH:(ca (⟨cv xc,xa.xs,xg.toNat,xl⟩:VV) f t (xa.xs.drop i) i (cv d) zs)=(if n=0∨(n -1)/xc.ae≠f then(ca (⟨cv xc,xa.xs,xg.toNat,xl⟩:VV) f t (xa.xs.drop (i+1)) (i+1) (cv d) zs)else if(bV (cv d) xa.xs zs f t).2=false then(⟨cv d,zs,some 6⟩:MV)else if(dA (cv d) ((xg.toNat:Int)+1) i n).2≠0 then⟨cv d,zs,some (dA (cv d) ((xg.toNat:Int)+1) i n).2⟩else if(bm (cv d) (bV (cv d) xa.xs zs f t).1 (dA (cv d) ((xg.toNat:Int)+1) i n).1)≠0 then⟨(bj (cv d) (bV (cv d) xa.xs zs f t).1 (dA (cv d) ((xg.toNat:Int)+1) i n).1),zs,some (jf (bm (cv d) (bV (cv d) xa.xs zs f t).1 (dA (cv d) ((xg.toNat:Int)+1) i n).1))⟩else(ca (⟨cv xc,xa.xs,xg.toNat,xl⟩:VV) f t (xa.xs.drop (i+1)) (i+1) (bj (cv d) (bV (cv d) xa.xs zs f t).1 (dA (cv d) ((xg.toNat:Int)+1) i n).1) (zs.set i ((bV (cv d) xa.xs zs f t).1*xc.ae+(aj (cv d) (bV (cv d) xa.xs zs f t).1).used+1)))):=by
   rw[w6 tU,ca];rfl
  refine Gc ?_
  refine Gs ?_
  refine ah (bo rfl rfl i rfl (by omega)) ?_
  refine ah (bO (j:=0) rfl i tU rfl (by decide)) ?_
  iterate 2 refine Gs ?_
  refine Gc ?_
  iterate 3 refine Gs ?_
  refine Gg ?_
  refine bS rfl rfl rfl (fun hg=>(Ry.yl (yx (aG hg rfl) rfl (by simp only[Z0,Z1,Z2,Z3,Z4,Z5,Z6,Z7,Z8,Z9]at hg;omega)))) ?_
  refine Gg ?_
  refine bS rfl rfl rfl (fun hg=>(Ry.yl (n7 (aG hg rfl) (aG hg rfl) (by simp only[Z0,Z1,Z2,Z3,Z4,Z5,Z6,Z7,Z8,Z9]at hg;omega) (by simp only[Z0,Z1,Z2,Z3,Z4,Z5,Z6,Z7,Z8,Z9]at hg;omega)))) ?_
  iterate 2 refine Gg ?_
  refine Gs ?_
  refine Gc ?_
  refine av rfl (fun h1=> ?_) (fun h1=> ?_)
  ·
   replace h1:=bz h1
   refine Gc ?_
   iterate 2 refine Gs ?_
   refine Gi ?_
   exact bI (x:=(i,d,zs)) (i+1,d,zs) ⟨by simp only;omega,by rw[aH,bH,if_pos h1],bB,c6,zT,CL⟩ (by simp only;omega) (Sub.cons rfl (Sub.cons rfl (Sub.cons rfl (Sub.cons rfl (Sub.cons rfl (Sub.cons rfl (Sub.cons rfl (Sub.cons rfl (Sub.nil _))))))))) (fun w hw=>ai.mem hw)
  ·
   replace h1:=bz h1
   have eD: ¬(n=0∨(n -1)/xc.ae≠f):=fun g=>g.elim h1.1 (fun g=>g h1.2)
   have CN:1≤n∧n≤1000000∧2≤(n -1)/d.ae∧(n -1)/d.ae<((cv d).blocks.length:Int):=by
    rw[zU,CM]
    rcases GU with h|h
    ·
     exact absurd (.inl h) eD
    ·
     exact⟨h.1,by omega,h.2.1,h.2.2⟩
   refine Gc ?_
   iterate 2 refine Gs ?_
   iterate 2 refine Gi ?_
   refine wo (X:=Unit) (fun zz=>[(12, .int .i64 ((bV (cv d) xa.xs zs f t).1)),(0, .pointer (some ⟨k,0,none⟩)),(1, .int .i64 f),(2, .int .i64 t),(8, .int .i64 xc.ae),(9,az.val),(10, .int .i64 (i:Nat)),(37,xa.sv.val),(38, .int .i64 (xa.xs.length:Nat)),(39, .int .i64 (i:Nat))]) (fun zz=>ar k (aL (⟨⟨d,xa,xg,xl⟩,xy⟩:aP)) 141::fz d::fz xa::own bP 1 az zs::L) (fun zz=>(bV (cv d) xa.xs zs f t).2=true∧2≤(bV (cv d) xa.xs zs f t).1∧(bV (cv d) xa.xs zs f t).1<(cv d).blocks.length) ?_ ?_
   ·
    refine Gc ?_
    iterate 2 refine Gs ?_
    refine Gc ?_
    refine av rfl (fun h2=> ?_) (fun h2=> ?_)
    ·
     replace h2:=bz h2
     refine Gi ?_
     have eG:aw [xa,(⟨az,zs⟩:Sl Int)]=xa.xs++zs:=GL _ _
     have rB:=kf (cv d) (aw [xa,(⟨az,zs⟩:Sl Int)])
     obtain⟨q,hq⟩:=get_some (xs:=(aB (cv d) (aw [xa,(⟨az,zs⟩:Sl Int)]))) (i:=(f -2).toNat) (by rw[kf];omega)
     have oL:qh (cv d) (aw [xa,(⟨az,zs⟩:Sl Int)]):=by
      rw[GL]
      exact((vJ.cx c6).append (CL.cx c6)).kn bB (by omega) (by rw[List.length_append];omega)
     refine Gi ?_
     iterate 5 refine Gs ?_
     refine ah (Ry.to (v':=xa.sv.val) (bJ rfl) rfl) ?_
     refine Gs ?_
     refine pa (enc:=cd) (vals:=[xa.sv.val,az.val]) [xa,(⟨az,zs⟩:Sl Int)] rfl (by simp only[List.map_cons,List.map_nil,Sv.jc];rfl) rfl (by decide) (by decide) fun Xf=> ?_
     refine bu (hc:=GK (l:=(⟨⟨false,Xf,0,2,2,none⟩,[xa,⟨az,zs⟩]⟩:Sl (Sl Int)))) rfl oL fun Xg ah8=> ?_
     refine Gs ?_
     refine Gc ?_
     iterate 3 refine Gs ?_
     refine ah (cW (v:= .agg (bC bc)) rfl CI) ?_
     refine ah (bo rfl rfl ((f -2).toNat) (by omega) (show(f -2).toNat<(aB (cv d) (aw [xa,(⟨az,zs⟩:Sl Int)])).length by omega)) ?_
     refine kP (s:=Xg) (n:=4) (k:=(f -2).toNat) (j:=0) (a:=q) (a':=bc) (xs:=(aB (cv d) (aw [xa,(⟨az,zs⟩:Sl Int)]))) (enc:=bC) (c:=4) (v:= .agg (bC bc)) (by kernel_rfl) rfl rfl rfl hq (bp.one (enc:=bC) (c:=4) _) rfl (by decide) (by rfl) ?_
     refine Gc ?_
     iterate 4 refine Gs ?_
     refine ah (aU (v:= .int .i64 ((eY ((aB (cv d) (aw [xa,(⟨az,zs⟩:Sl Int)])).set (f -2).toNat bc) xc.ae).1)) rfl rfl) ?_
     refine ah (aU (v:= .bool ((eY ((aB (cv d) (aw [xa,(⟨az,zs⟩:Sl Int)])).set (f -2).toNat bc) xc.ae).2)) rfl rfl) ?_
     iterate 2 refine Gs ?_
     refine Gc ?_
     iterate 2 refine Gs ?_
     refine Gc ?_
     refine av rfl (fun h3=> ?_) (fun h3=> ?_)
     ·
      replace h3:=bz h3
      have xG:(bV (cv d) xa.xs zs f t).2=false:=by rw[bV,if_pos h2,←eG,if_neg];rw[show(cv d).ae=xc.ae from zU,h3];simp
      have hE:=FO (x:=(⟨⟨cv xc,xa.xs,xg.toNat,xl⟩,xy⟩:WV)) (src:=f) (to:=t) (show ca _ _ _ _ _ _ _=_ from(aH.trans (bH.trans ((if_neg eD).trans (if_pos xG)))))
      refine Gc ?_
      iterate 2 refine Gs ?_
      refine Gc ?_
      refine au (.inl rfl) (bq rfl (aq rfl) (aq rfl)) (fun w1 hw=> ?_)
      exact⟨(d,xa,xg,xl),by rw[hE],by rw[hE];rfl,ai.mem hw⟩
     ·
      replace h3:=bz h3
      have oK:=w4 (show(fH _ _ _ _).2=true from h3)
      have CO:(bV (cv d) xa.xs zs f t)=((eY ((aB (cv d) (aw [xa,(⟨az,zs⟩:Sl Int)])).set (f -2).toNat bc) xc.ae).1+2,true):=by rw[bV,if_pos h2,←eG,show(cv d).ae=xc.ae from zU,if_pos h3]
      have ah9:0≤(eY ((aB (cv d) (aw [xa,(⟨az,zs⟩:Sl Int)])).set (f -2).toNat bc) xc.ae).1:=oK.2.1
      have Xh:(eY ((aB (cv d) (aw [xa,(⟨az,zs⟩:Sl Int)])).set (f -2).toNat bc) xc.ae).1<(((aB (cv d) (aw [xa,(⟨az,zs⟩:Sl Int)])).set (f -2).toNat bc).length:Int):=oK.2.2.1
      rw[List.length_set,kf]at Xh
      refine Gc ?_
      iterate 3 refine Gs ?_
      refine Gi ?_
      exact oY () ⟨by rw[CO],by rw[CO];simp only;omega,by rw[CO];simp only;omega⟩ (Sub.cons (look_eq rfl (by rw[CO])) (Sub.cons rfl (Sub.cons rfl (Sub.cons rfl (Sub.cons rfl (Sub.cons rfl (Sub.cons rfl (Sub.cons rfl (Sub.cons rfl (Sub.cons rfl (Sub.nil _))))))))))) (fun w hw=>ai.mem hw)
    ·
     replace h2:=bz h2
     refine Gi ?_
     exact oY () ⟨by rw[bV,if_neg h2],by rw[bV,if_neg h2];exact(GB (by first|omega|(simp only[];omega))).1,by rw[bV,if_neg h2,CM];exact(GB (by first|omega|(simp only[];omega))).2⟩ (Sub.cons (look_eq rfl (by rw[bV,if_neg h2])) (Sub.cons rfl (Sub.cons rfl (Sub.cons rfl (Sub.cons rfl (Sub.cons rfl (Sub.cons rfl (Sub.cons rfl (Sub.cons rfl (Sub.cons rfl (Sub.nil _))))))))))) (fun w hw=>ai.mem hw)
   ·
    rintro⟨⟩ ⟨oO,xQ,GV⟩
    obtain⟨B,hB⟩:=get_some (xs:=d.blocks.xs) (i:=(bV (cv d) xa.xs zs f t).1.toNat) (by omega)
    have qy:Mb B d.blocks:=⟨List.mem_of_getElem? hB⟩
    have eI:=ra hB
    have oN:(aj (cv d) (bV (cv d) xa.xs zs f t).1).used=B.used:=by rw[eI];rfl
    have fV:=eX.1 (rb bB (b:=(bV (cv d) xa.xs zs f t).1) (by omega) (by omega))
    rw[oN,show(cv d).ae=xc.ae from zU]at fV
    have lP:0≤(bV (cv d) xa.xs zs f t).1*xc.ae:=Int.mul_nonneg (by omega) (by omega)
    have na:(bV (cv d) xa.xs zs f t).1*xc.ae≤32*16:=Int.mul_le_mul (by omega) (by omega) (by omega) (by omega)
    refine Gi ?_
    refine pf [12,14,15,2014,4012] [[],[],[],[],[],[],[],[],[],[],[],[],[],[12],[],[12,14]] [0,1,2,3,4,5,6,7,8,9,10,11,12,13,14,15] [ar k (aL (⟨⟨d,xa,xg,xl⟩,xy⟩:aP)) 141,fz d,fz xa] [(14,j9 Tryz.prog 110)] (by kernel_rfl) (fun _ hw=>ai.mem hw) (by kernel_rfl) (by kernel_rfl) ?_
    refine al rfl (aE rfl) ?_
    refine al rfl (aE rfl) ?_
    refine al rfl (jO rfl) ?_
    refine al rfl (aI (o':=0) rfl rfl) ?_
    refine al rfl (aI (o':=7) rfl rfl) ?_
    refine al rfl (Ry.to (v':= .int .u64 (xg.toNat:Nat)) (bJ rfl) rfl) ?_
    refine al rfl (Ry.to (v':= .int .u64 ((xg+1).toNat:Int)) (yB (p:=xg.toNat) (q:=1) rfl rfl rfl rfl (by simp only[nb];omega)) (by rw[rC])) ?_
    refine al rfl (aE rfl) ?_
    refine al rfl (jO rfl) ?_
    refine al rfl (aI (o':=0) rfl rfl) ?_
    refine al rfl (Ry.to (v':= .agg (bN (⟨d,xa,xg,xl⟩:bU))) (jv rfl) rfl) ?_
    refine al rfl (aE rfl) ?_
    refine qY (hc:=MO (v:=(⟨d,xa,xg,xl⟩:bU)) (id:=((i:Nat):Int))) (EP:=fun e_=>MO (v:=(⟨d,xa,xg,xl⟩:bU)) (id:=((i:Nat):Int))) rfl rfl ⟨bB,n,by rw[Int.toNat_natCast];exact tU,by omega,CN.1,CN.2.1,CN.2.2.1,CN.2.2.2⟩ (fun e x w hw=>ai.mem hw) (Cert.one (i:=14) rfl rfl rfl jy (Cert.none rfl)) fun zV aia=>⟨fun _ hw=>ai.mem hw,?_⟩
    refine al rfl (cW (v:= .agg (cL (⟨1,((i:Nat):Int),xg+1,⟨zV,(jC (cv d) (xa.xs.getD ((i:Nat):Int).toNat 0))⟩⟩:ez))) rfl (Xd ((i:Nat):Int) (xg+1) zV _)) ?_
    refine nB (m:=j9 Tryz.prog 110) rfl rfl jy (Cert.none rfl) fun lR=> ?_
    change Ln _ _ _ _ _ _ _ _ (cy _ _ (.pointer (some ⟨lR,0,none⟩))) (ar lR (cL mR) 110::_) _
    refine dC rfl (mJ rfl rfl ⟨fun _ hw=>ai.mem hw,?_⟩)
    iterate 3 refine Gi ?_
    have lj:(dr (cF (⟨1,((i:Nat):Int),xg+1,⟨zV,(jC (cv d) (xa.xs.getD ((i:Nat):Int).toNat 0))⟩⟩:ez)) d.size)=(dA (cv d) ((xg.toNat:Int)+1) i n):=by
     have e1:xa.xs.getD ((i:Nat):Int).toNat 0=n:=by rw[Int.toNat_natCast];exact oz tU
     rw[dA,e1]
     simp only[cF,rC]
     congr 2
    refine jd [7] [[],[],[],[],[],[],[],[],[7],[7],[7],[7],[7]] [0,1,2,3,4,5,6,7,8,9,10,11,12] [ar k (aL (⟨⟨d,xa,xg,xl⟩,xy⟩:aP)) 141,fz d,ar lR (cL (⟨1,((i:Nat):Int),xg+1,⟨zV,(jC (cv d) (xa.xs.getD ((i:Nat):Int).toNat 0))⟩⟩:ez)) 110] (fun _ hw=>ai.mem hw) (by kernel_rfl) (by kernel_rfl) ?_
    refine al rfl (gu rfl) ?_
    refine al rfl (aE rfl) ?_
    refine al rfl (jO rfl) ?_
    refine al rfl (aI (o':=0) rfl rfl) ?_
    refine al rfl (aI (o':=0) rfl rfl) ?_
    refine al rfl (aI (o':=1) rfl rfl) ?_
    refine al rfl (Ry.to (v':= .int .i64 d.size) (bJ rfl) rfl) ?_
    refine dC rfl (nA rfl trivial fun ua GW=>⟨fun _ hw=>ai.mem hw,?_⟩)
    refine al rfl (aE rfl) ?_
    refine al rfl (aU (v:=ua.val) rfl rfl) ?_
    refine al rfl (aU (v:= .int .i64 ((dr (cF (⟨1,((i:Nat):Int),xg+1,⟨zV,(jC (cv d) (xa.xs.getD ((i:Nat):Int).toNat 0))⟩⟩:ez)) d.size).2)) rfl rfl) ?_
    refine al rfl (bn rfl) ?_
    refine al rfl (bn rfl) ?_
    refine Gc ?_
    iterate 2 refine Gs ?_
    refine Gc ?_
    refine av rfl (fun h4=> ?_) (fun h4=> ?_)
    ·
     replace h4:=bz h4
     have jm:(dA (cv d) ((xg.toNat:Int)+1) i n).2≠0:=by rw[←lj];exact h4
     have hE:=FO (x:=(⟨⟨cv xc,xa.xs,xg.toNat,xl⟩,xy⟩:WV)) (src:=f) (to:=t) (show ca _ _ _ _ _ _ _=_ from(aH.trans (bH.trans ((if_neg eD).trans ((if_neg (by rw[oO];simp)).trans (if_pos jm))))))
     refine Gc ?_
     iterate 3 refine Gs ?_
     refine Gc ?_
     refine au (.inl rfl) (bq rfl (aq rfl) (aq rfl)) (fun w1 hw=> ?_)
     exact⟨(d,xa,xg,xl),by rw[hE,lj],by rw[hE];rfl,ai.mem hw⟩
    ·
     replace h4:=bz h4
     have jm:(dA (cv d) ((xg.toNat:Int)+1) i n).2=0:=by rw[←lj];exact h4
     refine Gc ?_
     iterate 5 refine Gs ?_
     refine ah (Ry.to (v':=d.blocks.sv.val) (bJ rfl) rfl) ?_
     refine Gs ?_
     refine ah (bo rfl rfl ((bV (cv d) xa.xs zs f t).1.toNat) (by omega) (by omega)) ?_
     refine ah (aI rfl rfl) ?_
     refine ah (bO (j:=1) rfl ((bV (cv d) xa.xs zs f t).1.toNat) hB rfl (by decide)) ?_
     refine Gs ?_
     refine Gc ?_
     iterate 3 refine Gs ?_
     refine bu rfl ⟨bB,by omega,by omega⟩ fun M3 zW=> ?_
     rw[lj]at zW
     refine Gs ?_
     refine Gc ?_
     iterate 2 refine Gs ?_
     refine Gc ?_
     refine av rfl (fun h5=> ?_) (fun h5=> ?_)
     ·
      replace h5:=bz h5
      have ni:(bm (cv d) (bV (cv d) xa.xs zs f t).1 (dA (cv d) ((xg.toNat:Int)+1) i n).1)≠0:=by rw[←lj];exact h5
      have hE:=FO (x:=(⟨⟨cv xc,xa.xs,xg.toNat,xl⟩,xy⟩:WV)) (src:=f) (to:=t) (show ca _ _ _ _ _ _ _=_ from(aH.trans (bH.trans ((if_neg eD).trans ((if_neg (by rw[oO];simp)).trans ((if_neg (fun h=>h jm)).trans (if_pos ni)))))))
      refine Gc ?_
      iterate 4 refine Gs ?_
      refine Gc ?_
      refine au (.inl rfl) (bq rfl (aq rfl) (aq rfl)) (fun w1 hw=> ?_)
      exact⟨(M3,xa,xg,xl),by rw[hE,lj],by rw[hE,zW];rfl,ai.mem hw⟩
     ·
      replace h5:=bz h5
      have ni:(bm (cv d) (bV (cv d) xa.xs zs f t).1 (dA (cv d) ((xg.toNat:Int)+1) i n).1)=0:=by rw[←lj];exact h5
      have eA:=iF.1 (nK ni).1
      rw[oN,show(cv d).ae=xc.ae from zU]at eA
      have CP:((bV (cv d) xa.xs zs f t).1*xc.ae+B.used+1)=0∨(1≤((bV (cv d) xa.xs zs f t).1*xc.ae+B.used+1)∧2≤(((bV (cv d) xa.xs zs f t).1*xc.ae+B.used+1) -1)/(cv xc).ae∧(((bV (cv d) xa.xs zs f t).1*xc.ae+B.used+1) -1)/(cv xc).ae<((cv xc).blocks.length:Int)):=by
       have hq:(((bV (cv d) xa.xs zs f t).1*xc.ae+B.used+1) -1)/xc.ae=(bV (cv d) xa.xs zs f t).1:=by
        rw[Int.add_sub_cancel,Int.add_comm,Int.add_mul_ediv_right _ _ (by omega),Int.ediv_eq_zero_of_lt eA.2.1 eA.2.2.1,Int.zero_add]
       exact .inr ⟨by omega,by rw[show(cv xc).ae=xc.ae from rfl,hq];exact xQ,by rw[show(cv xc).ae=xc.ae from rfl,hq];omega⟩
      refine Gc ?_
      iterate 4 refine Gs ?_
      refine ah (uC rfl rfl (by omega)) ?_
      iterate 3 refine Gs ?_
      refine ah (bo rfl rfl i rfl (by omega)) ?_
      refine kP (s:=az) (n:=1) (k:=i) (j:=0) (a:=zi) (a':=((bV (cv d) xa.xs zs f t).1*xc.ae+B.used+1)) (xs:=zs) (enc:=bP) (c:=1) (v:= .int .i64 ((bV (cv d) xa.xs zs f t).1*xc.ae+B.used+1)) (by kernel_rfl) rfl rfl rfl tO (by simp[Value.cells,Value.oneCell']) rfl (by decide) (by rfl) ?_
      refine Gc ?_
      iterate 2 refine Gs ?_
      refine Gi ?_
      exact bI (x:=(i,d,zs)) (i+1,M3,zs.set i ((bV (cv d) xa.xs zs f t).1*xc.ae+B.used+1)) ⟨by simp only;omega,by rw[aH,bH,if_neg eD,if_neg (by rw[oO];simp),if_neg (fun h=>h jm),if_neg (fun h=>h ni),zW,oN],by rw[zW];exact iI bB _ _,by rw[zW];exact c6.trans (gm _ _ _),by rw[List.length_set];exact zT,fun y hy=>(List.mem_or_eq_of_mem_set hy).elim (CL y) fun hy=>hy▸CP⟩ (by simp only;omega) (Sub.cons rfl (Sub.cons rfl (Sub.cons rfl (Sub.cons rfl (Sub.cons rfl (Sub.cons rfl (Sub.cons rfl (Sub.cons rfl (Sub.nil _))))))))) (fun w hw=>ai.mem hw)
 ·
  replace h0:=bz h0
  obtain rfl:i=xa.xs.length:=by omega
  have sJ:(ca (⟨cv xc,xa.xs,xg.toNat,xl⟩:VV) f t xa.xs 0 (cv xc) xa.xs)=⟨cv d,zs,none⟩:=by rw[aH,List.drop_length];rfl
  have hE:=TE (x:=(⟨⟨cv xc,xa.xs,xg.toNat,xl⟩,xy⟩:WV)) (src:=f) (to:=t) sJ
  have GX:cf (⟨⟨cv d,xa.xs,xg.toNat,xl⟩,xy⟩:WV):=gA.on bB c6
  refine Gc ?_
  iterate 2 refine Gs ?_
  refine bu rfl GX fun CQ Xi=> ?_
  refine Gs ?_
  refine Gc ?_
  iterate 5 refine Gs ?_
  refine Gc ?_
  refine au (.inl rfl) (bq rfl (aq rfl) (aq rfl)) (fun w1 hw=> ?_)
  exact⟨(CQ.1,CQ.2.1,CQ.2.2.1,CQ.2.2.2),by rw[hE];rfl,by rw[hE];exact Xi,ai.mem hw⟩
instance aib{w0:World}{L R1 R2 L2:List ak}{i0 i1 i2:Nat}{k:Nat}{xc:Cp}{xa:Sl Int}{xg:UInt64}{xl:Int}{xy:Bool}{f:Int}{t:Int}[q0:Has L k (aL (⟨⟨xc,xa,xg,xl⟩,xy⟩:aP)) 141 i0][d0:dx L i0 R1][q1:At R1 (fz xc) i1][d1:dx R1 i1 R2][q2:At R2 (fz xa) i2][d2:dx R2 i2 L2]:cw Tryz.prog 183 w0 L [.pointer (some ⟨k,0,none⟩), .int .i64 f, .int .i64 t] (Cp×Sl Int×UInt64×Int) (fun zz=> .tuple #[.bool ((cY (⟨⟨cv xc,xa.xs,xg.toNat,xl⟩,xy⟩:WV) f t).2.1), .int .i64 ((cY (⟨⟨cv xc,xa.xs,xg.toNat,xl⟩,xy⟩:WV) f t).2.2)]) (fun zz=>ar k (aL (⟨⟨zz.1,zz.2.1,zz.2.2.1,zz.2.2.2⟩,xy⟩:aP)) 141::fz zz.1::fz zz.2.1::L2) (fun zz=>(⟨⟨cv zz.1,zz.2.1.xs,zz.2.2.1.toNat,zz.2.2.2⟩,xy⟩:WV)=(cY (⟨⟨cv xc,xa.xs,xg.toNat,xl⟩,xy⟩:WV) f t).1) (cf (⟨⟨cv xc,xa.xs,xg.toNat,xl⟩,xy⟩:WV)∧2≤f∧f<(cv xc).blocks.length∧(0≤t→2≤t∧t<(cv xc).blocks.length)):=⟨fun hp w hw=>Xe w0 w L2 k xc xa xg xl xy f t (xD q0.h d0.h q1.h d1.h q2.h d2.h hw) hp⟩
open Go.ay Go.Kb
open Go.RowKit
theorem Xj(w:World)(xb:Nat)(xc:Cp)(xa:Sl Int)(xg:UInt64)(xl:Int)(xy:Bool)(l:Sv)(ls:List aA)(eU:w.heap[xb]? =Option.some (.cells (aL (⟨⟨xc,xa,xg,xl⟩,xy⟩:aP)) 141 (0,0)))(dX:Deep.aZ (hp w) xc)(hl:bW bC 4 (hp w) l ls)(bf:ls.length≤1000000∧ ∀x∈ls,0≤x.live∧x.live≤1000000∧0≤x.used∧x.used≤1000000):Calls Tryz.prog 166 #[.pointer (some ⟨xb,0,none⟩),l.val] w fun e w'=>e= .returned (.tuple #[.int .i64 ((jg ls xc.ae).1), .bool ((jg ls xc.ae).2)])∧Mem w [] w':=by
 have sF:pC w xb (aL (⟨⟨xc,xa,xg,xl⟩,xy⟩:aP)) 141:=⟨eU⟩
 have sG:cM w xc:=⟨dX⟩
 have oJ:Gv w l bC 4 ls:=⟨hl⟩
 obtain⟨lq,kg⟩:=bf
 have pq:cN=1099511627776:=rfl
 refine bh (args:=[_,_]) Tryz.func166 rfl Tryz.ntmps166 rfl ?_
 change Cw _ _ _ _ _ [(0, .pointer (some ⟨xb,0,none⟩)),(1,l.val)] []
 refine Gc ?_
 iterate 2 refine Gs ?_
 refine Gc ?_
 iterate 6 refine Gs ?_
 refine ah (Ry.to (v':= .int .i64 xc.ae) (mu rfl) rfl) ?_
 iterate 2 refine Gs ?_
 refine ah (aU (v:= .int .i64 ((kz ls xc.ae).1)) rfl rfl) ?_
 refine ah (aU (v:= .bool ((kz ls xc.ae).2)) rfl rfl) ?_
 iterate 2 refine Gs ?_
 refine Gc ?_
 refine Gs ?_
 refine Gc ?_
 refine av rfl (fun h0=> ?_) (fun h0=> ?_)
 ·
  replace h0:=bz h0
  have hE:jg ls xc.ae=((kz ls xc.ae).1,true):=by rw[jg,if_pos h0]
  refine Gc ?_
  iterate 3 refine Gs ?_
  refine Gc ?_
  refine au (.inl rfl) (bq rfl (aq rfl) (aq rfl)) (fun w1 hw=> ?_)
  exact⟨by rw[hE],ai.mem hw⟩
 ·
  replace h0:=bz h0
  have hE:jg ls xc.ae=((gp ls ls.length).1,decide (0<(gp ls ls.length).2)):=by rw[jg,if_neg (by rw[h0];simp)]
  refine Gc ?_
  iterate 2 refine Gs ?_
  refine Gc ?_
  iterate 3 refine Gs ?_
  refine Gc ?_
  refine ct (X:=Nat) (fun zz=>[(28, .int .i64 (zz:Nat)),(8, .int .i64 ((gp ls zz).1)),(9, .int .i64 ((gp ls zz).2)),(26,l.val),(27, .int .i64 (ls.length:Nat))]) (fun zz=>[]) (fun zz=>zz≤ls.length) (fun zz=>ls.length -zz) 0 (Nat.zero_le _) (Sub.cons rfl (Sub.cons rfl (Sub.cons rfl (Sub.cons rfl (Sub.cons rfl (Sub.nil _)))))) (fun w hw=>ai.mem hw) ?_
  rintro i bl
  refine Gc ?_
  refine Gs ?_
  refine Gc ?_
  refine av rfl (fun h1=> ?_) (fun h1=> ?_)
  ·
   replace h1:=bz h1
   obtain⟨z,hz⟩:=get_some (xs:=ls) (i:=i) (by omega)
   have vL:ls.getD i du=z:=by simp[List.getD,hz]
   have M4:=kg z (List.mem_of_getElem? hz)
   have vH:=FL ls i
   have eS:(gp ls (i+1))=vo (gp ls i) i z:=by rw[gp,vL]
   refine Gc ?_
   refine Gs ?_
   refine ah (bo rfl rfl i rfl (by omega)) ?_
   refine ah (jb rfl i hz rfl) ?_
   refine bM fun pE=> ?_
   iterate 2 refine Gs ?_
   refine Gc ?_
   iterate 3 refine Gs ?_
   iterate 3 refine Gg ?_
   iterate 2 refine Gs ?_
   iterate 3 refine Gg ?_
   refine Gs ?_
   refine Gc ?_
   refine av rfl (fun h2=> ?_) (fun h2=> ?_)
   ·
    replace h2:=bz h2
    have bH:(gp ls (i+1))=(gp ls i):=by rw[eS,vo,if_pos (h2.elim (fun h=>h.elim (fun h=> .inl h) fun h=> .inr (.inl h)) fun h=> .inr (.inr (by omega)))]
    refine Gc ?_
    iterate 2 refine Gs ?_
    refine Gi ?_
    exact bI (x:=(i)) (i+1) (by first|omega|(simp only[];omega)) (by first|omega|(simp only[];omega)) (Sub.cons rfl (Sub.cons (look_eq rfl (by rw[bH])) (Sub.cons (look_eq rfl (by rw[bH])) (Sub.cons rfl (Sub.cons rfl (Sub.nil _)))))) (fun w hw=>ai.mem hw)
   ·
    replace h2:=bz h2
    have fk: ¬(z.bad=true∨z.live=0∨cN≤z.aS):=fun g=>g.elim (fun g=>absurd (h2.1.1.symm.trans g) (by simp)) (fun g=>g.elim h2.1.2 (fun g=>h2.2 (by omega)))
    refine Gc ?_
    iterate 6 refine Gs ?_
    refine Gc ?_
    iterate 3 refine Gs ?_
    refine Gc ?_
    refine av rfl (fun h3=> ?_) (fun h3=> ?_)
    ·
     replace h3:=bz h3
     have bH:(gp ls (i+1))=((i:Int),z.used -z.live):=by rw[eS,vo,if_neg fk,if_pos h3]
     refine Gi ?_
     iterate 4 refine Gs ?_
     refine Gc ?_
     iterate 2 refine Gs ?_
     refine Gi ?_
     exact bI (x:=(i)) (i+1) (by first|omega|(simp only[];omega)) (by first|omega|(simp only[];omega)) (Sub.cons rfl (Sub.cons (look_eq rfl (by rw[bH])) (Sub.cons (look_eq rfl (by rw[bH])) (Sub.cons rfl (Sub.cons rfl (Sub.nil _)))))) (fun w hw=>ai.mem hw)
    ·
     replace h3:=bz h3
     have bH:(gp ls (i+1))=(gp ls i):=by rw[eS,vo,if_neg fk,if_neg h3]
     refine Gc ?_
     iterate 2 refine Gs ?_
     refine Gi ?_
     exact bI (x:=(i)) (i+1) (by first|omega|(simp only[];omega)) (by first|omega|(simp only[];omega)) (Sub.cons rfl (Sub.cons (look_eq rfl (by rw[bH])) (Sub.cons (look_eq rfl (by rw[bH])) (Sub.cons rfl (Sub.cons rfl (Sub.nil _)))))) (fun w hw=>ai.mem hw)
  ·
   replace h1:=bz h1
   obtain rfl:i=ls.length:=by omega
   refine Gc ?_
   iterate 5 refine Gs ?_
   refine Gc ?_
   refine au (.inl rfl) (bq rfl (aq rfl) (aq rfl)) (fun w1 hw=> ?_)
   exact⟨by rw[hE],ai.mem hw⟩
instance aic{w0:World}{L:List ak}{xb:Nat}{xc:Cp}{xa:Sl Int}{xg:UInt64}{xl:Int}{xy:Bool}{l:Sv}{ls:List aA}[eU:lr w0 L xb (aL (⟨⟨xc,xa,xg,xl⟩,xy⟩:aP)) 141][dX:aW w0 L xc][hl:c8 w0 L bC 4 l ls]:cR Tryz.prog 166 w0 L [.pointer (some ⟨xb,0,none⟩),l.val] (.tuple #[.int .i64 ((jg ls xc.ae).1), .bool ((jg ls xc.ae).2)]) (ls.length≤1000000∧ ∀x∈ls,0≤x.live∧x.live≤1000000∧0≤x.used∧x.used≤1000000):=⟨fun hp w hw=>Xj w xb xc xa xg xl xy l ls (eU.h w hw) (dX.h w hw) (hl.h w hw) hp⟩
theorem Xk(w:World)(x:aA):Calls Tryz.prog 192 #[.agg (bC x)] w fun e w'=>e= .returned (.bool (pw x))∧Mem w [] w':=by
 refine bh (args:=[_]) Tryz.func192 rfl Tryz.ntmps192 rfl ?_
 change Cw _ _ _ _ _ [(0, .agg (bC x))] []
 refine Gc ?_
 refine cA rfl fun b1=> ?_
 refine Gs ?_
 refine Gc ?_
 iterate 4 refine Gs ?_
 refine Gc ?_
 refine au (.inl rfl) (aQ rfl (aq rfl)) (fun w1 hw=> ?_)
 exact⟨congrArg (fun b=>Ending.returned (Value.bool b)) (rfl),ai.mem hw⟩
instance {w0:World}{L:List ak}:qz Tryz.prog w0 L 192 #[] bC pw:=⟨inferInstance,fun w _ x=>Xk w x⟩
theorem Xl(w:World)(x:aA):Calls Tryz.prog 194 #[.agg (bC x)] w fun e w'=>e= .returned (.bool (qo x))∧Mem w [] w':=by
 refine bh (args:=[_]) Tryz.func194 rfl Tryz.ntmps194 rfl ?_
 change Cw _ _ _ _ _ [(0, .agg (bC x))] []
 refine Gc ?_
 refine cA rfl fun b1=> ?_
 refine Gs ?_
 refine Gc ?_
 iterate 4 refine Gs ?_
 refine Gc ?_
 refine au (.inl rfl) (aQ rfl (aq rfl)) (fun w1 hw=> ?_)
 exact⟨congrArg (fun b=>Ending.returned (Value.bool b)) (rfl),ai.mem hw⟩
instance {w0:World}{L:List ak}:qz Tryz.prog w0 L 194 #[] bC qo:=⟨inferInstance,fun w _ x=>Xl w x⟩
theorem Xm(w:World)(cb:Nat)(cp:Int)(oG:w.cell? ⟨cb,0,none⟩=Option.some (.int .i64 cp))(x:aA):Calls Tryz.prog 193 #[.agg (bC x), .pointer (some ⟨cb,0,none⟩)] w fun e w'=>e= .returned (.bool (vp cp x))∧Mem w [] w':=by
 refine bh (args:=[_,_]) Tryz.func193 rfl Tryz.ntmps193 rfl ?_
 change Cw _ _ _ _ _ [(0, .agg (bC x)),(1, .pointer (some ⟨cb,0,none⟩))] []
 refine Gc ?_
 refine cA rfl fun b2=> ?_
 refine Gs ?_
 refine Gc ?_
 iterate 2 refine Gs ?_
 refine ah (Mo rfl oG) ?_
 iterate 2 refine Gs ?_
 refine Gc ?_
 refine au (.inl rfl) (aQ rfl (aq rfl)) (fun w1 hw=> ?_)
 exact⟨congrArg (fun b=>Ending.returned (Value.bool b)) (rfl),ai.mem hw⟩
instance {w0:World}{L:List ak}{cb i:Nat}{cp:Int}{T:TypeId}[q:Has L cb #[.int .i64 cp] T i]:qz Tryz.prog w0 L 193 #[.pointer (some ⟨cb,0,none⟩)] bC (vp cp):=⟨inferInstance,fun w hw x=>Xm w cb cp (by rw[hw.cell q.h];rfl) x⟩
theorem Xn(w0 w:World)(L:List ak)(k:Nat)(xc:Cp)(xa:Sl Int)(xg:UInt64)(xl:Int)(xy:Bool)(l:Sv)(ls:List aA)[hl:Hd w0 L l bC 4 ls](hw:Mem w0 (ar k (aL (⟨⟨xc,xa,xg,xl⟩,xy⟩:aP)) 141::fz xc::L) w)(bf:aT (cv xc)=true∧ki (cv xc) ls):Calls Tryz.prog 181 #[.pointer (some ⟨k,0,none⟩),l.val] w fun e w'=> ∃zz:Cp,e= .returned (.tuple #[.int .i64 ((bK (cv xc) ls).2.1), .int .i64 ((bK (cv xc) ls).2.2)])∧(cv zz=(bK (cv xc) ls).1)∧Mem w0 (ar k (aL (⟨⟨zz,xa,xg,xl⟩,xy⟩:aP)) 141::fz zz::L) w':=by
 have hk:=bf.1
 have iW:=bf.2.1
 have hd:=eH hk
 refine kv (args:=[_,_]) Tryz.func181 rfl Tryz.ntmps181 rfl hw ?_
 change Cw _ _ _ _ _ [(0, .pointer (some ⟨k,0,none⟩)),(1,l.val)] (ar k (aL (⟨⟨xc,xa,xg,xl⟩,xy⟩:aP)) 141::fz xc::L)
 refine Gc ?_
 iterate 2 refine Gs ?_
 refine Gc ?_
 iterate 5 refine Gs ?_
 refine ah (Ry.to (v':= .int .i64 xc.ae) (bJ rfl) rfl) ?_
 refine UG (z:= .int .i64 0) rfl fun b6=> ?_
 refine UH (by first|rfl|exact Sv.one _) rfl rfl ?_
 refine Gc ?_
 refine Gs ?_
 refine bu rfl (by omega) fun mo Cx=> ?_
 refine Gs ?_
 refine Gc ?_
 iterate 4 refine Gs ?_
 refine ah (aU (v:= .int .i64 ((eY (bZ pw ls) xc.ae).1)) rfl rfl) ?_
 refine ah (aU (v:= .bool ((eY (bZ pw ls) xc.ae).2)) rfl rfl) ?_
 iterate 2 refine Gs ?_
 refine Gc ?_
 refine Gs ?_
 refine Gc ?_
 refine av rfl (fun h0=> ?_) (fun h0=> ?_)
 ·
  replace h0:=bz h0
  have nQ:(kW (cv xc) ls).2=true:=h0
  have hE:(bK (cv xc) ls)=(cv xc,(kW (cv xc) ls).1+2,0):=by rw[bK,if_pos nQ]
  have nc:=tF bf.2 (fun x h=>(vk h).1) nQ
  change 0≤(eY (bZ pw ls) xc.ae).1∧(eY (bZ pw ls) xc.ae).1<_∧_ at nc
  refine Gc ?_
  iterate 4 refine Gs ?_
  refine Gc ?_
  refine au (.inl rfl) (bq rfl (aq rfl) (aq rfl)) (fun w1 hw=> ?_)
  exact⟨xc,by rw[hE];rfl,by rw[hE],ai.mem hw⟩
 ·
  replace h0:=bz h0
  have nQ: ¬(kW (cv xc) ls).2=true:=fun h=>by rw[show(kW (cv xc) ls).2=false from h0]at h;cases h
  refine Gc ?_
  refine Gs ?_
  refine ah (Gj rfl) ?_
  refine bu rfl (by omega) fun zX M5=> ?_
  refine Gs ?_
  refine Gc ?_
  iterate 4 refine Gs ?_
  refine ah (aU (v:= .int .i64 ((eZ (bZ (vp xc.ae) ls) xc.ae).1)) rfl rfl) ?_
  refine ah (aU (v:= .bool ((eZ (bZ (vp xc.ae) ls) xc.ae).2)) rfl rfl) ?_
  iterate 2 refine Gs ?_
  refine Gc ?_
  refine Gs ?_
  refine Gc ?_
  refine av rfl (fun h1=> ?_) (fun h1=> ?_)
  ·
   replace h1:=bz h1
   have eD:(jE (cv xc) ls).2=true:=h1
   have hE:(bK (cv xc) ls)=((cG (cv xc) ((jE (cv xc) ls).1+2)).1,(jE (cv xc) ls).1+2,(cG (cv xc) ((jE (cv xc) ls).1+2)).2):=by rw[bK,if_neg nQ,if_pos eD]
   have nc:=tF bf.2 (fun x h=>(kA h).1) eD
   change 0≤(eZ (bZ (vp xc.ae) ls) xc.ae).1∧(eZ (bZ (vp xc.ae) ls) xc.ae).1<_∧_ at nc
   refine Gc ?_
   iterate 5 refine Gs ?_
   refine bu rfl ⟨hk,by omega,by omega⟩ fun ub M6=> ?_
   iterate 2 refine Gs ?_
   refine Gc ?_
   refine au (.inl rfl) (bq rfl (aq rfl) (aq rfl)) (fun w1 hw=> ?_)
   exact⟨ub,by rw[hE];rfl,by rw[M6,hE];rfl,ai.mem hw⟩
  ·
   replace h1:=bz h1
   have eD: ¬(jE (cv xc) ls).2=true:=fun h=>by rw[show(jE (cv xc) ls).2=false from h1]at h;cases h
   refine Gc ?_
   refine Gs ?_
   refine bu rfl (by omega) fun nP vD=> ?_
   refine Gs ?_
   refine Gc ?_
   iterate 4 refine Gs ?_
   refine ah (aU (v:= .int .i64 ((eZ (bZ qo ls) xc.ae).1)) rfl rfl) ?_
   refine ah (aU (v:= .bool ((eZ (bZ qo ls) xc.ae).2)) rfl rfl) ?_
   iterate 2 refine Gs ?_
   refine Gc ?_
   refine Gs ?_
   refine Gc ?_
   refine av rfl (fun h2=> ?_) (fun h2=> ?_)
   ·
    replace h2:=bz h2
    have fk:(jh (cv xc) ls).2=true:=h2
    have hE:(bK (cv xc) ls)=((cG (cv xc) ((jh (cv xc) ls).1+2)).1,(jh (cv xc) ls).1+2,(cG (cv xc) ((jh (cv xc) ls).1+2)).2):=by rw[bK,if_neg nQ,if_neg eD,if_pos fk]
    have nc:=tF bf.2 (fun x h=>(kA h).1) fk
    change 0≤(eZ (bZ qo ls) xc.ae).1∧(eZ (bZ qo ls) xc.ae).1<_∧_ at nc
    refine Gc ?_
    iterate 5 refine Gs ?_
    refine bu rfl ⟨hk,by omega,by omega⟩ fun Xo Xp=> ?_
    iterate 2 refine Gs ?_
    refine Gc ?_
    refine au (.inl rfl) (bq rfl (aq rfl) (aq rfl)) (fun w1 hw=> ?_)
    exact⟨Xo,by rw[hE];rfl,by rw[Xp,hE];rfl,ai.mem hw⟩
   ·
    replace h2:=bz h2
    have fk: ¬(jh (cv xc) ls).2=true:=fun h=>by rw[show(jh (cv xc) ls).2=false from h2]at h;cases h
    refine Gc ?_
    iterate 2 refine Gs ?_
    refine Gc ?_
    refine au (.inl rfl) (bq rfl (aq rfl) (aq rfl)) (fun w1 hw=> ?_)
    exact⟨xc,by rw[bK,if_neg nQ,if_neg eD,if_neg fk],by rw[bK,if_neg nQ,if_neg eD,if_neg fk],ai.mem hw⟩
instance aid{w0:World}{L R1 L2:List ak}{i0 i1:Nat}{k:Nat}{xc:Cp}{xa:Sl Int}{xg:UInt64}{xl:Int}{xy:Bool}{l:Sv}{ls:List aA}[q0:Has L k (aL (⟨⟨xc,xa,xg,xl⟩,xy⟩:aP)) 141 i0][d0:dx L i0 R1][q1:At R1 (fz xc) i1][d1:dx R1 i1 L2][hl:Hd w0 L2 l bC 4 ls]:cw Tryz.prog 181 w0 L [.pointer (some ⟨k,0,none⟩),l.val] (Cp) (fun zz=> .tuple #[.int .i64 ((bK (cv xc) ls).2.1), .int .i64 ((bK (cv xc) ls).2.2)]) (fun zz=>ar k (aL (⟨⟨zz,xa,xg,xl⟩,xy⟩:aP)) 141::fz zz::L2) (fun zz=>cv zz=(bK (cv xc) ls).1) (aT (cv xc)=true∧ki (cv xc) ls):=⟨fun hp w hw=>Xn w0 w L2 k xc xa xg xl xy l ls (sq q0.h d0.h q1.h d1.h hw) hp⟩
open Go.ay Go.Kb
open Go.RowKit
theorem Xq(w0 w:World)(L:List ak)(k:Nat)(xc:Cp)(xa:Sl Int)(xg:UInt64)(xl:Int)(xy:Bool)(l:Sv)(ls:List aA)(i:Int)[hl:Hd w0 L l bC 4 ls](hw:Mem w0 (ar k (aL (⟨⟨xc,xa,xg,xl⟩,xy⟩:aP)) 141::fz xc::fz xa::L) w)(bf:cf (⟨⟨cv xc,xa.xs,xg.toNat,xl⟩,xy⟩:WV)∧ki (cv xc) ls∧0≤i∧i<ls.length):Calls Tryz.prog 168 #[.pointer (some ⟨k,0,none⟩),l.val, .int .i64 i] w fun e w'=> ∃zz:Cp×Sl Int×UInt64×Int,e= .returned (.int .i64 ((eC (⟨⟨cv xc,xa.xs,xg.toNat,xl⟩,xy⟩:WV) ls i).2))∧((⟨⟨cv zz.1,zz.2.1.xs,zz.2.2.1.toNat,zz.2.2.2⟩,xy⟩:WV)=(eC (⟨⟨cv xc,xa.xs,xg.toNat,xl⟩,xy⟩:WV) ls i).1)∧Mem w0 (ar k (aL (⟨⟨zz.1,zz.2.1,zz.2.2.1,zz.2.2.2⟩,xy⟩:aP)) 141::fz zz.1::fz zz.2.1::L) w':=by
 obtain⟨gA,qB,yq,bl⟩:=bf
 have hk:aT (cv xc)=true:=gA.ag
 have xO:4≤(cv xc).blocks.length:=gA.oD
 have hd:=eH hk
 have iW:=qB.1
 obtain⟨z,hz⟩:=get_some (xs:=ls) (i:=i.toNat) (by omega)
 have vL:ls.getD i.toNat du=z:=by simp[List.getD,hz]
 have xx:(ls.set i.toNat bc).length=ls.length:=List.length_set
 refine kv (args:=[_,_,_]) Tryz.func168 rfl Tryz.ntmps168 rfl hw ?_
 change Cw _ _ _ _ _ [(0, .pointer (some ⟨k,0,none⟩)),(1,l.val),(2, .int .i64 i)] (ar k (aL (⟨⟨xc,xa,xg,xl⟩,xy⟩:aP)) 141::fz xc::fz xa::L)
 refine Gc ?_
 refine Gs ?_
 refine Gc ?_
 refine Gs ?_
 refine bu rfl (by omega) fun pH GY=> ?_
 refine Gs ?_
 refine Gc ?_
 iterate 2 refine Gs ?_
 refine ah (cW (v:= .agg (bC bc)) rfl CI) ?_
 refine ah (bo rfl rfl i.toNat (by omega) (by omega)) ?_
 refine kP (s:=pH) (n:=4) (k:=i.toNat) (j:=0) (a:=z) (a':=bc) (xs:=ls) (enc:=bC) (c:=4) (v:= .agg (bC bc)) (by kernel_rfl) rfl rfl rfl hz (bp.one (enc:=bC) (c:=4) _) rfl (by decide) (by rfl) ?_
 refine Gc ?_
 iterate 2 refine Gs ?_
 refine bu rfl ⟨hk,qB.set i.toNat⟩ fun gT vB=> ?_
 obtain⟨t1,t2,t3,t4,t5,t6⟩:=FN hk (qB.set i.toNat)
 rw[←vB]at t1 t2 t3 t4 t5 t6
 have nZ:cf (⟨⟨cv gT,xa.xs,xg.toNat,xl⟩,xy⟩:WV):=gA.on t1 t2
 refine Gs ?_
 refine ah (aU (v:= .int .i64 ((bK (cv xc) (ls.set i.toNat bc)).2.1)) rfl rfl) ?_
 refine ah (aU (v:= .int .i64 ((bK (cv xc) (ls.set i.toNat bc)).2.2)) rfl rfl) ?_
 iterate 2 refine Gs ?_
 iterate 2 refine Gi ?_
 refine wo (X:=Unit) (fun zz=>[(8, .int .i64 ((cc (cv xc) ls i).1)),(9, .int .i64 ((cc (cv xc) ls i).2)),(0, .pointer (some ⟨k,0,none⟩)),(1,l.val),(2, .int .i64 i)]) (fun zz=>ar k (aL (⟨⟨gT,xa,xg,xl⟩,xy⟩:aP)) 141::fz gT::fz xa::L) (fun zz=>True) ?_ ?_
 ·
  refine Gi ?_
  refine jw (by kernel_rfl) (by kernel_rfl) ?_
  iterate 3 refine Gq ?_
  iterate 2 refine Gh ?_
  refine fK rfl rfl rfl (fun hg=>(Ry.yl (jO (aG hg rfl)))) ?_
  refine fK rfl rfl rfl (fun hg=>(Ry.yl (aI (o':=0) (aG hg rfl) rfl))) ?_
  refine fK rfl rfl rfl (fun hg=>(Ry.yl (aI (o':=0) (aG hg rfl) rfl))) ?_
  refine fK rfl rfl rfl (fun hg=>(Ry.yl (aI (o':=0) (aG hg rfl) rfl))) ?_
  refine fK rfl rfl rfl (fun hg=>(Ry.yl (Ry.to (v':= .int .i64 gT.ae) (bJ (aG hg rfl)) rfl))) ?_
  refine fK rfl rfl rfl (fun hg=>cJ (dI (aG hg rfl) (dI (aG hg rfl) gN)) trivial) ?_
  iterate 2 refine Gh ?_
  refine fK rfl rfl rfl (fun hg=>(Ry.yl (bo (aG hg rfl) (aG hg rfl) i.toNat (by omega) (by omega)))) ?_
  refine fK rfl rfl rfl (fun hg=>(Ry.yl (aI (aG hg rfl) rfl))) ?_
  refine fK rfl rfl rfl (fun hg=>(Ry.yl (bO (j:=0) (aG hg rfl) i.toNat hz rfl (by decide)))) ?_
  refine Gh ?_
  refine Gq ?_
  refine Gc ?_
  refine av rfl (fun h0=> ?_) (fun h0=> ?_)
  ·
   replace h0:=bz h0
   have hA:px (cv xc) ls i=true:=by
    rw[px,vL,Bool.and_eq_true,decide_eq_true_eq,decide_eq_true_eq,←show gT.ae=(cv xc).ae from t2.ae];exact h0
   refine Gi ?_
   iterate 2 refine Gs ?_
   refine Gi ?_
   exact oY () trivial (Sub.cons (look_eq rfl (by rw[cc,if_pos hA])) (Sub.cons (look_eq rfl (by rw[cc,if_pos hA])) (Sub.cons rfl (Sub.cons rfl (Sub.cons rfl (Sub.nil _)))))) (fun w hw=>ai.mem hw)
  ·
   replace h0:=bz h0
   have hA: ¬px (cv xc) ls i=true:=by
    rw[px,vL,Bool.and_eq_true,decide_eq_true_eq,decide_eq_true_eq,←show gT.ae=(cv xc).ae from t2.ae]
    rintro⟨ga,gb⟩
    rcases h0 with h|h
    ·
     exact h ga
    ·
     exact h gb
   refine Gi ?_
   exact oY () trivial (Sub.cons (look_eq rfl (by rw[cc,if_neg hA])) (Sub.cons (look_eq rfl (by rw[cc,if_neg hA])) (Sub.cons rfl (Sub.cons rfl (Sub.cons rfl (Sub.nil _)))))) (fun w hw=>ai.mem hw)
 ·
  rintro⟨⟩ _
  refine Gc ?_
  iterate 2 refine Gs ?_
  refine Gc ?_
  refine av rfl (fun h1=> ?_) (fun h1=> ?_)
  ·
   replace h1:=bz h1
   have hE:(eC (⟨⟨cv xc,xa.xs,xg.toNat,xl⟩,xy⟩:WV) ls i)=(((⟨⟨cv xc,xa.xs,xg.toNat,xl⟩,xy⟩:WV).on (cv gT)),jf (cc (cv xc) ls i).2):=by rw[eC,if_pos h1,show((⟨⟨cv xc,xa.xs,xg.toNat,xl⟩,xy⟩:WV)).v.ag=cv xc from rfl,←vB]
   refine Gc ?_
   iterate 3 refine Gs ?_
   refine Gc ?_
   refine au (.inl rfl) (aQ rfl (aq rfl)) (fun w1 hw=> ?_)
   exact⟨(gT,xa,xg,xl),by rw[hE],by rw[hE];rfl,ai.mem hw⟩
  ·
   replace h1:=bz h1
   have eD: ¬(cc (cv xc) ls i).2≠0:=fun h=>h h1
   have bH:(eC (⟨⟨cv xc,xa.xs,xg.toNat,xl⟩,xy⟩:WV) ls i)=(if(cY (⟨⟨cv gT,xa.xs,xg.toNat,xl⟩,xy⟩:WV) (i+2) (cc (cv xc) ls i).1).2.1=false∨z.used=xc.ae then((cY (⟨⟨cv gT,xa.xs,xg.toNat,xl⟩,xy⟩:WV) (i+2) (cc (cv xc) ls i).1).1,(cY (⟨⟨cv gT,xa.xs,xg.toNat,xl⟩,xy⟩:WV) (i+2) (cc (cv xc) ls i).1).2.2)else((cY (⟨⟨cv gT,xa.xs,xg.toNat,xl⟩,xy⟩:WV) (i+2) (cc (cv xc) ls i).1).1.on (cG (cY (⟨⟨cv gT,xa.xs,xg.toNat,xl⟩,xy⟩:WV) (i+2) (cc (cv xc) ls i).1).1.v.ag (i+2)).1,jf (cG (cY (⟨⟨cv gT,xa.xs,xg.toNat,xl⟩,xy⟩:WV) (i+2) (cc (cv xc) ls i).1).1.v.ag (i+2)).2)):=by
    rw[eC]
    refine(if_neg eD).trans ?_
    rw[vL,show((⟨⟨cv xc,xa.xs,xg.toNat,xl⟩,xy⟩:WV)).v.ag=cv xc from rfl,←vB];rfl
   refine Gc ?_
   iterate 4 refine Gs ?_
   refine bu rfl ⟨nZ,by omega,by rw[t2.len];omega,fun h=>by rw[t2.len];have:=xi (i:=i) hk qB h1 h;exact⟨this.1,this.2.1⟩⟩ fun nP vD=> ?_
   have hm:=TG (x:=(⟨⟨cv gT,xa.xs,xg.toNat,xl⟩,xy⟩:WV)) (src:=i+2) (to:=(cc (cv xc) ls i).1) nZ (fun h=>by
    have:=xi (i:=i) hk qB h1 h
    exact⟨this.1,by rw[show((⟨⟨cv gT,xa.xs,xg.toNat,xl⟩,xy⟩:WV)).v.ag.blocks.length=(cv xc).blocks.length from t2.len];exact this.2.1,by rw[show((⟨⟨cv gT,xa.xs,xg.toNat,xl⟩,xy⟩:WV)).v.ag=(bK (cv xc) (ls.set i.toNat bc)).1 from vB];exact this.2.2⟩)
   rw[←vD]at hm
   obtain⟨Xr,M7⟩:=hm
   have ng:nP.1.ae=xc.ae:=M7.ae.trans t2.ae
   refine Gs ?_
   refine ah (aU (v:= .bool ((cY (⟨⟨cv gT,xa.xs,xg.toNat,xl⟩,xy⟩:WV) (i+2) ((cc (cv xc) ls i).1)).2.1)) rfl rfl) ?_
   refine ah (aU (v:= .int .i64 ((cY (⟨⟨cv gT,xa.xs,xg.toNat,xl⟩,xy⟩:WV) (i+2) ((cc (cv xc) ls i).1)).2.2)) rfl rfl) ?_
   iterate 2 refine Gs ?_
   refine Gc ?_
   refine jw (by kernel_rfl) (by kernel_rfl) ?_
   iterate 3 refine Gq ?_
   iterate 2 refine Gh ?_
   refine iM rfl rfl rfl (fun hg=>(Ry.yl (bo (aG hg rfl) (aG hg rfl) i.toNat (by omega) (by omega)))) ?_
   refine iM rfl rfl rfl (fun hg=>(Ry.yl (aI (aG hg rfl) rfl))) ?_
   refine iM rfl rfl rfl (fun hg=>(Ry.yl (bO (j:=1) (aG hg rfl) i.toNat hz rfl (by decide)))) ?_
   refine Gh ?_
   refine iM rfl rfl rfl (fun hg=>(Ry.yl (jO (aG hg rfl)))) ?_
   refine iM rfl rfl rfl (fun hg=>(Ry.yl (aI (o':=0) (aG hg rfl) rfl))) ?_
   refine iM rfl rfl rfl (fun hg=>(Ry.yl (aI (o':=0) (aG hg rfl) rfl))) ?_
   refine iM rfl rfl rfl (fun hg=>(Ry.yl (aI (o':=0) (aG hg rfl) rfl))) ?_
   refine iM rfl rfl rfl (fun hg=>(Ry.yl (Ry.to (v':= .int .i64 nP.1.ae) (bJ (aG hg rfl)) rfl))) ?_
   refine Gh ?_
   refine Gq ?_
   refine Gc ?_
   refine av rfl (fun h2=> ?_) (fun h2=> ?_)
   ·
    replace h2:=bz h2
    have hE:=bH
    rw[if_pos (by rw[←ng];exact h2),←vD]at hE
    refine Gc ?_
    iterate 2 refine Gs ?_
    refine Gc ?_
    refine au (.inl rfl) (aQ rfl (aq rfl)) (fun w1 hw=> ?_)
    exact⟨(nP.1,nP.2.1,nP.2.2.1,nP.2.2.2),by rw[hE],by rw[hE],ai.mem hw⟩
   ·
    replace h2:=bz h2
    have hE:=bH
    rw[if_neg (by rw[←ng];rintro(g|g)
                  ·exact absurd (h2.1.symm.trans g) (by simp)
                  ·exact h2.2 g),←vD]at hE
    refine Gc ?_
    iterate 3 refine Gs ?_
    refine bu rfl ⟨Xr.ag,by omega,by rw[M7.len,t2.len];omega⟩ fun Xs Xt=> ?_
    iterate 2 refine Gs ?_
    refine Gc ?_
    refine au (.inl rfl) (aQ rfl (aq rfl)) (fun w1 hw=> ?_)
    exact⟨(Xs,nP.2.1,nP.2.2.1,nP.2.2.2),by rw[hE],by rw[hE,Xt];rfl,ai.mem hw⟩
instance aie{w0:World}{L R1 R2 L2:List ak}{i0 i1 i2:Nat}{k:Nat}{xc:Cp}{xa:Sl Int}{xg:UInt64}{xl:Int}{xy:Bool}{l:Sv}{ls:List aA}{i:Int}[q0:Has L k (aL (⟨⟨xc,xa,xg,xl⟩,xy⟩:aP)) 141 i0][d0:dx L i0 R1][q1:At R1 (fz xc) i1][d1:dx R1 i1 R2][q2:At R2 (fz xa) i2][d2:dx R2 i2 L2][hl:Hd w0 L2 l bC 4 ls]:cw Tryz.prog 168 w0 L [.pointer (some ⟨k,0,none⟩),l.val, .int .i64 i] (Cp×Sl Int×UInt64×Int) (fun zz=> .int .i64 ((eC (⟨⟨cv xc,xa.xs,xg.toNat,xl⟩,xy⟩:WV) ls i).2)) (fun zz=>ar k (aL (⟨⟨zz.1,zz.2.1,zz.2.2.1,zz.2.2.2⟩,xy⟩:aP)) 141::fz zz.1::fz zz.2.1::L2) (fun zz=>(⟨⟨cv zz.1,zz.2.1.xs,zz.2.2.1.toNat,zz.2.2.2⟩,xy⟩:WV)=(eC (⟨⟨cv xc,xa.xs,xg.toNat,xl⟩,xy⟩:WV) ls i).1) (cf (⟨⟨cv xc,xa.xs,xg.toNat,xl⟩,xy⟩:WV)∧ki (cv xc) ls∧0≤i∧i<ls.length):=⟨fun hp w hw=>Xq w0 w L2 k xc xa xg xl xy l ls i (xD q0.h d0.h q1.h d1.h q2.h d2.h hw) hp⟩
theorem Xu(w:World)(cb k:Nat)(xc:Cp)(xa:Sl Int)(xg:UInt64)(xl:Int)(xy:Bool)(oG:w.cell? ⟨cb,0,none⟩=Option.some (.pointer (some ⟨k,0,none⟩)))(rD:w.heap[k]? =Option.some (.cells (aL (⟨⟨xc,xa,xg,xl⟩,xy⟩:aP)) 141 (0,0)))(x:aA):Calls Tryz.prog 170 #[.agg (bC x), .pointer (some ⟨cb,0,none⟩)] w fun e w'=>e= .returned (.bool (m7 xc.ae x))∧Mem w [] w':=by
 have gkb:pC w k (aL (⟨⟨xc,xa,xg,xl⟩,xy⟩:aP)) 141:=⟨rD⟩
 have pq:cN=1099511627776:=rfl
 refine bh (args:=[_,_]) Tryz.func170 rfl Tryz.ntmps170 rfl ?_
 change Cw _ _ _ _ _ [(0, .agg (bC x)),(1, .pointer (some ⟨cb,0,none⟩))] []
 refine Gc ?_
 refine cA rfl fun b2=> ?_
 refine Gs ?_
 refine Gc ?_
 refine jw (by kernel_rfl) (by kernel_rfl) ?_
 iterate 2 refine Gq ?_
 refine bA (Mo rfl oG) ?_
 iterate 4 refine Gq ?_
 refine bA (Ry.to (v':= .int .i64 xc.ae) (mu rfl) rfl) ?_
 iterate 2 refine Gq ?_
 iterate 3 refine Gh ?_
 iterate 2 refine Gq ?_
 refine Gc ?_
 refine au (.inl rfl) (aQ rfl (aq rfl)) (fun w1 hw=> ?_)
 exact⟨congrArg (fun b=>Ending.returned (Value.bool b)) (rfl),ai.mem hw⟩
instance {w0:World}{L:List ak}{cb k i j:Nat}{xc:Cp}{xa:Sl Int}{xg:UInt64}{xl:Int}{xy:Bool}{T:TypeId}[q:Has L cb #[.pointer (some ⟨k,0,none⟩)] T i][q2:Has L k (aL (⟨⟨xc,xa,xg,xl⟩,xy⟩:aP)) 141 j]:qz Tryz.prog w0 L 170 #[.pointer (some ⟨cb,0,none⟩)] bC (m7 xc.ae):=⟨inferInstance,fun w hw x=>Xu w cb k xc xa xg xl xy (by rw[hw.cell q.h];rfl) (hw.block q2.h) x⟩
theorem Xv(w0 w:World)(L:List ak)(k:Nat)(xc:Cp)(xa:Sl Int)(xg:UInt64)(xl:Int)(xy:Bool)(hw:Mem w0 (ar k (aL (⟨⟨xc,xa,xg,xl⟩,xy⟩:aP)) 141::fz xc::fz xa::L) w)(bf:cf (⟨⟨cv xc,xa.xs,xg.toNat,xl⟩,xy⟩:WV)):Calls Tryz.prog 152 #[.pointer (some ⟨k,0,none⟩)] w fun e w'=> ∃zz:Cp×Sl Int×UInt64×Int,e= .returned (.int .i64 ((eP (⟨⟨cv xc,xa.xs,xg.toNat,xl⟩,xy⟩:WV)).2))∧((⟨⟨cv zz.1,zz.2.1.xs,zz.2.2.1.toNat,zz.2.2.2⟩,xy⟩:WV)=(eP (⟨⟨cv xc,xa.xs,xg.toNat,xl⟩,xy⟩:WV)).1)∧Mem w0 (ar k (aL (⟨⟨zz.1,zz.2.1,zz.2.2.1,zz.2.2.2⟩,xy⟩:aP)) 141::fz zz.1::fz zz.2.1::L) w':=by
 have gA:=bf
 have hk:aT (cv xc)=true:=gA.ag
 have xO:4≤(cv xc).blocks.length:=gA.oD
 have hd:=eH hk
 have zS:xg.toNat<281474976710656:=gA.gen
 have oL:qh (cv xc) (aw [xa]):=by rw[zP];exact(show ig (cv xc) xa.xs from gA.re).kn hk (by omega) (by have:xa.xs.length≤64:=gA.nL;omega)
 have qB:ki (cv xc) (aB (cv xc) (aw [xa])):=tE _ _
 have iW:=qB.1
 have eG:(aw [xa]).length≤64:=by rw[zP];exact gA.nL
 have jQ: ∀x∈(aB (cv xc) (aw [xa])),0≤x.live∧x.live≤1000000∧0≤x.used∧x.used≤1000000:=fun x hx=>by
  have t:=tC hk hx
  have:=t.FB;have:=t.Tx;have:=t.zn;have:=t.w8
  exact⟨by omega,by omega,by omega,by omega⟩
 have GZ:(eP (⟨⟨cv xc,xa.xs,xg.toNat,xl⟩,xy⟩:WV))=(if(jg (aB (cv xc) (aw [xa])) xc.ae).2=true∧vj xg.toNat=false then(if(eC (⟨⟨cv xc,xa.xs,xg.toNat,xl⟩,xy⟩:WV) (aB (cv xc) (aw [xa])) (jg (aB (cv xc) (aw [xa])) xc.ae).1).2≠6 then(eC (⟨⟨cv xc,xa.xs,xg.toNat,xl⟩,xy⟩:WV) (aB (cv xc) (aw [xa])) (jg (aB (cv xc) (aw [xa])) xc.ae).1)else jF (eC (⟨⟨cv xc,xa.xs,xg.toNat,xl⟩,xy⟩:WV) (aB (cv xc) (aw [xa])) (jg (aB (cv xc) (aw [xa])) xc.ae).1).1 (aB (cv xc) (aw [xa])))else jF (⟨⟨cv xc,xa.xs,xg.toNat,xl⟩,xy⟩:WV) (aB (cv xc) (aw [xa]))):=by
  have e:(aB (cv xc) (aw [xa]))=bb (⟨⟨cv xc,xa.xs,xg.toNat,xl⟩,xy⟩:WV):=by rw[zP];rfl
  rw[e];rfl
 refine kv (args:=[_]) Tryz.func152 rfl Tryz.ntmps152 rfl hw ?_
 change Cw _ _ _ _ _ [(0, .pointer (some ⟨k,0,none⟩))] (ar k (aL (⟨⟨xc,xa,xg,xl⟩,xy⟩:aP)) 141::fz xc::fz xa::L)
 refine Gc ?_
 refine UF (by first|rfl|exact Sv.jc _) rfl fun b1=> ?_
 refine Gs ?_
 refine Gc ?_
 refine jd [6,7] [[],[],[],[],[],[],[],[6],[6,7]] [0,1,2,3,4,5,6,7,8] [ar b1 #[.pointer (some ⟨k,0,none⟩)] 139,ar k (aL (⟨⟨xc,xa,xg,xl⟩,xy⟩:aP)) 141,fz xa] (fun _ hw=>ai.mem hw) (by kernel_rfl) (by kernel_rfl) ?_
 refine al rfl (bJ rfl) ?_
 refine al rfl (bJ rfl) ?_
 refine al rfl (jO rfl) ?_
 refine al rfl (aI (o':=0) rfl rfl) ?_
 refine al rfl (aI (o':=6) rfl rfl) ?_
 refine al rfl (Ry.to (v':=xa.sv.val) (bJ rfl) rfl) ?_
 refine dC rfl (JO (enc:=cd) (vals:=[xa.sv.val]) [xa] rfl (by simp only[List.map_cons,List.map_nil,Sv.jc];rfl) rfl (by decide) (by decide) fun lR=>⟨fun _ hw=>ai.mem hw,?_⟩)
 refine dC rfl (nA (hc:=GK (l:=(⟨⟨false,lR,0,1,1,none⟩,[xa]⟩:Sl (Sl Int)))) rfl oL fun fR zY=>⟨fun _ hw=>ai.mem hw,?_⟩)
 refine al rfl (bn rfl) ?_
 iterate 2 refine Gi ?_
 refine wo (X:=Cp×Sl Int×UInt64×Int) (fun zz=>[(1, .pointer (some ⟨b1,0,none⟩)),(3,fR.val)]) (fun zz=>ar b1 #[.pointer (some ⟨k,0,none⟩)] 139::ar k (aL (⟨⟨zz.1,zz.2.1,zz.2.2.1,zz.2.2.2⟩,xy⟩:aP)) 141::fz zz.1::fz zz.2.1::own bC 4 fR (aB (cv xc) (aw [xa]))::L) (fun zz=>(eP (⟨⟨cv xc,xa.xs,xg.toNat,xl⟩,xy⟩:WV))=jF (⟨⟨cv zz.1,zz.2.1.xs,zz.2.2.1.toNat,zz.2.2.2⟩,xy⟩:WV) (aB (cv xc) (aw [xa]))∧cf (⟨⟨cv zz.1,zz.2.1.xs,zz.2.2.1.toNat,zz.2.2.2⟩,xy⟩:WV)∧ki (cv zz.1) (aB (cv xc) (aw [xa]))) ?_ ?_
 ·
  refine Gc ?_
  iterate 2 refine Gs ?_
  refine fF (cJ rfl ⟨show(aB (cv xc) (aw [xa])).length≤1000000 by omega,jQ⟩) ?_
  refine Gs ?_
  refine ah (aU (v:= .int .i64 ((jg (aB (cv xc) (aw [xa])) xc.ae).1)) rfl rfl) ?_
  refine ah (aU (v:= .bool ((jg (aB (cv xc) (aw [xa])) xc.ae).2)) rfl rfl) ?_
  iterate 2 refine Gs ?_
  refine Gc ?_
  iterate 2 refine Gs ?_
  refine gv rfl rfl rfl (fun hg=>(Ry.yl (bJ rfl))) ?_
  refine gv rfl rfl rfl (fun hg=>cJ (dI (aG hg rfl) gN) zS) ?_
  refine gv rfl rfl rfl (fun hg=>(Ry.yl (iD (aG hg rfl)))) ?_
  refine Gs ?_
  refine Gc ?_
  refine av rfl (fun h0=> ?_) (fun h0=> ?_)
  ·
   replace h0:=bz h0
   have hv:=FM h0.1
   refine Gc ?_
   iterate 3 refine Gs ?_
   refine bu rfl ⟨gA,qB,hv.1,hv.2⟩ fun jX tY=> ?_
   refine Gs ?_
   refine Gc ?_
   iterate 2 refine Gs ?_
   refine Gc ?_
   refine av rfl (fun h1=> ?_) (fun h1=> ?_)
   ·
    replace h1:=bz h1
    have hE:(eP (⟨⟨cv xc,xa.xs,xg.toNat,xl⟩,xy⟩:WV))=(eC (⟨⟨cv xc,xa.xs,xg.toNat,xl⟩,xy⟩:WV) (aB (cv xc) (aw [xa])) (jg (aB (cv xc) (aw [xa])) xc.ae).1):=by rw[GZ,if_pos h0,if_pos h1]
    refine Gc ?_
    iterate 2 refine Gs ?_
    refine Gc ?_
    refine au (.inl rfl) (aQ rfl (aq rfl)) (fun w1 hw=> ?_)
    exact⟨(jX.1,jX.2.1,jX.2.2.1,jX.2.2.2),by rw[hE],by rw[hE];exact tY,ai.mem hw⟩
   ·
    replace h1:=bz h1
    have eD:(eC (⟨⟨cv xc,xa.xs,xg.toNat,xl⟩,xy⟩:WV) (aB (cv xc) (aw [xa])) (jg (aB (cv xc) (aw [xa])) xc.ae).1).2=6:=h1
    obtain⟨r1,r2,r3⟩:=Cb (i:=(jg (aB (cv xc) (aw [xa])) xc.ae).1) gA qB
    refine Gi ?_
    exact oY (jX.1,jX.2.1,jX.2.2.1,jX.2.2.2) ⟨by rw[GZ,if_pos h0,if_neg (fun h=>h eD),←tY],by rw[tY];exact r1.ok,qB.cx (by have:=r1.cx;rw[←tY]at this;exact this) (by have:=r3 eD;rw[←tY]at this;exact this)⟩ (Sub.cons rfl (Sub.cons rfl (Sub.nil _))) (fun w hw=>ai.mem hw)
  ·
   replace h0:=bz h0
   have tX: ¬((jg (aB (cv xc) (aw [xa])) xc.ae).2=true∧vj xg.toNat=false):=fun g=>h0.elim (fun h=>absurd (h.symm.trans g.1) (by simp)) (fun h=>absurd (h.symm.trans g.2) (by simp))
   refine Gi ?_
   exact oY (xc,xa,xg,xl) ⟨by rw[GZ,if_neg tX],gA,qB⟩ (Sub.cons rfl (Sub.cons rfl (Sub.nil _))) (fun w hw=>ai.mem hw)
 ·
  rintro⟨c,a,g,m⟩ ⟨oO,xQ,GV⟩
  dsimp only
  simp only at oO xQ GV
  have hc4:4≤(cv c).blocks.length:=xQ.oD
  have hdc:=eH (show aT (cv c)=true from xQ.ag)
  refine Gc ?_
  refine Gs ?_
  refine ah (Gj rfl) ?_
  refine bu rfl (by omega) fun x39 aif=> ?_
  refine Gs ?_
  refine Gc ?_
  iterate 6 refine Gs ?_
  refine ah (Ry.to (v':= .int .i64 c.ae) (bJ rfl) rfl) ?_
  iterate 2 refine Gs ?_
  refine ah (aU (v:= .int .i64 ((eZ (bZ (m7 c.ae) (aB (cv xc) (aw [xa]))) c.ae).1)) rfl rfl) ?_
  refine ah (aU (v:= .bool ((eZ (bZ (m7 c.ae) (aB (cv xc) (aw [xa]))) c.ae).2)) rfl rfl) ?_
  iterate 2 refine Gs ?_
  refine Gc ?_
  iterate 2 refine Gs ?_
  refine Gc ?_
  refine av rfl (fun h2=> ?_) (fun h2=> ?_)
  ·
   replace h2:=bz h2
   have hE:jF (⟨⟨cv c,a.xs,g.toNat,m⟩,xy⟩:WV) (aB (cv xc) (aw [xa]))=((⟨⟨cv c,a.xs,g.toNat,m⟩,xy⟩:WV),6):=by
    rw[jF]
    exact if_pos (show(eZ (bZ (m7 c.ae) (aB (cv xc) (aw [xa]))) c.ae).2=false from h2)
   refine Gc ?_
   refine Gs ?_
   refine Gc ?_
   refine au (.inl rfl) (aQ rfl (aq rfl)) (fun w1 hw=> ?_)
   exact⟨(c,a,g,m),by rw[oO,hE],by rw[oO,hE],ai.mem hw⟩
  ·
   replace h2:=bz h2
   have nc:=tF GV (fun x h=>(kA h).1) (show(eZ (bZ (m7 c.ae) (aB (cv xc) (aw [xa]))) c.ae).2=true from h2)
   change 0≤(eZ (bZ (m7 c.ae) (aB (cv xc) (aw [xa]))) c.ae).1∧(eZ (bZ (m7 c.ae) (aB (cv xc) (aw [xa]))) c.ae).1<_∧_ at nc
   have hE:jF (⟨⟨cv c,a.xs,g.toNat,m⟩,xy⟩:WV) (aB (cv xc) (aw [xa]))=((⟨⟨cv c,a.xs,g.toNat,m⟩,xy⟩:WV).on (cG (cv c) ((eZ (bZ (m7 c.ae) (aB (cv xc) (aw [xa]))) c.ae).1+2)).1,jf (cG (cv c) ((eZ (bZ (m7 c.ae) (aB (cv xc) (aw [xa]))) c.ae).1+2)).2):=by
    rw[jF]
    exact if_neg (fun g=>absurd ((show(eZ (bZ (m7 c.ae) (aB (cv xc) (aw [xa]))) c.ae).2=true from h2).symm.trans g) (by simp))
   refine Gc ?_
   iterate 3 refine Gs ?_
   refine bu rfl ⟨xQ.ag,by omega,by omega⟩ fun CR G0=> ?_
   iterate 2 refine Gs ?_
   refine Gc ?_
   refine au (.inl rfl) (aQ rfl (aq rfl)) (fun w1 hw=> ?_)
   exact⟨(CR,a,g,m),by rw[oO,hE],by rw[oO,hE,G0];rfl,ai.mem hw⟩
instance aih{w0:World}{L R1 R2 L2:List ak}{i0 i1 i2:Nat}{k:Nat}{xc:Cp}{xa:Sl Int}{xg:UInt64}{xl:Int}{xy:Bool}[q0:Has L k (aL (⟨⟨xc,xa,xg,xl⟩,xy⟩:aP)) 141 i0][d0:dx L i0 R1][q1:At R1 (fz xc) i1][d1:dx R1 i1 R2][q2:At R2 (fz xa) i2][d2:dx R2 i2 L2]:cw Tryz.prog 152 w0 L [.pointer (some ⟨k,0,none⟩)] (Cp×Sl Int×UInt64×Int) (fun zz=> .int .i64 ((eP (⟨⟨cv xc,xa.xs,xg.toNat,xl⟩,xy⟩:WV)).2)) (fun zz=>ar k (aL (⟨⟨zz.1,zz.2.1,zz.2.2.1,zz.2.2.2⟩,xy⟩:aP)) 141::fz zz.1::fz zz.2.1::L2) (fun zz=>(⟨⟨cv zz.1,zz.2.1.xs,zz.2.2.1.toNat,zz.2.2.2⟩,xy⟩:WV)=(eP (⟨⟨cv xc,xa.xs,xg.toNat,xl⟩,xy⟩:WV)).1) (cf (⟨⟨cv xc,xa.xs,xg.toNat,xl⟩,xy⟩:WV)):=⟨fun hp w hw=>Xv w0 w L2 k xc xa xg xl xy (xD q0.h d0.h q1.h d1.h q2.h d2.h hw) hp⟩
open Go.ay Go.Kb
open Go.RowKit
theorem Xw(w0 w:World)(L:List ak)(k:Nat)(xc:Cp)(xa:Sl Int)(xg:UInt64)(xl:Int)(xy:Bool)(n:Int)(hw:Mem w0 (ar k (aL (⟨⟨xc,xa,xg,xl⟩,xy⟩:aP)) 141::fz xc::fz xa::L) w)(bf:cf (⟨⟨cv xc,xa.xs,xg.toNat,xl⟩,xy⟩:WV)):Calls Tryz.prog 126 #[.pointer (some ⟨k,0,none⟩), .int .i64 n] w fun e w'=> ∃zz:Cp×Sl Int×UInt64×Int×Bool,e= .returned (.int .i64 ((m8 (⟨⟨cv xc,xa.xs,xg.toNat,xl⟩,xy⟩:WV) n).2))∧((⟨⟨cv zz.1,zz.2.1.xs,zz.2.2.1.toNat,zz.2.2.2.1⟩,zz.2.2.2.2⟩:WV)=(m8 (⟨⟨cv xc,xa.xs,xg.toNat,xl⟩,xy⟩:WV) n).1)∧Mem w0 (ar k (aL (⟨⟨zz.1,zz.2.1,zz.2.2.1,zz.2.2.2.1⟩,zz.2.2.2.2⟩:aP)) 141::fz zz.1::fz zz.2.1::L) w':=by
 refine kv (args:=[_,_]) Tryz.func126 rfl Tryz.ntmps126 rfl hw ?_
 change Cw _ _ _ _ _ [(0, .pointer (some ⟨k,0,none⟩)),(1, .int .i64 n)] (ar k (aL (⟨⟨xc,xa,xg,xl⟩,xy⟩:aP)) 141::fz xc::fz xa::L)
 refine Gc ?_
 refine Gs ?_
 refine Gc ?_
 refine ct (X:=Nat×Cp×Sl Int×UInt64×Int) (fun zz=>[(0, .pointer (some ⟨k,0,none⟩)),(1, .int .i64 n)]) (fun zz=>ar k (aL (⟨⟨zz.2.1,zz.2.2.1,zz.2.2.2.1,zz.2.2.2.2⟩,xy⟩:aP)) 141::fz zz.2.1::fz zz.2.2.1::L) (fun zz=>(m8 (⟨⟨cv xc,xa.xs,xg.toNat,xl⟩,xy⟩:WV) n)=py zz.1 (⟨⟨cv zz.2.1,zz.2.2.1.xs,zz.2.2.2.1.toNat,zz.2.2.2.2⟩,xy⟩:WV) n∧cf (⟨⟨cv zz.2.1,zz.2.2.1.xs,zz.2.2.2.1.toNat,zz.2.2.2.2⟩,xy⟩:WV)∧(cN -(cv zz.2.1).ops).toNat<zz.1) (fun zz=>zz.1) ((cN -(cv xc).ops).toNat+1,xc,xa,xg,xl) ⟨rfl,bf,by simp only;omega⟩ (Sub.cons rfl (Sub.cons rfl (Sub.nil _))) (fun w hw=>ai.mem hw) ?_
 rintro⟨m,c,a,g,q⟩ ⟨bl,aH,bB⟩
 dsimp only
 simp only at bl aH bB
 obtain⟨r,rfl⟩: ∃r,m=r+1:=⟨m -1,by omega⟩
 have hk:aT (cv c)=true:=aH.ag
 have xO:4≤(cv c).blocks.length:=aH.oD
 have oL:qh (cv c) a.xs:=(show ig (cv c) a.xs from aH.re).kn hk (by omega) (by have:a.xs.length≤64:=aH.nL;omega)
 have CK:q=0∨q=1:=aH.last
 have bH:(m8 (⟨⟨cv xc,xa.xs,xg.toNat,xl⟩,xy⟩:WV) n)=(if n≤(m0 (cv c) a.xs).1 then((⟨⟨cv c,a.xs,g.toNat,q⟩,xy⟩:WV),0)else if n≤(m0 (cv c) a.xs).2∧tA (cv c) q<2 then({(⟨⟨cv c,a.xs,g.toNat,q⟩,xy⟩:WV)with beyond:=true},0)else if(eP (⟨⟨cv c,a.xs,g.toNat,q⟩,xy⟩:WV)).2=0 then py r (eP (⟨⟨cv c,a.xs,g.toNat,q⟩,xy⟩:WV)).1 n else if(eP (⟨⟨cv c,a.xs,g.toNat,q⟩,xy⟩:WV)).2≠6 then(eP (⟨⟨cv c,a.xs,g.toNat,q⟩,xy⟩:WV))else if n≤(m0 (cv c) a.xs).2 then({(eP (⟨⟨cv c,a.xs,g.toNat,q⟩,xy⟩:WV)).1 with beyond:=true},0)else((eP (⟨⟨cv c,a.xs,g.toNat,q⟩,xy⟩:WV)).1,5)):=by rw[bl,py]
 refine Gc ?_
 refine Gs ?_
 refine fF (cJ rfl oL) ?_
 refine Gs ?_
 refine ah (aU (v:= .int .i64 ((m0 (cv c) a.xs).1)) rfl rfl) ?_
 refine ah (aU (v:= .int .i64 ((m0 (cv c) a.xs).2)) rfl rfl) ?_
 iterate 2 refine Gs ?_
 refine Gc ?_
 iterate 3 refine Gs ?_
 refine Gc ?_
 refine av rfl (fun h0=> ?_) (fun h0=> ?_)
 ·
  replace h0:=bz h0
  have hE:(m8 (⟨⟨cv xc,xa.xs,xg.toNat,xl⟩,xy⟩:WV) n)=((⟨⟨cv c,a.xs,g.toNat,q⟩,xy⟩:WV),0):=by rw[bH,if_pos h0]
  refine Gc ?_
  refine Gs ?_
  refine Gc ?_
  refine au (.inl rfl) (aQ rfl (aq rfl)) (fun w1 hw=> ?_)
  exact⟨(c,a,g,q,xy),by rw[hE],by rw[hE],ai.mem hw⟩
 ·
  replace h0:=bz h0
  refine Gc ?_
  iterate 4 refine Gs ?_
  refine Gg ?_
  refine gv rfl rfl rfl (fun hg=>cJ (dI (aG hg rfl) gN) ⟨hk,by omega,CK⟩) ?_
  refine Gg ?_
  refine Gs ?_
  refine Gc ?_
  refine av rfl (fun h1=> ?_) (fun h1=> ?_)
  ·
   replace h1:=bz h1
   have hE:(m8 (⟨⟨cv xc,xa.xs,xg.toNat,xl⟩,xy⟩:WV) n)=({(⟨⟨cv c,a.xs,g.toNat,q⟩,xy⟩:WV)with beyond:=true},0):=by rw[bH,if_neg h0,if_pos h1]
   refine Gc ?_
   iterate 3 refine Gs ?_
   refine eV (cs':=aL (⟨⟨c,a,g,q⟩,true⟩:aP)) rfl rfl (by show 9<10;decide) (by first|rfl|exact Sv.one _) rfl ?_
   refine Gc ?_
   refine Gs ?_
   refine Gc ?_
   refine au (.inl rfl) (aQ rfl (aq rfl)) (fun w1 hw=> ?_)
   exact⟨(c,a,g,q,true),by rw[hE],by rw[hE],ai.mem hw⟩
  ·
   replace h1:=bz h1
   have eD: ¬(n≤(m0 (cv c) a.xs).2∧tA (cv c) q<2):=fun g=>h1.elim (fun h=>h g.1) (fun h=>h g.2)
   refine Gc ?_
   refine Gs ?_
   refine bu rfl aH fun dB mv=> ?_
   obtain⟨k1,k2⟩:=Cc aH
   refine Gs ?_
   refine Gc ?_
   iterate 3 refine Gs ?_
   refine Gc ?_
   refine av rfl (fun h2=> ?_) (fun h2=> ?_)
   ·
    replace h2:=bz h2
    refine Gi ?_
    refine Qy rfl ?_
    iterate 2 refine Gi ?_
    have fk:(eP (⟨⟨cv c,a.xs,g.toNat,q⟩,xy⟩:WV)).2=0:=h2
    have ho:(cv c).ops<(eP (⟨⟨cv c,a.xs,g.toNat,q⟩,xy⟩:WV)).1.v.ag.ops:=k2 fk
    rw[←mv]at ho
    have hle:=qm (show aT (cv dB.1)=true by have:=k1.ok.ag;rw[←mv]at this;exact this)
    change(cv c).ops<(cv dB.1).ops at ho
    exact bI (x:=(r+1,c,a,g,q)) (r,dB.1,dB.2.1,dB.2.2.1,dB.2.2.2) ⟨by rw[bH,if_neg h0,if_neg eD,if_pos fk,←mv],by have:=k1.ok;rw[←mv]at this;exact this,by simp only;omega⟩ (by simp only;omega) (Sub.cons rfl (Sub.cons rfl (Sub.nil _))) (fun w hw=>ai.mem hw)
   ·
    replace h2:=bz h2
    have fk: ¬(eP (⟨⟨cv c,a.xs,g.toNat,q⟩,xy⟩:WV)).2=0:=h2
    refine Gc ?_
    iterate 3 refine Gs ?_
    refine Gc ?_
    refine av rfl (fun h3=> ?_) (fun h3=> ?_)
    ·
     replace h3:=bz h3
     have hE:(m8 (⟨⟨cv xc,xa.xs,xg.toNat,xl⟩,xy⟩:WV) n)=(eP (⟨⟨cv c,a.xs,g.toNat,q⟩,xy⟩:WV)):=by rw[bH,if_neg h0,if_neg eD,if_neg fk,if_pos h3]
     refine Gc ?_
     iterate 2 refine Gs ?_
     refine Gc ?_
     refine au (.inl rfl) (aQ rfl (aq rfl)) (fun w1 hw=> ?_)
     exact⟨(dB.1,dB.2.1,dB.2.2.1,dB.2.2.2,xy),by rw[hE],by rw[hE];exact mv,ai.mem hw⟩
    ·
     replace h3:=bz h3
     have nR: ¬(eP (⟨⟨cv c,a.xs,g.toNat,q⟩,xy⟩:WV)).2≠6:=fun h=>h h3
     refine Gc ?_
     iterate 4 refine Gs ?_
     refine Gc ?_
     refine av rfl (fun h4=> ?_) (fun h4=> ?_)
     ·
      replace h4:=bz h4
      have hE:(m8 (⟨⟨cv xc,xa.xs,xg.toNat,xl⟩,xy⟩:WV) n)=({(eP (⟨⟨cv c,a.xs,g.toNat,q⟩,xy⟩:WV)).1 with beyond:=true},0):=by rw[bH,if_neg h0,if_neg eD,if_neg fk,if_neg nR,if_pos h4]
      refine Gc ?_
      iterate 3 refine Gs ?_
      refine eV (cs':=aL (⟨⟨dB.1,dB.2.1,dB.2.2.1,dB.2.2.2⟩,true⟩:aP)) rfl rfl (by show 9<10;decide) (by first|rfl|exact Sv.one _) rfl ?_
      refine Gc ?_
      refine Gs ?_
      refine Gc ?_
      refine au (.inl rfl) (aQ rfl (aq rfl)) (fun w1 hw=> ?_)
      exact⟨(dB.1,dB.2.1,dB.2.2.1,dB.2.2.2,true),by rw[hE],by rw[hE,←mv],ai.mem hw⟩
     ·
      replace h4:=bz h4
      have hE:(m8 (⟨⟨cv xc,xa.xs,xg.toNat,xl⟩,xy⟩:WV) n)=((eP (⟨⟨cv c,a.xs,g.toNat,q⟩,xy⟩:WV)).1,5):=by rw[bH,if_neg h0,if_neg eD,if_neg fk,if_neg nR,if_neg h4]
      refine Gc ?_
      refine Gs ?_
      refine Gc ?_
      refine au (.inl rfl) (aQ rfl (aq rfl)) (fun w1 hw=> ?_)
      exact⟨(dB.1,dB.2.1,dB.2.2.1,dB.2.2.2,xy),by rw[hE],by rw[hE];exact mv,ai.mem hw⟩
instance aii{w0:World}{L R1 R2 L2:List ak}{i0 i1 i2:Nat}{k:Nat}{xc:Cp}{xa:Sl Int}{xg:UInt64}{xl:Int}{xy:Bool}{n:Int}[q0:Has L k (aL (⟨⟨xc,xa,xg,xl⟩,xy⟩:aP)) 141 i0][d0:dx L i0 R1][q1:At R1 (fz xc) i1][d1:dx R1 i1 R2][q2:At R2 (fz xa) i2][d2:dx R2 i2 L2]:cw Tryz.prog 126 w0 L [.pointer (some ⟨k,0,none⟩), .int .i64 n] (Cp×Sl Int×UInt64×Int×Bool) (fun zz=> .int .i64 ((m8 (⟨⟨cv xc,xa.xs,xg.toNat,xl⟩,xy⟩:WV) n).2)) (fun zz=>ar k (aL (⟨⟨zz.1,zz.2.1,zz.2.2.1,zz.2.2.2.1⟩,zz.2.2.2.2⟩:aP)) 141::fz zz.1::fz zz.2.1::L2) (fun zz=>(⟨⟨cv zz.1,zz.2.1.xs,zz.2.2.1.toNat,zz.2.2.2.1⟩,zz.2.2.2.2⟩:WV)=(m8 (⟨⟨cv xc,xa.xs,xg.toNat,xl⟩,xy⟩:WV) n).1) (cf (⟨⟨cv xc,xa.xs,xg.toNat,xl⟩,xy⟩:WV)):=⟨fun hp w hw=>Xw w0 w L2 k xc xa xg xl xy n (xD q0.h d0.h q1.h d1.h q2.h d2.h hw) hp⟩
open Go.ay Go.Kb
open Go.RowKit
theorem Xx(i:Int)(g:UInt64)(b:Sl UInt8)(w:World):(Instr.build 110 #[(0, .int .i64 1),(1, .int .i64 i),(2, .int .u64 (g.toNat:Int)),(3,b.sv.val)]).run Tryz.prog w= .ok (.agg (cL ⟨1,i,g,b⟩)) w:=by
 obtain⟨⟨e,b,o,l,c,p⟩,xs⟩:=b
 unfold cL
 cases e<;>kernel_rfl
instance (x:It):gq (nv x) 2:=⟨rfl,bp.one x⟩
def CS(k:Nat)(a:Sl Int)(g:UInt64)(T:TypeId):ak:=⟨fun b=>b=k,fun h=> ∃(c:Cp) (l:Int) (y:Bool),h k=Option.some (.cells (aL ⟨⟨c,a,g,l⟩,y⟩) T (0,0)),fun h h' e s=>by obtain⟨c,l,y,hs⟩:=s;exact⟨c,l,y,by rw[e k rfl];exact hs⟩⟩
theorem G1{w0 w:World}{L:List ak}{k:Nat}{a:Sl Int}{g:UInt64}{T:TypeId}{c:Cp}{l:Int}{y:Bool}(h:Mem w0 (ar k (aL ⟨⟨c,a,g,l⟩,y⟩) T::L) w):Mem w0 (CS k a g T::L) w:=by
 have hs:w.heap[k]? =Option.some (.cells (aL ⟨⟨c,a,g,l⟩,y⟩) T (0,0)):=h.block (i:=0) rfl
 refine⟨h.below,fun e he=> ?_,fun e he b hb=> ?_,List.pairwise_cons.2 ⟨fun x hx b hb=>(List.pairwise_cons.1 h.np).1 x hx b hb,(List.pairwise_cons.1 h.np).2⟩⟩
 ·
  rcases List.mem_cons.1 he with rfl|he
  ·
   exact⟨c,l,y,hs⟩
  ·
   exact h.sat e (List.mem_cons_of_mem _ he)
 ·
  rcases List.mem_cons.1 he with rfl|he
  ·
   exact h.jq _ List.mem_cons_self b hb
  ·
   exact h.jq e (List.mem_cons_of_mem _ he) b hb
section
variable {P:Program} {N:cE} {w0:World} {env:Env} {L:List ak} {d:Option Tmp} {ty:TypeId} {ps:String} {af:Array Edge} {gd:Option (Nat×Bool)}
theorem Xy{t:TypeId}{x:Operand}{k i:Nat}{a:Sl Int}{g:UInt64}{T:TypeId}(hx:ev env x=some (.pointer (some ⟨k,6,none⟩)))[ht:gV P t](q:At L (CS k a g T) i):Ry P N w0 env L ⟨d, .load t x,ty,ps,af,gd⟩ a.sv.val:=wc ht hx fun w hw=>by
 obtain⟨c,l,y,hs⟩:=hw.get q.h
 simp[World.cell?,show w.heap[k]? =_ from hs,aL]
theorem Xz{t:TypeId}{x:Operand}{k i:Nat}{a:Sl Int}{g:UInt64}{T:TypeId}(hx:ev env x=some (.pointer (some ⟨k,7,none⟩)))[ht:gV P t](q:At L (CS k a g T) i):Ry P N w0 env L ⟨d, .load t x,ty,ps,af,gd⟩ (.int .u64 g.toNat):=wc ht hx fun w hw=>by
 obtain⟨c,l,y,hs⟩:=hw.get q.h
 simp[World.cell?,show w.heap[k]? =_ from hs,aL]
end
instance:fo Tryz.prog 102 (.agg (nv ⟨0,⟨Sv.none,[]⟩⟩)):=⟨by kernel_rfl⟩
theorem XA(w0 w:World)(L:List ak)(k:Nat)(xc:Cp)(xa:Sl Int)(xg:UInt64)(xl:Int)(xy:Bool)(it:Sl It)[qd:aW w0 L it](hw:Mem w0 (ar k (aL (⟨⟨xc,xa,xg,xl⟩,xy⟩:aP)) 141::fz xc::fz xa::L) w)(bf:cf (⟨⟨cv xc,xa.xs,xg.toNat,xl⟩,xy⟩:WV)∧it.xs.length≤1000000∧ ∀x∈it.xs,0≤x.id∧x.id<xa.xs.length∧x.id<64):Calls Tryz.prog 88 #[.pointer (some ⟨k,0,none⟩),it.sv.val] w fun e w'=> ∃zz:Cp×Sl Int×UInt64×Int×Bool,e= .returned (.int .i64 ((iL (⟨⟨cv xc,xa.xs,xg.toNat,xl⟩,xy⟩:WV) (it.xs.map bt)).2))∧((⟨⟨cv zz.1,zz.2.1.xs,zz.2.2.1.toNat,zz.2.2.2.1⟩,zz.2.2.2.2⟩:WV)=(iL (⟨⟨cv xc,xa.xs,xg.toNat,xl⟩,xy⟩:WV) (it.xs.map bt)).1)∧Mem w0 (ar k (aL (⟨⟨zz.1,zz.2.1,zz.2.2.1,zz.2.2.2.1⟩,zz.2.2.2.2⟩:aP)) 141::fz zz.1::fz zz.2.1::L) w':=by
 obtain⟨gA,nG,xR⟩:=bf
 have XB:cf (⟨⟨cv xc,xa.xs,xg.toNat,xl⟩,false⟩:WV):=gA.by false
 have fC:(it.xs.map bt).length=it.xs.length:=List.length_map _
 refine kv (args:=[_,_]) Tryz.func88 rfl Tryz.ntmps88 rfl hw ?_
 change Cw _ _ _ _ _ [(0, .pointer (some ⟨k,0,none⟩)),(1,it.sv.val)] (ar k (aL (⟨⟨xc,xa,xg,xl⟩,xy⟩:aP)) 141::fz xc::fz xa::L)
 refine Gc ?_
 refine Gs ?_
 refine Gc ?_
 refine Gs ?_
 refine Gc ?_
 iterate 3 refine Gs ?_
 refine Gc ?_
 refine ct (X:=Nat) (fun zz=>[(16, .int .i64 (zz:Nat)),(5, .int .i64 ((((it.xs.map bt).take zz).filter fun x=>decide (0<x.2.length)).length:Nat)),(0, .pointer (some ⟨k,0,none⟩)),(1,it.sv.val),(14,it.sv.val),(15, .int .i64 (it.xs.length:Nat))]) (fun zz=>ar k (aL (⟨⟨xc,xa,xg,xl⟩,xy⟩:aP)) 141::fz xc::fz xa::L) (fun zz=>zz≤it.xs.length) (fun zz=>it.xs.length -zz) 0 (Nat.zero_le _) (Sub.cons rfl (Sub.cons rfl (Sub.cons rfl (Sub.cons rfl (Sub.cons rfl (Sub.cons rfl (Sub.nil _))))))) (fun w hw=>ai.mem hw) ?_
 rintro i bl
 refine Gc ?_
 refine Gs ?_
 refine Gc ?_
 refine av rfl (fun h0=> ?_) (fun h0=> ?_)
 ·
  replace h0:=bz h0
  obtain⟨z,hz⟩:=get_some (xs:=it.xs) (i:=i) (by omega)
  have tP:Mb z it:=⟨List.mem_of_getElem? hz⟩
  have uc:(it.xs.map bt)[i]? =Option.some (bt z):=by rw[List.getElem?_map,hz];rfl
  have eS:=TJ uc
  have MG:(((it.xs.map bt).take i).filter fun x=>decide (0<x.2.length)).length≤i:=Nat.le_trans (List.length_filter_le _ _) (by rw[List.length_take];omega)
  refine Gc ?_
  refine ah (bo rfl rfl i rfl (by omega)) ?_
  refine ah (jb rfl i hz rfl) ?_
  have aij:Mb z it:=⟨List.mem_of_getElem? hz⟩
  refine bM fun b7=> ?_
  refine Gs ?_
  refine Gc ?_
  iterate 4 refine Gs ?_
  refine Gc ?_
  refine av rfl (fun h1=> ?_) (fun h1=> ?_)
  ·
   replace h1:=bz h1
   rw[if_pos (show 0<(bt z).2.length from by simp only[bt];omega)]at eS
   refine Gi ?_
   iterate 3 refine Gs ?_
   refine Gc ?_
   iterate 2 refine Gs ?_
   refine Gi ?_
   exact bI (x:=(i)) (i+1) (by first|omega|(simp only[];omega)) (by first|omega|(simp only[];omega)) (Sub.cons rfl (Sub.cons (look_eq rfl (by rw[eS];rfl)) (Sub.cons rfl (Sub.cons rfl (Sub.cons rfl (Sub.cons rfl (Sub.nil _))))))) (fun w hw=>ai.mem hw)
  ·
   replace h1:=bz h1
   rw[if_neg (show ¬0<(bt z).2.length from by simp only[bt];omega)]at eS
   refine Gc ?_
   iterate 2 refine Gs ?_
   refine Gi ?_
   exact bI (x:=(i)) (i+1) (by first|omega|(simp only[];omega)) (by first|omega|(simp only[];omega)) (Sub.cons rfl (Sub.cons (look_eq rfl (by rw[eS,Nat.add_zero])) (Sub.cons rfl (Sub.cons rfl (Sub.cons rfl (Sub.cons rfl (Sub.nil _))))))) (fun w hw=>ai.mem hw)
 ·
  replace h0:=bz h0
  obtain rfl:i=it.xs.length:=by omega
  refine Gc ?_
  iterate 3 refine Gs ?_
  refine eV (cs':=aL (⟨⟨xc,xa,xg,xl⟩,false⟩:aP)) rfl rfl (by show 9<10;decide) (by first|rfl|exact Sv.one _) rfl ?_
  iterate 4 refine Gi ?_
  have G2:(((it.xs.map bt).take it.xs.length).filter fun x=>decide (0<x.2.length)).length=((it.xs.map bt).filter fun x=>decide (0<x.2.length)).length:=by rw[←fC,List.take_length]
  refine Gi ?_
  iterate 2 refine Gs ?_
  refine bu rfl XB fun az sI=> ?_
  have hb:=Cd (l:=(it.xs.map bt)) gA
  have zZ:(⟨(⟨cv az.1,az.2.1.xs,az.2.2.1.toNat,az.2.2.2.1⟩:VV),az.2.2.2.2⟩:WV)=(dD (⟨⟨cv xc,xa.xs,xg.toNat,xl⟩,xy⟩:WV) (it.xs.map bt)).1:=by rw[sI,dD,sf,←fC,List.take_length]
  rw[←zZ]at hb
  have vM:=hb.ok
  have XC:aT (cv az.1)=true:=vM.ag
  have xO:4≤(cv az.1).blocks.length:=vM.oD
  have fG:az.2.1.xs.length≤64:=vM.nL
  have aik:az.2.1.xs.length=xa.xs.length:=hb.xe
  have XD:az.2.2.1.toNat<281474976710656:=vM.gen
  have rC:=GR XD
  refine Gs ?_
  refine Gc ?_
  iterate 2 refine Gs ?_
  refine Gc ?_
  refine av rfl (fun h2=> ?_) (fun h2=> ?_)
  ·
   replace h2:=bz h2
   have fk:(dD (⟨⟨cv xc,xa.xs,xg.toNat,xl⟩,xy⟩:WV) (it.xs.map bt)).2≠0:=by rw[dD,sf,←G2];exact h2
   have hE:(iL (⟨⟨cv xc,xa.xs,xg.toNat,xl⟩,xy⟩:WV) (it.xs.map bt))=(dD (⟨⟨cv xc,xa.xs,xg.toNat,xl⟩,xy⟩:WV) (it.xs.map bt)):=by rw[iL,if_pos fk]
   refine Gc ?_
   iterate 2 refine Gs ?_
   refine Gc ?_
   refine au (.inl rfl) (aQ rfl (aq rfl)) (fun w1 hw=> ?_)
   exact⟨(az.1,az.2.1,az.2.2.1,az.2.2.2.1,az.2.2.2.2),by rw[hE,dD,sf,←G2],by rw[hE];exact zZ,ai.mem hw⟩
  ·
   replace h2:=bz h2
   have fk: ¬(dD (⟨⟨cv xc,xa.xs,xg.toNat,xl⟩,xy⟩:WV) (it.xs.map bt)).2≠0:=by rw[dD,sf,←G2];exact fun h=>h h2
   refine Gc ?_
   iterate 4 refine Gs ?_
   refine ah (Ry.to (v':=az.2.1.sv.val) (bJ rfl) rfl) ?_
   refine bu rfl (by omega) fun kH Wu=> ?_
   refine Gs ?_
   refine Gc ?_
   iterate 3 refine Gs ?_
   refine Gc ?_
   refine ct (X:=Nat×Cp×List Int) (fun zz=>[(44, .int .i64 (zz.1:Nat)),(0, .pointer (some ⟨k,0,none⟩)),(9,kH.val),(42,it.sv.val),(43, .int .i64 (it.xs.length:Nat))]) (fun zz=>ar k (aL (⟨⟨zz.2.1,az.2.1,az.2.2.1,az.2.2.2.1⟩,az.2.2.2.2⟩:aP)) 141::fz zz.2.1::fz az.2.1::own bP 1 kH zz.2.2::L) (fun zz=>zz.1≤it.xs.length∧(iK (⟨⟨cv xc,xa.xs,xg.toNat,xl⟩,xy⟩:WV) (it.xs.map bt))=(g9 (⟨cv az.1,az.2.1.xs,az.2.2.1.toNat,az.2.2.2.1⟩:VV) az.2.2.2.2 ((it.xs.map bt).drop zz.1) (cv zz.2.1) zz.2.2)∧aT (cv zz.2.1)=true∧dL (cv az.1) (cv zz.2.1)∧ig (cv zz.2.1) zz.2.2∧zz.2.2.length=az.2.1.xs.length) (fun zz=>it.xs.length -zz.1) (0,az.1,az.2.1.xs) ⟨Nat.zero_le _,by rw[iK,←zZ];rfl,XC, .bY _,vM.re,rfl⟩ (Sub.cons rfl (Sub.cons rfl (Sub.cons rfl (Sub.cons rfl (Sub.cons rfl (Sub.nil _)))))) (fun w hw=>ai.mem hw) ?_
   rintro⟨j,d,zs⟩ ⟨iV,dO,iX,lz,xS,G3⟩
   dsimp only
   simp only at iV dO iX lz xS G3
   refine Gc ?_
   refine Gs ?_
   refine Gc ?_
   refine av rfl (fun h3=> ?_) (fun h3=> ?_)
   ·
    replace h3:=bz h3
    obtain⟨z,hz⟩:=get_some (xs:=it.xs) (i:=j) (by omega)
    have tP:Mb z it:=⟨List.mem_of_getElem? hz⟩
    have ail:=xR z (List.mem_of_getElem? hz)
    obtain⟨zi,tO⟩:=get_some (xs:=zs) (i:=z.id.toNat) (by omega)
    have uc:(it.xs.map bt)[j]? =Option.some (bt z):=by rw[List.getElem?_map,hz];rfl
    have bH:(g9 (⟨cv az.1,az.2.1.xs,az.2.2.1.toNat,az.2.2.2.1⟩:VV) az.2.2.2.2 ((it.xs.map bt).drop j) (cv d) zs)=(if(bt z).2.length=0 then(g9 (⟨cv az.1,az.2.1.xs,az.2.2.1.toNat,az.2.2.2.1⟩:VV) az.2.2.2.2 ((it.xs.map bt).drop (j+1)) (cv d) (zs.set z.id.toNat 0))else if(da (cv d) (az.2.1.xs++zs) az.2.2.2.2 (gZ (⟨cv az.1,az.2.1.xs,az.2.2.1.toNat,az.2.2.2.1⟩:VV) (bt z))).2.2≠0 then((da (cv d) (az.2.1.xs++zs) az.2.2.2.2 (gZ (⟨cv az.1,az.2.1.xs,az.2.2.1.toNat,az.2.2.2.1⟩:VV) (bt z))).1,zs,(da (cv d) (az.2.1.xs++zs) az.2.2.2.2 (gZ (⟨cv az.1,az.2.1.xs,az.2.2.1.toNat,az.2.2.2.1⟩:VV) (bt z))).2.2)else(g9 (⟨cv az.1,az.2.1.xs,az.2.2.1.toNat,az.2.2.2.1⟩:VV) az.2.2.2.2 ((it.xs.map bt).drop (j+1)) (da (cv d) (az.2.1.xs++zs) az.2.2.2.2 (gZ (⟨cv az.1,az.2.1.xs,az.2.2.1.toNat,az.2.2.2.1⟩:VV) (bt z))).1 (zs.set z.id.toNat (da (cv d) (az.2.1.xs++zs) az.2.2.2.2 (gZ (⟨cv az.1,az.2.1.xs,az.2.2.1.toNat,az.2.2.2.1⟩:VV) (bt z))).2.1))):=by
     rw[w6 uc,g9];rfl
    have eG:(aw [az.2.1,(⟨kH,zs⟩:Sl Int)])=az.2.1.xs++zs:=GL _ _
    have XE:cF (⟨1,z.id,az.2.2.1+1,z.body⟩:ez)=gZ (⟨cv az.1,az.2.1.xs,az.2.2.1.toNat,az.2.2.2.1⟩:VV) (bt z):=by simp only[cF,gZ,bt,rC]
    have vN:(da (cv d) (aw [az.2.1,(⟨kH,zs⟩:Sl Int)]) az.2.2.2.2 (cF (⟨1,z.id,az.2.2.1+1,z.body⟩:ez)))=(da (cv d) (az.2.1.xs++zs) az.2.2.2.2 (gZ (⟨cv az.1,az.2.1.xs,az.2.2.1.toNat,az.2.2.2.1⟩:VV) (bt z))):=by rw[eG,XE]
    have XF:ig (cv d) (aw [az.2.1,(⟨kH,zs⟩:Sl Int)]):=by rw[eG];exact((show ig (cv az.1) az.2.1.xs from vM.re).cx lz).append xS
    have XG:(aw [az.2.1,(⟨kH,zs⟩:Sl Int)]).length≤1000:=by rw[eG,List.length_append];omega
    refine Gc ?_
    refine ah (bo rfl rfl j rfl (by omega)) ?_
    refine ah (jb rfl j hz rfl) ?_
    have aim:Mb z it:=⟨List.mem_of_getElem? hz⟩
    refine bM fun pE=> ?_
    refine Gs ?_
    refine Gc ?_
    iterate 4 refine Gs ?_
    refine Gc ?_
    refine av rfl (fun h4=> ?_) (fun h4=> ?_)
    ·
     replace h4:=bz h4
     have jm:(bt z).2.length=0:=by simp only[bt];omega
     refine Gc ?_
     iterate 3 refine Gs ?_
     refine ah (bo rfl rfl z.id.toNat (by omega) (by omega)) ?_
     refine kP (s:=kH) (n:=1) (k:=z.id.toNat) (j:=0) (a:=zi) (a':=0) (xs:=zs) (enc:=bP) (c:=1) (v:= .int .i64 0) (by kernel_rfl) rfl rfl rfl tO (by simp[Value.cells,Value.oneCell']) rfl (by decide) (by rfl) ?_
     refine Gc ?_
     iterate 2 refine Gs ?_
     refine Gi ?_
     exact bI (x:=(j,d,zs)) (j+1,d,zs.set z.id.toNat 0) ⟨by simp only;omega,by rw[dO,bH,if_pos jm],iX,lz,fun y hy=>(List.mem_or_eq_of_mem_set hy).elim (xS y) fun hy=> .inl hy,by rw[List.length_set];exact G3⟩ (by simp only;omega) (Sub.cons rfl (Sub.cons rfl (Sub.cons rfl (Sub.cons rfl (Sub.cons rfl (Sub.nil _)))))) (fun w hw=>ai.mem hw)
    ·
     replace h4:=bz h4
     have jm: ¬(bt z).2.length=0:=by simp only[bt];omega
     refine Gc ?_
     refine jd [18,19] [[],[],[],[],[],[],[],[],[],[],[],[],[],[],[],[],[],[],[],[18],[18,19],[18,19],[18,19],[18,19],[18,19]] [0,1,2,3,4,5,6,7,8,9,10,11,12,13,14,15,16,17,18,19,20,21,22,23,24] [CS k az.2.1 az.2.2.1 141,ar pE (nv z) 102] (fun _ hw=>(G1 (ai.mem hw:Mem w0 [ar k (aL (⟨⟨d,az.2.1,az.2.2.1,az.2.2.2.1⟩,az.2.2.2.2⟩:aP)) 141,ar pE (nv z) 102] _))) (by kernel_rfl) (by kernel_rfl) ?_
     refine al rfl (aE rfl) ?_
     refine al rfl (aI (o':=0) rfl rfl) ?_
     refine al rfl (bJ rfl) ?_
     refine al rfl (aE rfl) ?_
     refine al rfl (jO rfl) ?_
     refine al rfl (aI (o':=0) rfl rfl) ?_
     refine al rfl (aI (o':=7) rfl rfl) ?_
     refine al rfl (Xz (a:=az.2.1) (g:=az.2.2.1) (T:=141) rfl inferInstance) ?_
     refine al rfl (Ry.to (v':= .int .u64 ((az.2.2.1+1).toNat:Int)) (yB (p:=az.2.2.1.toNat) (q:=1) rfl rfl rfl rfl (by simp only[nb];omega)) (by rw[rC])) ?_
     refine al rfl (aI (o':=1) rfl rfl) ?_
     refine al rfl (bJ rfl) ?_
     refine al rfl (cW (v:= .agg (cL (⟨1,z.id,az.2.2.1+1,z.body⟩:ez))) rfl (Xx z.id (az.2.2.1+1) z.body)) ?_
     refine al rfl (aE rfl) ?_
     refine al rfl (jO rfl) ?_
     refine al rfl (aI (o':=0) rfl rfl) ?_
     refine al rfl (aI (o':=6) rfl rfl) ?_
     refine al rfl (Xy (a:=az.2.1) (g:=az.2.2.1) (T:=141) rfl inferInstance) ?_
     refine al rfl (aE rfl) ?_
     refine dC rfl (JO (enc:=cd) (vals:=[az.2.1.sv.val,kH.val]) [az.2.1,(⟨kH,zs⟩:Sl Int)] rfl (by simp only[List.map_cons,List.map_nil,Sv.jc];rfl) rfl (by decide) (by decide) fun XH=>⟨fun _ hw=>(G1 (ai.mem hw:Mem w0 [ar k (aL (⟨⟨d,az.2.1,az.2.2.1,az.2.2.2.1⟩,az.2.2.2.2⟩:aP)) 141,ar pE (nv z) 102] _)),?_⟩)
     refine dC rfl (nA (hc:=W7 (q:=(⟨1,z.id,az.2.2.1+1,z.body⟩:ez)) (l:=(⟨⟨false,XH,0,2,2,none⟩,[az.2.1,(⟨kH,zs⟩:Sl Int)]⟩:Sl (Sl Int)))) rfl ⟨iX,by rw[lz.len];omega,XF,XG⟩ fun G4 G5=>⟨fun _ hw=>(G1 (ai.mem hw:Mem w0 [ar k (aL (⟨⟨G4,az.2.1,az.2.2.1,az.2.2.2.1⟩,az.2.2.2.2⟩:aP)) 141,ar pE (nv z) 102] _)),?_⟩)
     refine al rfl (aE rfl) ?_
     refine al rfl (aU (v:= .int .i64 ((da (cv d) (aw [az.2.1,(⟨kH,zs⟩:Sl Int)]) az.2.2.2.2 (cF (⟨1,z.id,az.2.2.1+1,z.body⟩:ez))).2.1)) rfl rfl) ?_
     refine al rfl (aU (v:= .int .i64 ((da (cv d) (aw [az.2.1,(⟨kH,zs⟩:Sl Int)]) az.2.2.2.2 (cF (⟨1,z.id,az.2.2.1+1,z.body⟩:ez))).2.2)) rfl rfl) ?_
     refine al rfl (bn rfl) ?_
     refine al rfl (bn rfl) ?_
     refine Gc ?_
     iterate 2 refine Gs ?_
     refine Gc ?_
     refine av rfl (fun h5=> ?_) (fun h5=> ?_)
     ·
      replace h5:=bz h5
      have ni:(da (cv d) (az.2.1.xs++zs) az.2.2.2.2 (gZ (⟨cv az.1,az.2.1.xs,az.2.2.1.toNat,az.2.2.2.1⟩:VV) (bt z))).2.2≠0:=by rw[←vN];exact h5
      have sJ:(iK (⟨⟨cv xc,xa.xs,xg.toNat,xl⟩,xy⟩:WV) (it.xs.map bt))=((da (cv d) (az.2.1.xs++zs) az.2.2.2.2 (gZ (⟨cv az.1,az.2.1.xs,az.2.2.1.toNat,az.2.2.2.1⟩:VV) (bt z))).1,zs,(da (cv d) (az.2.1.xs++zs) az.2.2.2.2 (gZ (⟨cv az.1,az.2.1.xs,az.2.2.1.toNat,az.2.2.2.1⟩:VV) (bt z))).2.2):=by rw[dO,bH,if_neg jm,if_pos ni]
      have hE:(iL (⟨⟨cv xc,xa.xs,xg.toNat,xl⟩,xy⟩:WV) (it.xs.map bt))=((⟨(⟨cv az.1,az.2.1.xs,az.2.2.1.toNat,az.2.2.2.1⟩:VV),az.2.2.2.2⟩:WV).on (da (cv d) (az.2.1.xs++zs) az.2.2.2.2 (gZ (⟨cv az.1,az.2.1.xs,az.2.2.1.toNat,az.2.2.2.1⟩:VV) (bt z))).1,(da (cv d) (az.2.1.xs++zs) az.2.2.2.2 (gZ (⟨cv az.1,az.2.1.xs,az.2.2.1.toNat,az.2.2.2.1⟩:VV) (bt z))).2.2):=by rw[iL,if_neg fk,sJ,←zZ];exact if_pos ni
      refine Gc ?_
      iterate 2 refine Gs ?_
      refine Gc ?_
      refine au (.inl rfl) (aQ rfl (aq rfl)) (fun w1 hw=> ?_)
      exact⟨(G4,az.2.1,az.2.2.1,az.2.2.2.1,az.2.2.2.2),by rw[hE,vN],by rw[hE,G5,vN];rfl,ai.mem hw⟩
     ·
      replace h5:=bz h5
      have ni:(da (cv d) (az.2.1.xs++zs) az.2.2.2.2 (gZ (⟨cv az.1,az.2.1.xs,az.2.2.1.toNat,az.2.2.2.1⟩:VV) (bt z))).2.2=0:=by rw[←vN];exact h5
      obtain⟨p1,p2,p3,p4⟩:=Li (fl:=az.2.1.xs++zs) (aC:=az.2.2.2.2) (p:=gZ (⟨cv az.1,az.2.1.xs,az.2.2.1.toNat,az.2.2.2.1⟩:VV) (bt z)) iX (by rw[lz.len];omega)
      have p5:=p4 ni
      rw[←vN,←G5]at p1 p2
      refine Gc ?_
      iterate 4 refine Gs ?_
      refine ah (bo rfl rfl z.id.toNat (by omega) (by omega)) ?_
      refine kP (s:=kH) (n:=1) (k:=z.id.toNat) (j:=0) (a:=zi) (a':=(da (cv d) (aw [az.2.1,(⟨kH,zs⟩:Sl Int)]) az.2.2.2.2 (cF (⟨1,z.id,az.2.2.1+1,z.body⟩:ez))).2.1) (xs:=zs) (enc:=bP) (c:=1) (v:= .int .i64 (da (cv d) (aw [az.2.1,(⟨kH,zs⟩:Sl Int)]) az.2.2.2.2 (cF (⟨1,z.id,az.2.2.1+1,z.body⟩:ez))).2.1) (by kernel_rfl) rfl rfl rfl tO (by simp[Value.cells,Value.oneCell']) rfl (by decide) (by rfl) ?_
      refine Gc ?_
      iterate 2 refine Gs ?_
      refine Gi ?_
      exact bI (x:=(j,d,zs)) (j+1,G4,zs.set z.id.toNat (da (cv d) (aw [az.2.1,(⟨kH,zs⟩:Sl Int)]) az.2.2.2.2 (cF (⟨1,z.id,az.2.2.1+1,z.body⟩:ez))).2.1) ⟨by simp only;omega,by rw[dO,bH,if_neg jm,if_neg (fun h=>h ni),G5,vN],p1,lz.trans p2,fun y hy=>by
                 rw[p2.ae,p2.len]
                 exact(List.mem_or_eq_of_mem_set hy).elim (xS y) fun hy=>hy▸ .inr (by rw[vN];exact p5),by rw[List.length_set];exact G3⟩ (by simp only;omega) (Sub.cons rfl (Sub.cons rfl (Sub.cons rfl (Sub.cons rfl (Sub.cons rfl (Sub.nil _)))))) (fun w hw=>ai.mem hw)
   ·
    replace h3:=bz h3
    obtain rfl:j=it.xs.length:=by omega
    have sJ:(iK (⟨⟨cv xc,xa.xs,xg.toNat,xl⟩,xy⟩:WV) (it.xs.map bt))=(cv d,zs,0):=by rw[dO,←fC,List.drop_length];rfl
    have hE:(iL (⟨⟨cv xc,xa.xs,xg.toNat,xl⟩,xy⟩:WV) (it.xs.map bt))=et ((⟨(⟨cv az.1,az.2.1.xs,az.2.2.1.toNat,az.2.2.2.1⟩:VV),az.2.2.2.2⟩:WV).on (cv d)) zs:=by rw[iL,if_neg fk,sJ,←zZ];simp only[ne_eq,not_true_eq_false,if_false]
    have GX:cf ((⟨(⟨cv az.1,az.2.1.xs,az.2.2.1.toNat,az.2.2.2.1⟩:VV),az.2.2.2.2⟩:WV).on (cv d)):=vM.on iX lz
    refine Gc ?_
    iterate 2 refine Gs ?_
    refine bu rfl GX fun CT XI=> ?_
    refine Gs ?_
    refine Gc ?_
    refine au (.inl rfl) (aQ rfl (aq rfl)) (fun w1 hw=> ?_)
    exact⟨(CT.1,CT.2.1,CT.2.2.1,CT.2.2.2,az.2.2.2.2),by rw[hE];rfl,by rw[hE];exact XI,ai.mem hw⟩
instance ain{w0:World}{L R1 R2 L2:List ak}{i0 i1 i2:Nat}{k:Nat}{xc:Cp}{xa:Sl Int}{xg:UInt64}{xl:Int}{xy:Bool}{it:Sl It}[q0:Has L k (aL (⟨⟨xc,xa,xg,xl⟩,xy⟩:aP)) 141 i0][d0:dx L i0 R1][q1:At R1 (fz xc) i1][d1:dx R1 i1 R2][q2:At R2 (fz xa) i2][d2:dx R2 i2 L2][qd:aW w0 L2 it]:cw Tryz.prog 88 w0 L [.pointer (some ⟨k,0,none⟩),it.sv.val] (Cp×Sl Int×UInt64×Int×Bool) (fun zz=> .int .i64 ((iL (⟨⟨cv xc,xa.xs,xg.toNat,xl⟩,xy⟩:WV) (it.xs.map bt)).2)) (fun zz=>ar k (aL (⟨⟨zz.1,zz.2.1,zz.2.2.1,zz.2.2.2.1⟩,zz.2.2.2.2⟩:aP)) 141::fz zz.1::fz zz.2.1::L2) (fun zz=>(⟨⟨cv zz.1,zz.2.1.xs,zz.2.2.1.toNat,zz.2.2.2.1⟩,zz.2.2.2.2⟩:WV)=(iL (⟨⟨cv xc,xa.xs,xg.toNat,xl⟩,xy⟩:WV) (it.xs.map bt)).1) (cf (⟨⟨cv xc,xa.xs,xg.toNat,xl⟩,xy⟩:WV)∧it.xs.length≤1000000∧ ∀x∈it.xs,0≤x.id∧x.id<xa.xs.length∧x.id<64):=⟨fun hp w hw=>XA w0 w L2 k xc xa xg xl xy it (xD q0.h d0.h q1.h d1.h q2.h d2.h hw) hp⟩
open Go.ay Go.Kb
open Go.RowKit
theorem XJ(w0 w:World)(L:List ak)(k:Nat)(xc:Cp)(xa:Sl Int)(xg:UInt64)(xl:Int)(xy:Bool)(n:Int)(hw:Mem w0 (ar k (aL (⟨⟨xc,xa,xg,xl⟩,xy⟩:aP)) 141::fz xc::fz xa::L) w)(bf:cf (⟨⟨cv xc,xa.xs,xg.toNat,xl⟩,xy⟩:WV)∧0≤n∧n≤64):Calls Tryz.prog 85 #[.pointer (some ⟨k,0,none⟩), .int .i64 n] w fun e w'=> ∃zz:Cp×Sl Int×UInt64×Int,e= .returned (.int .i64 ((oE (⟨⟨cv xc,xa.xs,xg.toNat,xl⟩,xy⟩:WV) n.toNat).2))∧((⟨⟨cv zz.1,zz.2.1.xs,zz.2.2.1.toNat,zz.2.2.2⟩,xy⟩:WV)=(oE (⟨⟨cv xc,xa.xs,xg.toNat,xl⟩,xy⟩:WV) n.toNat).1)∧Mem w0 (ar k (aL (⟨⟨zz.1,zz.2.1,zz.2.2.1,zz.2.2.2⟩,xy⟩:aP)) 141::fz zz.1::fz zz.2.1::L) w':=by
 obtain⟨gA,tX,xB⟩:=bf
 have hk:aT (cv xc)=true:=gA.ag
 have xO:4≤(cv xc).blocks.length:=gA.oD
 have hd:=eH hk
 have dF:(cv xc).blocks.length=xc.blocks.xs.length:=gD _
 refine kv (args:=[_,_]) Tryz.func85 rfl Tryz.ntmps85 rfl hw ?_
 change Cw _ _ _ _ _ [(0, .pointer (some ⟨k,0,none⟩)),(1, .int .i64 n)] (ar k (aL (⟨⟨xc,xa,xg,xl⟩,xy⟩:aP)) 141::fz xc::fz xa::L)
 refine Gc ?_
 refine Gs ?_
 refine Gc ?_
 iterate 5 refine Gs ?_
 refine ah (Ry.to (v':=xc.blocks.sv.val) (bJ rfl) rfl) ?_
 iterate 2 refine Gs ?_
 refine Gc ?_
 refine ct (X:=Nat×Cp) (fun zz=>[(18, .int .i64 (zz.1:Nat)),(0, .pointer (some ⟨k,0,none⟩)),(1, .int .i64 n),(17, .int .i64 (xc.blocks.xs.length:Nat))]) (fun zz=>ar k (aL (⟨⟨zz.2,xa,xg,xl⟩,xy⟩:aP)) 141::fz zz.2::fz xa::L) (fun zz=>zz.1≤(cv xc).blocks.length∧(kh (cv xc).blocks.length 0 (cv xc))=kh ((cv xc).blocks.length -zz.1) (zz.1:Int) (cv zz.2)∧aT (cv zz.2)=true∧dL (cv xc) (cv zz.2)) (fun zz=>(cv xc).blocks.length -zz.1) (0,xc) ⟨Nat.zero_le _,rfl,hk, .bY _⟩ (Sub.cons rfl (Sub.cons rfl (Sub.cons rfl (Sub.cons rfl (Sub.nil _))))) (fun w hw=>ai.mem hw) ?_
 rintro⟨i,d⟩ ⟨bl,aH,bB,c6⟩
 dsimp only
 simp only at bl aH bB c6
 have CM:=c6.len
 have hG:(⟨i,d⟩:Nat×Cp)=(i,d):=rfl
 refine Gc ?_
 refine Gs ?_
 refine Gc ?_
 refine av rfl (fun h0=> ?_) (fun h0=> ?_)
 ·
  replace h0:=bz h0
  have bH:kh ((cv xc).blocks.length -i) (i:Int) (cv d)=(if se (cv d) i=false then kh ((cv xc).blocks.length -(i+1)) ((i:Int)+1) (cv d)else if dS (cv d) i≠0∧dS (cv d) i≠9 then(dh (cv d) i,dS (cv d) i)else kh ((cv xc).blocks.length -(i+1)) ((i:Int)+1) (dh (cv d) i)):=by
   rw[show(cv xc).blocks.length -i=((cv xc).blocks.length -(i+1))+1 by omega,kh]
  refine Gc ?_
  iterate 2 refine Gs ?_
  refine Gc ?_
  iterate 2 refine Gs ?_
  refine fF (cJ rfl ⟨bB,by omega,by omega⟩) ?_
  refine Gs ?_
  refine Gc ?_
  refine av rfl (fun h1=> ?_) (fun h1=> ?_)
  ·
   replace h1:=bz h1
   refine Gc ?_
   iterate 2 refine Gs ?_
   refine Gi ?_
   exact bI (x:=(i,d)) (i+1,d) ⟨by simp only;omega,by rw[aH,bH,if_pos h1];rfl,bB,c6⟩ (by simp only;omega) (Sub.cons rfl (Sub.cons rfl (Sub.cons rfl (Sub.cons rfl (Sub.nil _))))) (fun w hw=>ai.mem hw)
  ·
   replace h1:=bz h1
   have eD: ¬se (cv d) i=false:=by rw[h1];simp
   refine Gc ?_
   iterate 2 refine Gs ?_
   refine bu rfl ⟨bB,by omega,by omega⟩ fun pF rA=> ?_
   refine Gs ?_
   refine Gc ?_
   iterate 3 refine Gs ?_
   iterate 2 refine Gg ?_
   refine Gs ?_
   refine Gc ?_
   refine av rfl (fun h2=> ?_) (fun h2=> ?_)
   ·
    replace h2:=bz h2
    have hE:(oE (⟨⟨cv xc,xa.xs,xg.toNat,xl⟩,xy⟩:WV) n.toNat)=((⟨⟨cv xc,xa.xs,xg.toNat,xl⟩,xy⟩:WV).on (dh (cv d) i),dS (cv d) i):=by
     have hz:(kh (cv xc).blocks.length 0 (cv xc))=(dh (cv d) i,dS (cv d) i):=by rw[aH,bH,if_neg eD,if_pos h2]
     rw[oE,if_pos (show(kh (cv xc).blocks.length 0 (cv xc)).2≠0 by rw[hz];exact h2.1),hz]
    refine Gc ?_
    iterate 2 refine Gs ?_
    refine Gc ?_
    refine au (.inl rfl) (aQ rfl (aq rfl)) (fun w1 hw=> ?_)
    exact⟨(pF,xa,xg,xl),by rw[hE],by rw[hE,rA];rfl,ai.mem hw⟩
   ·
    replace h2:=bz h2
    have fk:dS (cv d) i≠0→dS (cv d) i≠9→False:=fun ga gb=>by omega
    refine Gc ?_
    iterate 2 refine Gs ?_
    refine Gi ?_
    exact bI (x:=(i,d)) (i+1,pF) ⟨by simp only;omega,by rw[aH,bH,if_neg eD,if_neg (fun h=>fk h.1 h.2),rA];rfl,by rw[rA];exact BZ bB _,by rw[rA];exact c6.trans (vg _ _)⟩ (by simp only;omega) (Sub.cons rfl (Sub.cons rfl (Sub.cons rfl (Sub.cons rfl (Sub.nil _))))) (fun w hw=>ai.mem hw)
 ·
  replace h0:=bz h0
  obtain rfl:i=(cv xc).blocks.length:=by omega
  have hz:(kh (cv xc).blocks.length 0 (cv xc))=(cv d,0):=by rw[aH,Nat.sub_self];rfl
  refine Gc ?_
  refine Gs ?_
  refine Gc ?_
  refine ct (X:=Nat×Cp) (fun zz=>[(36, .int .i64 (zz.1:Nat)),(0, .pointer (some ⟨k,0,none⟩)),(1, .int .i64 n)]) (fun zz=>ar k (aL (⟨⟨zz.2,xa,xg,xl⟩,xy⟩:aP)) 141::fz zz.2::fz xa::L) (fun zz=>zz.1≤2∧(oE (⟨⟨cv xc,xa.xs,xg.toNat,xl⟩,xy⟩:WV) n.toNat)=nM (2 -zz.1) (zz.1:Int) ((⟨⟨cv xc,xa.xs,xg.toNat,xl⟩,xy⟩:WV).on (cv zz.2)) n.toNat∧aT (cv zz.2)=true∧dL (cv xc) (cv zz.2)) (fun zz=>2 -zz.1) (0,d) ⟨Nat.zero_le _,by rw[oE,if_neg (show ¬(kh (cv xc).blocks.length 0 (cv xc)).2≠0 by rw[hz];simp),show(kh (cv xc).blocks.length 0 (cv xc)).1=cv d by rw[hz]];rfl,bB,c6⟩ (Sub.cons rfl (Sub.cons rfl (Sub.cons rfl (Sub.nil _)))) (fun w hw=>ai.mem hw) ?_
  rintro⟨j,e⟩ ⟨iV,dO,iX,lz⟩
  dsimp only
  simp only at iV dO iX lz
  have CM:=lz.len
  have zH:=Fz (aj (cv e) (1 -(j:Int))).ae
  change gn (cv e) (1 -(j:Int))<_ at zH
  have eG:fy (cv e) j<281474976710656+2∨ ¬j<2:=by
   by_cases XK:j<2
   ·
    left;rw[fy];omega
   ·
    exact .inr XK
  refine Gc ?_
  refine Gs ?_
  refine Gc ?_
  refine av rfl (fun h3=> ?_) (fun h3=> ?_)
  ·
   replace h3:=bz h3
   have aio:fy (cv e) j<281474976710656+2:=eG.resolve_right (fun h=>h (by omega))
   have G6:(UInt64.ofNat (fy (cv e) j)).toNat=fy (cv e) j:=by rw[UInt64.toNat_ofNat'];omega
   refine Gc ?_
   iterate 2 refine Gs ?_
   refine Gc ?_
   refine pf [4,6,7,2004,2006] [[],[],[],[],[],[4],[],[4,6]] [0,1,2,3,4,5,6,7] [ar k (aL (⟨⟨e,xa,xg,xl⟩,xy⟩:aP)) 141,fz e] [(4,qZ bP 1 n.toNat (List.replicate n.toNat 0)),(6,j9 Tryz.prog 147)] (by kernel_rfl) (fun _ hw=>ai.mem hw) (by kernel_rfl) (by kernel_rfl) ?_
   refine al rfl (aE rfl) ?_
   refine al rfl (aE rfl) ?_
   refine u4 rfl (cJ rfl ⟨iX,by omega,by omega⟩) ?_
   refine al rfl (aE rfl) ?_
   refine nB (m:=qZ bP 1 n.toNat (List.replicate n.toNat 0)) rfl rfl (VI (enc:=bP) (c:=1) (n:=n.toNat) 0 rfl rfl rfl (by omega) (by omega) (by omega) (by omega)) (Cert.one (i:=6) rfl rfl rfl jy (Cert.none rfl)) fun jM=> ?_
   change Ln _ _ _ _ _ _ _ _ (cy _ _ (Sv.val ⟨false,jM,0,n.toNat,n.toNat,none⟩)) (own bP 1 ⟨false,jM,0,n.toNat,n.toNat,none⟩ (List.replicate n.toNat 0)::_) _
   refine al rfl (cW (v:= .agg (dE (⟨UInt64.ofNat (fy (cv e) j),⟨⟨false,jM,0,n.toNat,n.toNat,none⟩,(List.replicate n.toNat 0)⟩⟩:df))) rfl (by rw[show(.int .u64 ((fy (cv e) j:Nat):Int):Value)= .int .u64 ((UInt64.ofNat (fy (cv e) j)).toNat:Int) by rw[G6]];exact M0 _ _ _)) ?_
   refine nB (m:=j9 Tryz.prog 147) rfl rfl jy (Cert.none rfl) fun b8=> ?_
   change Ln _ _ _ _ _ _ _ _ (cy _ _ (.pointer (some ⟨b8,0,none⟩))) (ar b8 (dE kS) 147::_) _
   refine dC rfl (mJ rfl rfl ⟨fun _ hw=>ai.mem hw,?_⟩)
   iterate 3 refine Gi ?_
   have xP:dg (⟨UInt64.ofNat (fy (cv e) j),⟨⟨false,jM,0,n.toNat,n.toNat,none⟩,(List.replicate n.toNat 0)⟩⟩:df)=⟨fy (cv e) j,(List.replicate n.toNat 0)⟩:=by simp only[dg,G6]
   have CU:gx (cv e) j n.toNat=(cj (dg (⟨UInt64.ofNat (fy (cv e) j),⟨⟨false,jM,0,n.toNat,n.toNat,none⟩,(List.replicate n.toNat 0)⟩⟩:df)) e.size):=by rw[xP];rfl
   have XL:2 -j=(2 -(j+1))+1:=by omega
   have bH:(nM (2 -j) (j:Int) ((⟨⟨cv xc,xa.xs,xg.toNat,xl⟩,xy⟩:WV).on (cv e)) n.toNat)=(if(gx (cv e) j n.toNat).2≠0∨dV (cv e) j=0 then nM (2 -(j+1)) ((j:Int)+1) ((⟨⟨cv xc,xa.xs,xg.toNat,xl⟩,xy⟩:WV).on (cv e)) n.toNat else if(bm (cv e) j (gx (cv e) j n.toNat).1)=0 then((⟨vn (bj (cv e) j (gx (cv e) j n.toNat).1) j n.toNat (fy (cv e) j),xy⟩:WV),(0:Int))else if(bm (cv e) j (gx (cv e) j n.toNat).1)≠9 then((⟨⟨cv xc,xa.xs,xg.toNat,xl⟩,xy⟩:WV).on (bj (cv e) j (gx (cv e) j n.toNat).1),(bm (cv e) j (gx (cv e) j n.toNat).1))else nM (2 -(j+1)) ((j:Int)+1) ((⟨⟨cv xc,xa.xs,xg.toNat,xl⟩,xy⟩:WV).on (bj (cv e) j (gx (cv e) j n.toNat).1)) n.toNat):=by
    rw[XL,nM]
    rfl
   rw[CU]at bH
   refine jd [7] [[],[],[],[],[],[],[],[],[7],[7],[7],[7],[7]] [0,1,2,3,4,5,6,7,8,9,10,11,12] [ar k (aL (⟨⟨e,xa,xg,xl⟩,xy⟩:aP)) 141,fz e,ar b8 (dE (⟨UInt64.ofNat (fy (cv e) j),⟨⟨false,jM,0,n.toNat,n.toNat,none⟩,(List.replicate n.toNat 0)⟩⟩:df)) 147] (fun _ hw=>ai.mem hw) (by kernel_rfl) (by kernel_rfl) ?_
   refine al rfl (gu rfl) ?_
   refine al rfl (aE rfl) ?_
   refine al rfl (jO rfl) ?_
   refine al rfl (aI (o':=0) rfl rfl) ?_
   refine al rfl (aI (o':=0) rfl rfl) ?_
   refine al rfl (aI (o':=1) rfl rfl) ?_
   refine al rfl (Ry.to (v':= .int .i64 e.size) (bJ rfl) rfl) ?_
   refine dC rfl (nA rfl trivial fun XM aip=>⟨fun _ hw=>ai.mem hw,?_⟩)
   refine al rfl (aE rfl) ?_
   refine al rfl (aU (v:=XM.val) rfl rfl) ?_
   refine al rfl (aU (v:= .int .i64 ((cj (dg (⟨UInt64.ofNat (fy (cv e) j),⟨⟨false,jM,0,n.toNat,n.toNat,none⟩,(List.replicate n.toNat 0)⟩⟩:df)) e.size).2)) rfl rfl) ?_
   refine al rfl (bn rfl) ?_
   refine al rfl (bn rfl) ?_
   refine Gc ?_
   iterate 3 refine Gs ?_
   iterate 2 refine Gg ?_
   refine bS rfl rfl rfl (fun hg=>cJ (dI (aG hg rfl) (dI (aG hg rfl) gN)) ⟨iX,by omega,by omega⟩) ?_
   refine Gg ?_
   refine Gs ?_
   refine Gc ?_
   refine av rfl (fun h4=> ?_) (fun h4=> ?_)
   ·
    replace h4:=bz h4
    have jm:(cj (dg (⟨UInt64.ofNat (fy (cv e) j),⟨⟨false,jM,0,n.toNat,n.toNat,none⟩,(List.replicate n.toNat 0)⟩⟩:df)) e.size).2≠0∨dV (cv e) j=0:=h4
    refine Gc ?_
    iterate 2 refine Gs ?_
    refine Gi ?_
    exact bI (x:=(j,e)) (j+1,e) ⟨by simp only;omega,by rw[dO,bH,if_pos jm];rfl,iX,lz⟩ (by simp only;omega) (Sub.cons rfl (Sub.cons rfl (Sub.cons rfl (Sub.nil _)))) (fun w hw=>ai.mem hw)
   ·
    replace h4:=bz h4
    have jm: ¬((cj (dg (⟨UInt64.ofNat (fy (cv e) j),⟨⟨false,jM,0,n.toNat,n.toNat,none⟩,(List.replicate n.toNat 0)⟩⟩:df)) e.size).2≠0∨dV (cv e) j=0):=fun h=>h.elim (fun g=>g h4.1) h4.2
    refine Gc ?_
    iterate 3 refine Gs ?_
    refine bu rfl ⟨iX,by omega,by omega⟩ fun ud z0=> ?_
    refine Gs ?_
    refine Gc ?_
    iterate 2 refine Gs ?_
    refine Gc ?_
    refine av rfl (fun h5=> ?_) (fun h5=> ?_)
    ·
     replace h5:=bz h5
     have ni:(bm (cv e) j (cj (dg (⟨UInt64.ofNat (fy (cv e) j),⟨⟨false,jM,0,n.toNat,n.toNat,none⟩,(List.replicate n.toNat 0)⟩⟩:df)) e.size).1)=0:=h5
     have hE:(oE (⟨⟨cv xc,xa.xs,xg.toNat,xl⟩,xy⟩:WV) n.toNat)=((⟨vn (bj (cv e) j (cj (dg (⟨UInt64.ofNat (fy (cv e) j),⟨⟨false,jM,0,n.toNat,n.toNat,none⟩,(List.replicate n.toNat 0)⟩⟩:df)) e.size).1) j n.toNat (fy (cv e) j),xy⟩:WV),0):=by rw[dO,bH,if_neg jm,if_pos ni]
     refine Gi ?_
     refine jd [11,15,19,1003,1004,1009,1010,1013,1014,1017,1018] [[],[],[],[],[3],[],[],[],[3,4],[3,4],[3,4,9],[3,4,9,10],[3,4,9,10,11],[3,4,9,10,11],[3,4,9,10,11,13],[3,4,9,10,11,13,14],[3,4,9,10,11,13,14,15],[3,4,9,10,11,13,14,15],[3,4,9,10,11,13,14,15,17],[3,4,9,10,11,13,14,15,17,18]] [0,1,2,3,4,5,6,7,8,9,10,11,12,13,14,15,16,17,18,19] [ar b8 (dE (⟨UInt64.ofNat (fy (cv e) j),⟨⟨false,jM,0,n.toNat,n.toNat,none⟩,(List.replicate n.toNat 0)⟩⟩:df)) 147] (fun _ hw=>ai.mem hw) (by kernel_rfl) (by kernel_rfl) ?_
     refine al rfl (aE rfl) ?_
     refine al rfl (aE rfl) ?_
     refine al rfl (aE rfl) ?_
     refine j8 rfl (aI (o':=1) rfl rfl) ?_
     refine j8 rfl (bJ rfl) ?_
     refine al rfl (aI (o':=0) rfl rfl) ?_
     refine al rfl (bJ rfl) ?_
     refine al rfl (aE rfl) ?_
     refine al rfl (jO rfl) ?_
     refine j8 rfl (aI (o':=0) rfl rfl) ?_
     refine j8 rfl (aI (o':=6) rfl rfl) ?_
     refine dC rfl (wK (cs':=aL (⟨⟨ud,⟨⟨false,jM,0,n.toNat,n.toNat,none⟩,(List.replicate n.toNat 0)⟩,xg,xl⟩,xy⟩:aP)) rfl rfl (by show 6<10;decide) (by first|rfl|exact Sv.one _) rfl ⟨fun _ hw=>ai.mem hw,?_⟩)
     refine al rfl (jO rfl) ?_
     refine j8 rfl (aI (o':=0) rfl rfl) ?_
     refine j8 rfl (aI (o':=7) rfl rfl) ?_
     refine dC rfl (wK (cs':=aL (⟨⟨ud,⟨⟨false,jM,0,n.toNat,n.toNat,none⟩,(List.replicate n.toNat 0)⟩,(UInt64.ofNat (fy (cv e) j)),xl⟩,xy⟩:aP)) rfl rfl (by show 7<10;decide) (by first|rfl|exact Sv.one _) rfl ⟨fun _ hw=>ai.mem hw,?_⟩)
     refine al rfl (jO rfl) ?_
     refine j8 rfl (aI (o':=0) rfl rfl) ?_
     refine j8 rfl (aI (o':=8) rfl rfl) ?_
     refine dC rfl (wK (cs':=aL (⟨⟨ud,⟨⟨false,jM,0,n.toNat,n.toNat,none⟩,(List.replicate n.toNat 0)⟩,(UInt64.ofNat (fy (cv e) j)),((j:Nat):Int)⟩,xy⟩:aP)) rfl rfl (by show 8<10;decide) (by first|rfl|exact Sv.one _) rfl ⟨fun _ hw=>ai.mem hw,?_⟩)
     refine Gc ?_
     refine Gs ?_
     refine Gc ?_
     refine au (.inl rfl) (aQ rfl (aq rfl)) (fun w1 hw=> ?_)
     exact⟨(ud,⟨⟨false,jM,0,n.toNat,n.toNat,none⟩,(List.replicate n.toNat 0)⟩,UInt64.ofNat (fy (cv e) j),(j:Int)),by rw[hE],by rw[hE,z0,vn];simp only[G6],ai.mem (u7 (a:=⟨⟨false,jM,0,n.toNat,n.toNat,none⟩,(List.replicate n.toNat 0)⟩) (ai.mem hw:Mem w0 (own bP 1 ⟨false,jM,0,n.toNat,n.toNat,none⟩ (List.replicate n.toNat 0)::ar k (aL (⟨⟨ud,⟨⟨false,jM,0,n.toNat,n.toNat,none⟩,(List.replicate n.toNat 0)⟩,(UInt64.ofNat (fy (cv e) j)),(j:Int)⟩,xy⟩:aP)) 141::fz ud::L) _))⟩
    ·
     replace h5:=bz h5
     have ni: ¬(bm (cv e) j (cj (dg (⟨UInt64.ofNat (fy (cv e) j),⟨⟨false,jM,0,n.toNat,n.toNat,none⟩,(List.replicate n.toNat 0)⟩⟩:df)) e.size).1)=0:=h5
     refine Gc ?_
     iterate 2 refine Gs ?_
     refine Gc ?_
     refine av rfl (fun h6=> ?_) (fun h6=> ?_)
     ·
      replace h6:=bz h6
      have hE:(oE (⟨⟨cv xc,xa.xs,xg.toNat,xl⟩,xy⟩:WV) n.toNat)=((⟨⟨cv xc,xa.xs,xg.toNat,xl⟩,xy⟩:WV).on (bj (cv e) j (cj (dg (⟨UInt64.ofNat (fy (cv e) j),⟨⟨false,jM,0,n.toNat,n.toNat,none⟩,(List.replicate n.toNat 0)⟩⟩:df)) e.size).1),(bm (cv e) j (cj (dg (⟨UInt64.ofNat (fy (cv e) j),⟨⟨false,jM,0,n.toNat,n.toNat,none⟩,(List.replicate n.toNat 0)⟩⟩:df)) e.size).1)):=by rw[dO,bH,if_neg jm,if_neg ni,if_pos (show(bm (cv e) j (cj (dg (⟨UInt64.ofNat (fy (cv e) j),⟨⟨false,jM,0,n.toNat,n.toNat,none⟩,(List.replicate n.toNat 0)⟩⟩:df)) e.size).1)≠9 from h6)]
      refine Gc ?_
      iterate 2 refine Gs ?_
      refine Gc ?_
      refine au (.inl rfl) (aQ rfl (aq rfl)) (fun w1 hw=> ?_)
      exact⟨(ud,xa,xg,xl),by rw[hE],by rw[hE,z0];rfl,ai.mem hw⟩
     ·
      replace h6:=bz h6
      refine Gc ?_
      iterate 2 refine Gs ?_
      refine Gi ?_
      exact bI (x:=(j,e)) (j+1,ud) ⟨by simp only;omega,by rw[dO,bH,if_neg jm,if_neg ni,if_neg (fun h=>h h6),z0];rfl,by rw[z0];exact iI iX _ _,by rw[z0];exact lz.trans (gm _ _ _)⟩ (by simp only;omega) (Sub.cons rfl (Sub.cons rfl (Sub.cons rfl (Sub.nil _)))) (fun w hw=>ai.mem hw)
  ·
   replace h3:=bz h3
   obtain rfl:j=2:=by omega
   have hE:(oE (⟨⟨cv xc,xa.xs,xg.toNat,xl⟩,xy⟩:WV) n.toNat)=((⟨⟨cv xc,xa.xs,xg.toNat,xl⟩,xy⟩:WV).on (cv e),9):=by rw[dO];rfl
   refine Gc ?_
   refine Gs ?_
   refine Gc ?_
   refine au (.inl rfl) (aQ rfl (aq rfl)) (fun w1 hw=> ?_)
   exact⟨(e,xa,xg,xl),by rw[hE],by rw[hE];rfl,ai.mem hw⟩
instance aiq{w0:World}{L R1 R2 L2:List ak}{i0 i1 i2:Nat}{k:Nat}{xc:Cp}{xa:Sl Int}{xg:UInt64}{xl:Int}{xy:Bool}{n:Int}[q0:Has L k (aL (⟨⟨xc,xa,xg,xl⟩,xy⟩:aP)) 141 i0][d0:dx L i0 R1][q1:At R1 (fz xc) i1][d1:dx R1 i1 R2][q2:At R2 (fz xa) i2][d2:dx R2 i2 L2]:cw Tryz.prog 85 w0 L [.pointer (some ⟨k,0,none⟩), .int .i64 n] (Cp×Sl Int×UInt64×Int) (fun zz=> .int .i64 ((oE (⟨⟨cv xc,xa.xs,xg.toNat,xl⟩,xy⟩:WV) n.toNat).2)) (fun zz=>ar k (aL (⟨⟨zz.1,zz.2.1,zz.2.2.1,zz.2.2.2⟩,xy⟩:aP)) 141::fz zz.1::fz zz.2.1::L2) (fun zz=>(⟨⟨cv zz.1,zz.2.1.xs,zz.2.2.1.toNat,zz.2.2.2⟩,xy⟩:WV)=(oE (⟨⟨cv xc,xa.xs,xg.toNat,xl⟩,xy⟩:WV) n.toNat).1) (cf (⟨⟨cv xc,xa.xs,xg.toNat,xl⟩,xy⟩:WV)∧0≤n∧n≤64):=⟨fun hp w hw=>XJ w0 w L2 k xc xa xg xl xy n (xD q0.h d0.h q1.h d1.h q2.h d2.h hw) hp⟩
open Go.ay Go.Kb
open Go.RowKit
theorem XN(w:World)(b:Int)(p:Int):Calls Tryz.prog 42 #[.int .i64 b, .int .i64 p] w fun e w'=>e= .returned (.int .i64 (qq b p))∧Mem w [] w':=by
 refine bh (args:=[_,_]) Tryz.func42 rfl Tryz.ntmps42 rfl ?_
 change Cw _ _ _ _ _ [(0, .int .i64 b),(1, .int .i64 p)] []
 refine Gc ?_
 refine Gs ?_
 refine Gc ?_
 iterate 3 refine Gs ?_
 iterate 2 refine Gg ?_
 iterate 2 refine Gs ?_
 iterate 2 refine Gg ?_
 iterate 2 refine Gs ?_
 iterate 2 refine Gg ?_
 refine Gs ?_
 refine Gc ?_
 refine av rfl (fun h0=> ?_) (fun h0=> ?_)
 ·
  replace h0:=bz h0
  have hE:qq b p=0:=if_pos (by omega)
  refine Gc ?_
  refine Gs ?_
  refine Gc ?_
  refine au (.inl rfl) (aQ rfl (aq rfl)) (fun w1 hw=> ?_)
  exact⟨congrArg (fun b=>Ending.returned (Value.int .i64 b)) (hE.symm),ai.mem hw⟩
 ·
  replace h0:=bz h0
  have hE:qq b p=(b -4)*p:=if_neg (by omega)
  have lP:0≤(b -4)*p:=Int.mul_nonneg (by omega) (by omega)
  have na:(b -4)*p≤28*16:=Int.mul_le_mul (by omega) (by omega) (by omega) (by omega)
  refine Gc ?_
  iterate 3 refine Gs ?_
  refine ah (uC rfl rfl (by omega)) ?_
  refine Gs ?_
  refine Gc ?_
  refine au (.inl rfl) (aQ rfl (aq rfl)) (fun w1 hw=> ?_)
  exact⟨congrArg (fun b=>Ending.returned (Value.int .i64 b)) (hE.symm),ai.mem hw⟩
instance air{w0:World}{L:List ak}{b:Int}{p:Int}:cR Tryz.prog 42 w0 L [.int .i64 b, .int .i64 p] (.int .i64 (qq b p)) (True):=⟨fun hp w hw=>XN w b p⟩
theorem XO(w:World)(v:bU)(it:Sl It)(hv:Deep.aZ (hp w) v)(qd:Deep.aZ (hp w) it):Calls Tryz.prog 86 #[.agg (bN v),it.sv.val] w fun e w'=>e= .returned (.bool (qp (vv v) (it.xs.map bt)))∧Mem w [] w':=by
 have zG:cM w v:=⟨hv⟩
 have XP:cM w it:=⟨qd⟩
 have jQ:=qd.1.bd
 have CW:=hv.2.1.bd
 have fC:(it.xs.map bt).length=it.xs.length:=List.length_map _
 refine bh (args:=[_,_]) Tryz.func86 rfl Tryz.ntmps86 rfl ?_
 change Cw _ _ _ _ _ [(0, .agg (bN v)),(1,it.sv.val)] []
 refine Gc ?_
 refine cA rfl fun b2=> ?_
 refine Gs ?_
 refine Gc ?_
 refine Mr mr oI fun jK=> ?_
 refine Gs ?_
 refine Gc ?_
 iterate 3 refine Gs ?_
 refine Gc ?_
 refine ct (X:=Nat) (fun zz=>[(13, .int .i64 (zz:Nat)),(5, .map (some jK)),(2, .pointer (some ⟨b2,0,none⟩)),(11,it.sv.val),(12, .int .i64 (it.xs.length:Nat))]) (fun zz=>[omap Tryz.prog 3 mr oI jK (rj ((it.xs.map bt).map Prod.fst) zz),ar b2 (bN v) 29]) (fun zz=>zz≤it.xs.length∧ ∀j,j<zz→ri (vv v) (it.xs.map bt) j=true) (fun zz=>it.xs.length -zz) 0 ⟨Nat.zero_le _,fun j hj=>by first|omega|(simp only[];omega)⟩ (Sub.cons rfl (Sub.cons rfl (Sub.cons rfl (Sub.cons rfl (Sub.cons rfl (Sub.nil _)))))) (fun w hw=>by
  rw[←TK];exact ai.mem hw) ?_
 rintro i ⟨bl,aH⟩
 refine Gc ?_
 refine Gs ?_
 refine Gc ?_
 refine av rfl (fun h0=> ?_) (fun h0=> ?_)
 ·
  replace h0:=bz h0
  obtain⟨z,hz⟩:=get_some (xs:=it.xs) (i:=i) (by omega)
  have tP:Mb z it:=⟨List.mem_of_getElem? hz⟩
  have uc:(it.xs.map bt)[i]? =Option.some (bt z):=by rw[List.getElem?_map,hz];rfl
  have vL:(it.xs.map bt).getD i (0,[])=bt z:=by simp[List.getD,uc]
  have XQ:((it.xs.map bt).map Prod.fst)[i]? =Option.some z.id:=by rw[List.getElem?_map,uc];rfl
  have y0:(ri (vv v) (it.xs.map bt) i)=(rh (vv v) (bt z)&& !(((it.xs.map bt).map Prod.fst).take i).contains z.id):=by rw[ri,vL,List.map_take];rfl
  have jl:(ri (vv v) (it.xs.map bt) i)=false→qp (vv v) (it.xs.map bt)=false:=fun h=>by
   cases ry:qp (vv v) (it.xs.map bt)with
   |false=>rfl
   |true=>have:=zu.1 ry i (by omega);rw[h]at this;cases this
  have ju:rh (vv v) (bt z)=true↔0≤z.id∧z.id<v.at_.xs.length∧(z.body.xs.length:Int)≤dM v.ag.size:=by
   rw[rh,Bool.and_eq_true,Bool.and_eq_true,decide_eq_true_eq,decide_eq_true_eq,decide_eq_true_eq,and_assoc];rfl
  refine Gc ?_
  refine ah (bo rfl rfl i rfl (by omega)) ?_
  refine ah (jb rfl i hz rfl) ?_
  have Wx:Mb z it:=⟨List.mem_of_getElem? hz⟩
  refine bM fun b7=> ?_
  refine Gs ?_
  refine Gc ?_
  refine jw (by kernel_rfl) (by kernel_rfl) ?_
  iterate 4 refine Gq ?_
  iterate 6 refine Gh ?_
  iterate 2 refine Gq ?_
  iterate 4 refine Gh ?_
  refine iM rfl rfl rfl (fun hg=>(Ry.yl (aI (o':=1) (aG hg rfl) rfl))) ?_
  refine Gh ?_
  refine iM rfl rfl rfl (fun hg=>cJ (dI (aG hg rfl) gN) trivial) ?_
  refine Gh ?_
  refine Gq ?_
  refine Gc ?_
  refine av rfl (fun h1=> ?_) (fun h1=> ?_)
  ·
   replace h1:=bz h1
   have hE:qp (vv v) (it.xs.map bt)=false:=jl (by
    have: ¬rh (vv v) (bt z)=true:=fun h=>by have:=ju.1 h;omega
    rw[y0,show rh (vv v) (bt z)=false by simpa using this];rfl)
   refine Gc ?_
   refine Gs ?_
   refine Gc ?_
   refine au (.inl rfl) (aQ rfl (aq rfl)) (fun w1 hw=> ?_)
   exact⟨congrArg (fun b=>Ending.returned (Value.bool b)) (hE.symm),ai.mem hw⟩
  ·
   replace h1:=bz h1
   have lG:rh (vv v) (bt z)=true:=ju.2 ⟨by omega,by omega,by omega⟩
   have tW:=Gx (n:=z.id) (by omega)
   refine Gc ?_
   iterate 3 refine Gs ?_
   refine ah (Gd (c0:=mr) (dZ:=oI) (f:=rj ((it.xs.map bt).map Prod.fst) i) (v:=z.id) (z:=()) rfl rfl tW) ?_
   refine Gs ?_
   refine ah (aU (v:= .agg #[]) rfl rfl) ?_
   refine ah (aU (v:= .bool ((rj ((it.xs.map bt).map Prod.fst) i z.id).isSome)) rfl rfl) ?_
   refine bM fun b8=> ?_
   iterate 2 refine Gs ?_
   refine Gc ?_
   refine Gs ?_
   refine Gc ?_
   refine av rfl (fun h2=> ?_) (fun h2=> ?_)
   ·
    replace h2:=bz h2
    have hE:qp (vv v) (it.xs.map bt)=false:=jl (by
     rw[Lt]at h2
     rw[y0,lG,List.contains_eq_mem,h2];rfl)
    refine Gc ?_
    refine Gs ?_
    refine Gc ?_
    refine au (.inl rfl) (aQ rfl (aq rfl)) (fun w1 hw=> ?_)
    exact⟨congrArg (fun b=>Ending.returned (Value.bool b)) (hE.symm),ai.mem hw⟩
   ·
    replace h2:=bz h2
    have bR:(ri (vv v) (it.xs.map bt) i)=true:=by
     rw[Lt]at h2
     rw[y0,lG,List.contains_eq_mem,h2];rfl
    have eS:=TL XQ
    refine Gc ?_
    iterate 3 refine Gs ?_
    refine ah (cW (v:= .agg #[]) rfl (fun w=>by kernel_rfl)) ?_
    refine Ge (c0:=mr) (dZ:=oI) (v:=z.id) (u:=()) rfl rfl rfl tW ?_
    refine Gc ?_
    iterate 2 refine Gs ?_
    refine Gi ?_
    exact bI (x:=(i)) (i+1) ⟨by first|omega|(simp only[];omega),fun j hj=>if e:j=i then e▸bR else aH j (by first|omega|(simp only[];omega))⟩ (by first|omega|(simp only[];omega)) (Sub.cons rfl (Sub.cons rfl (Sub.cons rfl (Sub.cons rfl (Sub.cons rfl (Sub.nil _)))))) (fun w hw=>by
     rw[←eS];exact ai.mem hw)
 ·
  replace h0:=bz h0
  obtain rfl:i=it.xs.length:=by omega
  have hE:qp (vv v) (it.xs.map bt)=true:=zu.2 fun j hj=>aH j (by omega)
  refine Gc ?_
  refine Gs ?_
  refine Gc ?_
  refine au (.inl rfl) (aQ rfl (aq rfl)) (fun w1 hw=> ?_)
  exact⟨congrArg (fun b=>Ending.returned (Value.bool b)) (hE.symm),ai.mem hw⟩
instance ais{w0:World}{L:List ak}{v:bU}{it:Sl It}[hv:aW w0 L v][qd:aW w0 L it]:cR Tryz.prog 86 w0 L [.agg (bN v),it.sv.val] (.bool (qp (vv v) (it.xs.map bt))) (True):=⟨fun hp w hw=>XO w v it (hv.h w hw) (qd.h w hw)⟩
theorem M8(v:bU)(w:World):(Instr.build 141 #[(0, .agg (bN v))]).run Tryz.prog w= .ok (.agg (aL ⟨v,false⟩)) w:=by
 obtain⟨⟨a1,a2,⟨a3,a4⟩,a5,a6,⟨a7,a8⟩⟩,⟨s,xs⟩,g,l⟩:=v
 unfold bN aL
 obtain⟨e,b,o,l,c,p⟩:=s
 obtain⟨e3,b3,o3,l3,c3,p3⟩:=a3
 obtain⟨e7,b7,o7,l7,c7,p7⟩:=a7
 cases e<;>cases e3<;>cases e7<;>kernel_rfl
theorem z5(c:Cp)(w:World):(Instr.build 29 #[(0, .agg (aF c))]).run Tryz.prog w= .ok (.agg (bN ⟨c,⟨Sv.none,[]⟩,0,0⟩)) w:=by
 obtain⟨a1,a2,⟨a3,a4⟩,a5,a6,⟨a7,a8⟩⟩:=c
 unfold bN aF
 obtain⟨e3,b3,o3,l3,c3,p3⟩:=a3
 obtain⟨e7,b7,o7,l7,c7,p7⟩:=a7
 cases e3<;>cases e7<;>kernel_rfl
theorem z6{w0 w:World}{L:List ak}(h:Mem w0 L w):Mem w0 (fz (⟨Sv.none,[]⟩:Sl Int)::L) w:=u7 (a:=⟨Sv.none,[]⟩) (Mem.dQ bP 1 h)
theorem M9{w0 w:World}{c:Cp}{a:Sl Int}(h:Mem w0 [fz c,own bP 1 a.sv a.xs] w):Mem w0 [fz c,fz a] w:=ai.mem (u7 (ai.mem h:Mem w0 [own bP 1 a.sv a.xs,fz c] w))
theorem XR(w:World)(v:bU)(it:Sl It)(hv:Deep.aZ (hp w) v)(qd:Deep.aZ (hp w) it)(bf:dK v.ag∧v.at_.xs.length≤1000000∧it.xs.length≤1000000):Calls Tryz.prog 41 #[.agg (bN v),it.sv.val] w fun e w'=> ∃zz:Cp×Sl Int×UInt64×Int,e= .returned (.tuple #[.agg (bN (⟨zz.1,zz.2.1,zz.2.2.1,zz.2.2.2⟩:bU)), .int .i64 ((fQ (vv v) (it.xs.map bt)).2)])∧((⟨cv zz.1,zz.2.1.xs,zz.2.2.1.toNat,zz.2.2.2⟩:VV)=(fQ (vv v) (it.xs.map bt)).1)∧Mem w [fz zz.1,fz zz.2.1] w':=by
 have zG:cM w v:=⟨hv⟩
 have XP:cM w it:=⟨qd⟩
 obtain⟨kE,fG,fC⟩:=bf
 refine bh (args:=[_,_]) Tryz.func41 rfl Tryz.ntmps41 rfl ?_
 change Cw _ _ _ _ _ [(0, .agg (bN v)),(1,it.sv.val)] []
 refine Gc ?_
 refine cA rfl fun b2=> ?_
 refine bM fun b4=> ?_
 refine Gs ?_
 refine Gc ?_
 iterate 4 refine Gs ?_
 iterate 3 refine Gg ?_
 iterate 2 refine Gs ?_
 refine bS rfl rfl rfl (fun hg=>(Ry.yl (gu rfl))) ?_
 refine Gg ?_
 refine bS rfl rfl rfl (fun hg=>cJ (dI (aG hg rfl) (dI (aG hg rfl) gN)) trivial) ?_
 refine bS rfl rfl rfl (fun hg=>(Ry.yl (iD (aG hg rfl)))) ?_
 refine Gs ?_
 refine Gc ?_
 refine av rfl (fun h0=> ?_) (fun h0=> ?_)
 ·
  replace h0:=bz h0
  have hE:(fQ (vv v) (it.xs.map bt))=(vv v,1):=by
   rw[fQ,if_pos]
   rintro⟨g1,g2,g3⟩
   rcases h0 with(h|h)|h
   ·
    rw[g1]at h;cases h
   ·
    change v.gen.toNat<_ at g2;omega
   ·
    rw[g3]at h;cases h
  refine Gc ?_
  refine Gs ?_
  refine bu rfl ⟨kE,fG⟩ fun tT Gn=> ?_
  iterate 2 refine Gs ?_
  refine Gc ?_
  refine au (.inl rfl) (bq rfl (ck rfl) (aq rfl)) (fun w1 hw=> ?_)
  exact⟨(tT.1,⟨tT.2,v.at_.xs⟩,v.gen,v.last),by rw[hE],by rw[hE,Gn];rfl,M9 (ai.mem hw)⟩
 ·
  replace h0:=bz h0
  have hq:kU (vv v)=true∧(vv v).gen<281474976710655∧qp (vv v) (it.xs.map bt)=true:=⟨h0.1.1,by show v.gen.toNat<_;omega,h0.2⟩
  have xT:cf (⟨vv v,false⟩:WV):=vr hq.1
  have xR: ∀x∈it.xs,0≤x.id∧x.id<v.at_.xs.length:=fun x hx=>by
   obtain⟨j,hj⟩:=List.getElem?_of_mem hx
   have uc:(it.xs.map bt)[j]? =Option.some (bt x):=by rw[List.getElem?_map,hj];rfl
   have hg:=zu.1 hq.2.2 j (by rw[List.length_map];exact(List.getElem?_eq_some_iff.1 hj).1)
   rw[ri,show(it.xs.map bt).getD j (0,[])=bt x by simp[List.getD,uc],Bool.and_eq_true,rh,Bool.and_eq_true,Bool.and_eq_true,decide_eq_true_eq,decide_eq_true_eq]at hg
   exact⟨hg.1.1.1,hg.1.1.2⟩
  have dF:(cv v.ag).blocks.length=v.ag.blocks.xs.length:=gD _
  refine Gc ?_
  iterate 3 refine Gs ?_
  refine Gc ?_
  refine av rfl (fun h1=> ?_) (fun h1=> ?_)
  ·
   replace h1:=bz h1
   have hE:(fQ (vv v) (it.xs.map bt))=(vv v,7):=by rw[fQ,if_neg (fun h=>h hq),if_pos (show(vv v).ag.off=true from h1)]
   refine Gc ?_
   refine Gs ?_
   refine bu rfl ⟨kE,fG⟩ fun xw Gk=> ?_
   iterate 2 refine Gs ?_
   refine Gc ?_
   refine au (.inl rfl) (bq rfl (ck rfl) (aq rfl)) (fun w1 hw=> ?_)
   exact⟨(xw.1,⟨xw.2,v.at_.xs⟩,v.gen,v.last),by rw[hE],by rw[hE,Gk];rfl,M9 (ai.mem hw)⟩
  ·
   replace h1:=bz h1
   have hE:(fQ (vv v) (it.xs.map bt))=((m9 (v.ag.blocks.xs.length+1) (⟨vv v,false⟩:WV) (it.xs.map bt)).1.v,(m9 (v.ag.blocks.xs.length+1) (⟨vv v,false⟩:WV) (it.xs.map bt)).2):=by rw[fQ,if_neg (fun h=>h hq),if_neg (show ¬(vv v).ag.off=true by rw[show(vv v).ag.off=v.ag.off from rfl,h1];simp)];rw[show(vv v).ag.blocks.length=v.ag.blocks.xs.length from dF]
   refine Gc ?_
   refine Gs ?_
   refine bu rfl ⟨kE,fG⟩ fun kY sK=> ?_
   refine ah (cW (v:= .agg (aL (⟨⟨kY.1,⟨kY.2,v.at_.xs⟩,v.gen,v.last⟩,false⟩:aP))) rfl (M8 _)) ?_
   refine cA rfl fun jo=> ?_
   refine Gs ?_
   refine Gc ?_
   refine ct (X:=Nat×Cp×Sl Int×UInt64×Int×Bool) (fun zz=>[(6, .pointer (some ⟨jo,0,none⟩)),(1,it.sv.val),(4, .pointer (some ⟨b4,0,none⟩))]) (fun zz=>[ar jo (aL (⟨⟨zz.2.1,zz.2.2.1,zz.2.2.2.1,zz.2.2.2.2.1⟩,zz.2.2.2.2.2⟩:aP)) 141,fz zz.2.1,fz zz.2.2.1,ar b4 (bN kT) 29]) (fun zz=>(m9 (v.ag.blocks.xs.length+1) (⟨vv v,false⟩:WV) (it.xs.map bt))=m9 zz.1 (⟨⟨cv zz.2.1,zz.2.2.1.xs,zz.2.2.2.1.toNat,zz.2.2.2.2.1⟩,zz.2.2.2.2.2⟩:WV) (it.xs.map bt)∧cf (⟨⟨cv zz.2.1,zz.2.2.1.xs,zz.2.2.2.1.toNat,zz.2.2.2.2.1⟩,zz.2.2.2.2.2⟩:WV)∧zz.2.2.1.xs.length=v.at_.xs.length∧dL (cv v.ag) (cv zz.2.1)∧v.ag.blocks.xs.length<zz.1+cq (cv zz.2.1)) (fun zz=>zz.1) (v.ag.blocks.xs.length+1,kY.1,⟨kY.2,v.at_.xs⟩,v.gen,v.last,false) ⟨by rw[sK];rfl,by rw[sK];exact xT,rfl,by rw[sK];exact .bY _,by simp only;omega⟩ (Sub.cons rfl (Sub.cons rfl (Sub.cons rfl (Sub.nil _)))) (fun w hw=>ai.mem (u7 (a:=(⟨kY.2,v.at_.xs⟩:Sl Int)) (ai.mem hw:Mem _ [own bP 1 kY.2 v.at_.xs,ar jo (aL (⟨⟨kY.1,⟨kY.2,v.at_.xs⟩,v.gen,v.last⟩,false⟩:aP)) 141,fz kY.1,ar b4 (bN kT) 29] _))) ?_
   rintro⟨n,c,a,g,q,y⟩ ⟨bl,aH,bB,c6,zT⟩
   dsimp only
   simp only at bl aH bB c6 zT
   have Na:=xj (cv c)
   have hlc:(cv c).blocks.length=(cv v.ag).blocks.length:=c6.len
   have xk:a.xs.length≤64:=aH.nL
   have XS: ∀x∈it.xs,0≤x.id∧x.id<a.xs.length∧x.id<64:=fun x hx=>by have:=xR x hx;omega
   obtain⟨r,rfl⟩: ∃r,n=r+1:=⟨n -1,by omega⟩
   refine Gc ?_
   iterate 3 refine Gs ?_
   refine Gc ?_
   iterate 2 refine Gs ?_
   refine bu rfl ⟨aH,fC,XS⟩ fun ly tZ=> ?_
   have hb:=FT (l:=(it.xs.map bt)) aH
   rw[←tZ]at hb
   refine Gs ?_
   refine Gc ?_
   iterate 3 refine Gs ?_
   refine Gg ?_
   refine gv rfl rfl rfl (fun hg=>cJ (dI (aG hg rfl) gN) trivial) ?_
   iterate 2 refine Gg ?_
   refine Gs ?_
   refine Gc ?_
   refine av rfl (fun h2=> ?_) (fun h2=> ?_)
   ·
    replace h2:=bz h2
    have fk:(iL (⟨⟨cv c,a.xs,g.toNat,q⟩,y⟩:WV) (it.xs.map bt)).2=5∧cq (cv c)<cq (iL (⟨⟨cv c,a.xs,g.toNat,q⟩,y⟩:WV) (it.xs.map bt)).1.v.ag:=⟨h2.1,by rw[←tZ];show cq (cv c)<cq (cv ly.1);omega⟩
    iterate 3 refine Gi ?_
    exact bI (x:=(r+1,c,a,g,q,y)) (r,ly.1,ly.2.1,ly.2.2.1,ly.2.2.2.1,ly.2.2.2.2) ⟨by rw[bl,m9,if_pos fk,←tZ],hb.ok,hb.xe.trans bB,c6.trans hb.cx,by have:=fk.2;rw[←tZ]at this;change cq (cv c)<cq (cv ly.1)at this;simp only;omega⟩ (by simp only;omega) (Sub.cons rfl (Sub.cons rfl (Sub.cons rfl (Sub.nil _)))) (fun w hw=>ai.mem hw)
   ·
    replace h2:=bz h2
    have fk: ¬((iL (⟨⟨cv c,a.xs,g.toNat,q⟩,y⟩:WV) (it.xs.map bt)).2=5∧cq (cv c)<cq (iL (⟨⟨cv c,a.xs,g.toNat,q⟩,y⟩:WV) (it.xs.map bt)).1.v.ag):=by
     rw[←tZ]
     rintro⟨ga,gb⟩
     change cq (cv c)<cq (cv ly.1)at gb
     rcases h2 with h|h
     ·
      exact h ga
     ·
      omega
    have Nb:(m9 (v.ag.blocks.xs.length+1) (⟨vv v,false⟩:WV) (it.xs.map bt))=iL (⟨⟨cv c,a.xs,g.toNat,q⟩,y⟩:WV) (it.xs.map bt):=by rw[bl,m9,if_neg fk]
    refine Gc ?_
    iterate 3 refine Gs ?_
    refine ah (Ry.to (v':= .agg (bN (⟨ly.1,ly.2.1,ly.2.2.1,ly.2.2.2.1⟩:bU))) (jv rfl) rfl) ?_
    iterate 3 refine Gs ?_
    refine Gc ?_
    refine au (.inl rfl) (bq rfl (ck rfl) (aq rfl)) (fun w1 hw=> ?_)
    exact⟨(ly.1,ly.2.1,ly.2.2.1,ly.2.2.2.1),by rw[hE,Nb],by rw[hE,Nb,←tZ],ai.mem hw⟩
instance ait{w0:World}{L:List ak}{v:bU}{it:Sl It}[hv:aW w0 L v][qd:aW w0 L it]:cw Tryz.prog 41 w0 L [.agg (bN v),it.sv.val] (Cp×Sl Int×UInt64×Int) (fun zz=> .tuple #[.agg (bN (⟨zz.1,zz.2.1,zz.2.2.1,zz.2.2.2⟩:bU)), .int .i64 ((fQ (vv v) (it.xs.map bt)).2)]) (fun zz=>fz zz.1::fz zz.2.1::L) (fun zz=>(⟨cv zz.1,zz.2.1.xs,zz.2.2.1.toNat,zz.2.2.2⟩:VV)=(fQ (vv v) (it.xs.map bt)).1) (dK v.ag∧v.at_.xs.length≤1000000∧it.xs.length≤1000000):=⟨fun hp w hw=>(XR w v it (hv.h w hw) (qd.h w hw) hp).mono fun e w' ⟨x,h1,h2,h3⟩=>⟨x,h1,h2,hw.call h3⟩⟩
theorem XT(w:World)(c:Cp)(n:Int)(hc:Deep.aZ (hp w) c)(bf:dK c):Calls Tryz.prog 40 #[.agg (aF c), .int .i64 n] w fun e w'=> ∃zz:Cp×Sl Int×UInt64×Int,e= .returned (.tuple #[.agg (bN (⟨zz.1,zz.2.1,zz.2.2.1,zz.2.2.2⟩:bU)), .int .i64 ((gS (cv c) n).2)])∧((⟨cv zz.1,zz.2.1.xs,zz.2.2.1.toNat,zz.2.2.2⟩:VV)=(gS (cv c) n).1)∧Mem w [fz zz.1,fz zz.2.1] w':=by
 have kl:cM w c:=⟨hc⟩
 have kE:dK c:=bf
 refine bh (args:=[_,_]) Tryz.func40 rfl Tryz.ntmps40 rfl ?_
 change Cw _ _ _ _ _ [(0, .agg (aF c)),(1, .int .i64 n)] []
 refine Gc ?_
 refine cA rfl fun b2=> ?_
 refine bM fun b4=> ?_
 refine Gs ?_
 refine Gc ?_
 iterate 4 refine Gs ?_
 iterate 2 refine Gg ?_
 iterate 2 refine Gs ?_
 iterate 3 refine Gg ?_
 refine bS rfl rfl rfl (fun hg=>cJ (dI (aG hg rfl) gN) trivial) ?_
 refine Gg ?_
 refine Gs ?_
 refine Gc ?_
 refine av rfl (fun h0=> ?_) (fun h0=> ?_)
 ·
  replace h0:=bz h0
  have hE:(gS (cv c) n)=(⟨cv c,[],0,0⟩,1):=by
   rw[gS,if_pos]
   rintro⟨g1,g2,g3⟩
   rcases h0 with(h|h)|h
   ·
    rw[g1]at h;cases h
   ·
    omega
   ·
    change _≤iP c.size at g3;omega
  refine Gc ?_
  refine Gs ?_
  refine bu rfl (by assumption) fun mo Cx=> ?_
  refine ah (cW (v:= .agg (bN (⟨mo,⟨Sv.none,[]⟩,0,0⟩:bU))) rfl (z5 mo)) ?_
  iterate 2 refine Gs ?_
  refine Gc ?_
  refine au (.inl rfl) (bq rfl (ck rfl) (aq rfl)) (fun w1 hw=> ?_)
  exact⟨(mo,⟨Sv.none,[]⟩,0,0),by rw[hE],by rw[hE,Cx];rfl,ai.mem (z6 (ai.mem hw:Mem w [fz mo] _))⟩
 ·
  replace h0:=bz h0
  have hq:fx (cv c)=true∧1≤n∧n≤iP (cv c).size:=⟨h0.1.1,by omega,by show n≤iP c.size;omega⟩
  obtain⟨e1,e2,e3,e4⟩:=eo.1 hq.1
  have pe:=TD (cv c).size
  have xT:cf (⟨⟨cv c,[],0,0⟩,false⟩:WV):=⟨e1,e2,e3,e4, .inl rfl,(by show(0:Nat)<_;omega),(fun n hn=>by cases hn),(by show(0:Nat)≤64;omega)⟩
  refine Gc ?_
  iterate 2 refine Gs ?_
  refine Gc ?_
  refine av rfl (fun h1=> ?_) (fun h1=> ?_)
  ·
   replace h1:=bz h1
   have hE:(gS (cv c) n)=(⟨cv c,[],0,0⟩,7):=by rw[gS,if_neg (fun h=>h hq),if_pos (show(cv c).off=true from h1)]
   refine Gc ?_
   refine Gs ?_
   refine bu rfl (by assumption) fun dB mv=> ?_
   refine ah (cW (v:= .agg (bN (⟨dB,⟨Sv.none,[]⟩,0,0⟩:bU))) rfl (z5 dB)) ?_
   iterate 2 refine Gs ?_
   refine Gc ?_
   refine au (.inl rfl) (bq rfl (ck rfl) (aq rfl)) (fun w1 hw=> ?_)
   exact⟨(dB,⟨Sv.none,[]⟩,0,0),by rw[hE],by rw[hE,mv];rfl,ai.mem (z6 (ai.mem hw:Mem w [fz dB] _))⟩
  ·
   replace h1:=bz h1
   have Bn:(gS (cv c) n)=(if(ji (cv c) n).2≠0 then(⟨(ji (cv c) n).1.v.ag,[],0,0⟩,(ji (cv c) n).2)else((ji (cv c) n).1.v,0)):=by rw[gS,if_neg (fun h=>h hq),if_neg (show ¬(cv c).off=true by rw[show(cv c).off=c.off from rfl,h1];simp)]
   refine Gc ?_
   refine Gs ?_
   refine bu rfl (by assumption) fun kY sK=> ?_
   refine ah (cW (v:= .agg (bN (⟨kY,⟨Sv.none,[]⟩,0,0⟩:bU))) rfl (z5 kY)) ?_
   refine ah (cW (v:= .agg (aL (⟨(⟨kY,⟨Sv.none,[]⟩,0,0⟩:bU),false⟩:aP))) rfl (M8 _)) ?_
   refine cA rfl fun z8=> ?_
   refine Gs ?_
   iterate 4 refine Gi ?_
   refine qU [ar z8 (aL (⟨⟨kY,⟨Sv.none,[]⟩,0,0⟩,false⟩:aP)) 141,fz kY,fz (⟨Sv.none,[]⟩:Sl Int),ar b4 (bN kT) 29] (fun w hw=>ai.mem (z6 (ai.mem hw:Mem _ [ar z8 (aL (⟨⟨kY,⟨Sv.none,[]⟩,0,0⟩,false⟩:aP)) 141,fz kY,ar b4 (bN kT) 29] _))) ?_
   refine Gi ?_
   iterate 2 refine Gs ?_
   refine bu rfl ⟨by rw[sK];exact xT,by omega,by omega⟩ fun kZ Nc=> ?_
   have xk:(⟨⟨cv kZ.1,kZ.2.1.xs,kZ.2.2.1.toNat,kZ.2.2.2⟩,false⟩:WV)=(ji (cv c) n).1:=by rw[Nc,ji,←sK];rfl
   refine Gs ?_
   refine Gc ?_
   iterate 2 refine Gs ?_
   refine Gc ?_
   refine av rfl (fun h2=> ?_) (fun h2=> ?_)
   ·
    replace h2:=bz h2
    have hE:(gS (cv c) n)=(⟨(ji (cv c) n).1.v.ag,[],0,0⟩,(ji (cv c) n).2):=by rw[Bn,if_pos (by rw[ji,←sK];exact h2)]
    refine Gc ?_
    iterate 4 refine Gs ?_
    refine ah (Ry.to (v':= .agg (aF kZ.1)) (jv rfl) rfl) ?_
    refine ah (cW (v:= .agg (bN (⟨kZ.1,⟨Sv.none,[]⟩,0,0⟩:bU))) rfl (z5 kZ.1)) ?_
    iterate 3 refine Gs ?_
    refine Gc ?_
    refine au (.inl rfl) (bq rfl (ck rfl) (aq rfl)) (fun w1 hw=> ?_)
    exact⟨(kZ.1,⟨Sv.none,[]⟩,0,0),by rw[hE,ji,←sK];rfl,by rw[hE,←xk];rfl,ai.mem (z6 (ai.mem hw:Mem w [fz kZ.1] _))⟩
   ·
    replace h2:=bz h2
    have hE:(gS (cv c) n)=((ji (cv c) n).1.v,0):=by rw[Bn,if_neg (by rw[ji,←sK];exact fun h=>h h2)]
    refine Gc ?_
    iterate 3 refine Gs ?_
    refine ah (Ry.to (v':= .agg (bN (⟨kZ.1,kZ.2.1,kZ.2.2.1,kZ.2.2.2⟩:bU))) (jv rfl) rfl) ?_
    iterate 2 refine Gs ?_
    refine Gc ?_
    refine au (.inl rfl) (bq rfl (ck rfl) (aq rfl)) (fun w1 hw=> ?_)
    exact⟨(kZ.1,kZ.2.1,kZ.2.2.1,kZ.2.2.2),by rw[hE],by rw[hE,←xk],ai.mem hw⟩
instance aiu{w0:World}{L:List ak}{c:Cp}{n:Int}[hc:aW w0 L c]:cw Tryz.prog 40 w0 L [.agg (aF c), .int .i64 n] (Cp×Sl Int×UInt64×Int) (fun zz=> .tuple #[.agg (bN (⟨zz.1,zz.2.1,zz.2.2.1,zz.2.2.2⟩:bU)), .int .i64 ((gS (cv c) n).2)]) (fun zz=>fz zz.1::fz zz.2.1::L) (fun zz=>(⟨cv zz.1,zz.2.1.xs,zz.2.2.1.toNat,zz.2.2.2⟩:VV)=(gS (cv c) n).1) (dK c):=⟨fun hp w hw=>(XT w c n (hc.h w hw) hp).mono fun e w' ⟨x,h1,h2,h3⟩=>⟨x,h1,h2,hw.call h3⟩⟩
open Go.ay Go.Kb
theorem aiv(w:World)(n many:Nat)(hn:n<2^64)(hm:1≤many∧many≤8):Calls Tryz.prog 156 #[.int .u64 (n:Nat), .int .i64 (many:Nat)] w fun e w'=> ∃s:Sv,e= .returned s.val∧s.Ok∧s.len=many∧Mem w [own aM 1 s (be n many)] w':=by
 refine bh (args:=[_,_]) Tryz.func156 rfl Tryz.ntmps156 rfl ?_
 change Cw _ _ _ _ _ [(0, .int .u64 (n:Nat)),(1, .int .i64 (many:Nat))] []
 refine aO ?_
 refine ba ?_
 refine ah (bn rfl) ?_
 refine aY ?_
 refine aN ?_
 refine aO ?_
 refine ba ?_
 refine ah (bn rfl) ?_
 refine aY ?_
 refine aN ?_
 refine aO ?_
 refine aO ?_
 refine ba ?_
 refine ah (aE rfl) ?_
 refine ah (cz rfl rfl rfl) ?_
 refine ah (aE rfl) ?_
 refine bS rfl rfl rfl (fun hg=>(aE rfl).yl) ?_
 refine bS rfl rfl rfl (fun hg=>(cz (aG hg rfl) rfl rfl).yl) ?_
 refine ah (lU rfl rfl rfl) ?_
 refine aY ?_
 refine aN ?_
 refine av rfl (fun h0=> ?_) (fun h0=> ?_)
 ·
  exfalso;simp at h0;omega
 ·
  refine gf ?_
  refine aN ?_
  refine aO ?_
  refine aO ?_
  refine ba ?_
  refine ah (bn rfl) ?_
  refine aY ?_
  refine aN ?_
  refine lE ?_
  refine ct (X:=Nat×Sv) (fun x=>[(0, .int .u64 (n/256^x.1:Nat)),(1, .int .i64 (many:Nat)),(6, .int .i64 (x.1:Nat)),(5,x.2.val)]) (fun x=>[own aM 1 x.2 (be n x.1)]) (fun x=>x.1≤many∧x.2.Ok∧x.2.len=x.1) (fun x=>many -x.1) (0,Sv.none) ⟨by omega,Sv.wq,rfl⟩ (Sub.cons (look_eq rfl (by simp)) (Sub.cons rfl (Sub.cons rfl (Sub.cons rfl (Sub.nil _))))) (fun w hw=>hw.dQ aM 1) ?_
  rintro⟨i,s⟩ ⟨bl,aH,bB⟩
  refine aO ?_
  refine aO ?_
  refine ba ?_
  refine ah (aE rfl) ?_
  refine ah (aE rfl) ?_
  refine ah (cz rfl rfl rfl) ?_
  refine aY ?_
  refine aN ?_
  refine av rfl (fun h1=> ?_) (fun h1=> ?_)
  ·
   simp only[decide_eq_true_eq]at h1
   refine gf ?_
   refine aN ?_
   refine aO ?_
   refine lE ?_
   refine aO ?_
   refine ba ?_
   refine ah (aE rfl) ?_
   refine ah (yI rfl rfl rfl rfl (by decide)) ?_
   refine ah (wA rfl rfl) ?_
   refine pa (enc:=aM) [b8 (n/256^i)] (vals:=[_]) rfl (by rw[I3];rfl) rfl (by decide) (by decide) fun xz=> ?_
   refine ah (aE rfl) ?_
   refine lZ (ys:=be n i) rfl rfl (by decide) (fun w hw=>kO Tryz.underlying38 (by decide) ((inferInstance:fL _ s _ _ _ _).holds w hw)) (by simp[ia];omega) (by simp[ia];omega) fun XU XV XW=> ?_
   refine ah (bn rfl) ?_
   refine aY ?_
   refine aN ?_
   refine ba ?_
   refine ah (aE rfl) ?_
   refine ah (QJ rfl rfl rfl rfl (Nat.lt_of_le_of_lt (Nat.div_le_self _ _) hn) (by decide)) ?_
   refine ah (bn rfl) ?_
   refine aY ?_
   refine oZ ?_
   refine aN ?_
   refine ba ?_
   refine ah (aE rfl) ?_
   refine ah (pS rfl rfl (by omega)) ?_
   refine ah (bn rfl) ?_
   refine aY ?_
   exact bI (i+1,XU) ⟨by omega,XV,XW.trans (by simp[ia])⟩ (by omega) (Sub.cons (look_eq rfl (by rw[Nat.div_div_eq_div_mul,Nat.pow_succ])) (Sub.cons rfl (Sub.cons rfl (Sub.cons rfl (Sub.nil _))))) (fun w hw=>hw.sub (List.Sublist.cons_cons _ (List.nil_sublist _)))
  ·
   simp only[decide_eq_false_iff_not]at h1
   refine rP ?_
   refine lX ?_
   refine lX ?_
   refine rQ ?_
   refine aN ?_
   refine aO ?_
   refine ba ?_
   refine ah (aE rfl) ?_
   refine ah (bn rfl) ?_
   refine aY ?_
   refine aN ?_
   refine eF ?_
   refine au (.inl rfl) (ku rfl rfl) (fun w hw=> ?_)
   exact⟨s,rfl,aH,(show s.len=i from bB).trans (by omega),by rwa [show i=many by omega]at hw⟩
theorem XX(a b:Int):oV Tryz.prog 57 [.int .i64 a, .int .i64 b] (.int .i64 (gI a b)):=⟨fun w=>by
 refine bh (args:=[_,_]) Tryz.func57 rfl Tryz.ntmps57 rfl ?_
 change Cw _ _ _ _ _ [(0, .int .i64 a),(1, .int .i64 b)] []
 refine aO ?_
 refine ba ?_
 refine ah (bn rfl) ?_
 refine aY ?_
 refine aN ?_
 refine aO ?_
 refine aO ?_
 refine ba ?_
 refine ah (aE rfl) ?_
 refine ah (cz rfl rfl rfl) ?_
 refine ah (aE rfl) ?_
 refine bS rfl rfl rfl (fun hg=>(aE rfl).yl) ?_
 refine bS rfl rfl rfl (fun hg=>(cz (aG hg rfl) rfl rfl).yl) ?_
 refine ah (lU rfl rfl rfl) ?_
 refine ah (aE rfl) ?_
 refine bS rfl rfl rfl (fun hg=>(aE rfl).yl) ?_
 refine bS rfl rfl rfl (fun hg=>(cz (aG hg rfl) rfl rfl).yl) ?_
 refine ah (lU rfl rfl rfl) ?_
 refine ah (aE rfl) ?_
 refine bS rfl rfl rfl (fun hg=>(aE rfl).yl) ?_
 refine bS rfl rfl rfl (fun hg=>(cz (aG hg rfl) rfl rfl).yl) ?_
 refine ah (lU rfl rfl rfl) ?_
 refine aY ?_
 refine aN ?_
 refine av rfl (fun h0=> ?_) (fun h0=> ?_)
 ·
  simp only[Bool.or_eq_true,decide_eq_true_eq]at h0
  refine aO ?_
  refine ba ?_
  refine ah (bn rfl) ?_
  refine aY ?_
  refine aN ?_
  refine eF ?_
  refine fq ?_
  refine au (.inl rfl) (ku rfl rfl) (fun w hw=> ?_)
  exact⟨congrArg (fun b=>Ending.returned (Value.int .i64 b)) ((if_pos (by omega)).symm),hw.sub (List.nil_sublist _)⟩
 ·
  simp only[Bool.or_eq_false_iff,decide_eq_false_iff_not]at h0
  have hq:b/20≤12:=by omega
  have zJ:0≤b/20:=by omega
  have hm:a*(b/20)≤64*12:=Int.mul_le_mul (by omega) hq zJ (by decide)
  have lP:0≤a*(b/20):=Int.mul_nonneg (by omega) zJ
  refine gf ?_
  refine aN ?_
  refine aO ?_
  refine ba ?_
  refine ah (aE rfl) ?_
  refine ah (aE rfl) ?_
  refine ah (n7 rfl rfl (by omega) (by omega)) ?_
  refine ah (uC rfl rfl (by omega)) ?_
  refine ah (D8 rfl rfl) ?_
  refine ah (bn rfl) ?_
  refine aY ?_
  refine aN ?_
  refine eF ?_
  refine au (.inl rfl) (ku rfl rfl) (fun w hw=> ?_)
  exact⟨congrArg (fun b=>Ending.returned (Value.int .i64 b)) ((if_neg (by omega)).symm),hw.sub (List.nil_sublist _)⟩⟩
instance aiw(a b:Int):oV Tryz.prog 57 [.int .i64 a, .int .i64 b] (.int .i64 (gI a b)):=XX a b
open Go.ay Go.Kb
def z9:Array Value:=Array.replicate 20 (.int .u8 0)
theorem qC:z9.size=20:=by simp[z9]
instance:fo Tryz.prog 197 (.agg z9):=⟨by kernel_rfl⟩
theorem Nf(k:Key):(cn k).all (·.oneCell')=true:=(inferInstance:gq (cn k) 16).one
theorem XY(w0 w:World)(L:List ak)(s:Sv)(xs:List UInt8)(r:Rt)(hw:Mem w0 (own aM 1 s xs::L) w)(hl:xs.length≤1000000):Calls Tryz.prog 113 #[s.val, .agg (ax r)] w fun e w'=> ∃s':Sv,e= .returned s'.val∧s'.Ok∧s'.len=xs.length+20∧Mem w0 (own aM 1 s' (xs++eO r)::L) w':=by
 refine kv (args:=[_,_]) Tryz.func113 rfl Tryz.ntmps113 rfl hw ?_
 change Cw _ _ _ _ _ [(0,s.val),(1, .agg (ax r))] (own aM 1 s xs::L)
 refine aO ?_
 refine ba ?_
 refine cA rfl fun b3=> ?_
 refine ah (bn rfl) ?_
 refine aY ?_
 refine aN ?_
 refine aO ?_
 refine ba ?_
 refine bM fun b5=> ?_
 refine aY ?_
 refine aN ?_
 refine aO ?_
 refine aO ?_
 refine ba ?_
 refine ah (aI (o':=0) rfl rfl) ?_
 refine ah (aI (o':=0) rfl rfl) ?_
 refine ah (bJ rfl) ?_
 refine ah (cz rfl rfl rfl) ?_
 refine aY ?_
 refine aN ?_
 refine av rfl (fun h0=> ?_) (fun h0=> ?_)
 ·
  simp only[decide_eq_true_eq]at h0
  refine ba ?_
  refine ah (rN rfl rfl (by omega) (by omega)) ?_
  refine eV rfl rfl (by simp[qC]) rfl rfl ?_
  refine aY ?_
  refine aN ?_
  refine aO ?_
  refine ba ?_
  refine ah (aI (o':=0) rfl rfl) ?_
  refine ah (aI (o':=1) rfl rfl) ?_
  refine ah (bJ rfl) ?_
  refine ah (rO rfl (wU _)) ?_
  refine ah (rN rfl rfl (by omega) (by omega)) ?_
  refine eV rfl rfl (by simp[qC]) rfl rfl ?_
  refine aY ?_
  refine aN ?_
  refine aO ?_
  refine uI 4 [] (by kernel_rfl) (by kernel_rfl) ?_
  simp only[List.take_succ_cons,List.take_zero]
  refine bA (IQ rfl rfl (by decide) (by decide)) ?_
  refine bA (aI (o':=0) rfl rfl) ?_
  refine bA (aI (o':=2) rfl rfl) ?_
  refine bA (uD rfl) ?_
  refine sW ?_
  refine sX ?_
  simp only[List.drop_succ_cons,List.drop_zero]
  refine Ec (vs:=cn r.p.key) rfl rfl (by rw[gP];rfl) (fun w hw j hj=>by rw[Addr.gB,hw.cell (i:=1) rfl];exact(og r (2+j) (by rw[gP]at hj;omega)).trans (pZ r.p j)) (Nf _) (by simp[gP,qC]) rfl ?_
  refine aY ?_
  refine aN ?_
  refine aO ?_
  refine ba ?_
  refine ah (aI (o':=18) rfl rfl) ?_
  refine ah (bJ rfl) ?_
  refine ah (uF (p:=r.dP.toNat) rfl rfl (Nat.lt_of_lt_of_le r.dP.toNat_lt (by decide)) (by decide)) ?_
  refine ah (wA (n:=r.dP.toNat/256) rfl rfl) ?_
  refine ah (rN rfl rfl (by omega) (by omega)) ?_
  refine eV rfl rfl (by simp[mE,gP,qC]) rfl rfl ?_
  refine aY ?_
  refine aN ?_
  refine aO ?_
  refine ba ?_
  refine ah (aI (o':=18) rfl rfl) ?_
  refine ah (bJ rfl) ?_
  refine ah (wA (n:=r.dP.toNat) rfl rfl) ?_
  refine ah (rN rfl rfl (by omega) (by omega)) ?_
  refine eV rfl rfl (by simp[mE,gP,qC]) rfl rfl ?_
  refine aY ?_
  refine aN ?_
  refine aO ?_
  refine ba ?_
  refine ah (aE rfl) ?_
  refine ah (uD rfl) ?_
  refine lZ (ys:=eO r) rfl rfl (by decide) (fun w hw=>kO (s:=⟨false,b5,0,20,20,none⟩) Tryz.underlying38 (by decide) (A0 (KD r (by simp[qC]) (by simp[z9,h0])) (oy r) (by decide) w hw)) (by rw[oy];omega) (by rw[oy];omega) fun G7 G8 G9=> ?_
  refine ah (bn rfl) ?_
  refine aY ?_
  refine aN ?_
  refine eF ?_
  refine au (.inl rfl) (ku rfl rfl) (fun w hw=> ?_)
  exact⟨G7,rfl,G8,G9.trans (by rw[List.length_append,oy]),hw.sub (List.Sublist.cons _ (List.Sublist.cons _ (List.Sublist.refl _)))⟩
 ·
  simp only[decide_eq_false_iff_not]at h0
  refine gf ?_
  refine aN ?_
  refine aO ?_
  refine ba ?_
  refine ah (aI (o':=0) rfl rfl) ?_
  refine ah (aI (o':=1) rfl rfl) ?_
  refine ah (bJ rfl) ?_
  refine ah (rO rfl (wU _)) ?_
  refine ah (rN rfl rfl (by omega) (by omega)) ?_
  refine eV rfl rfl (by simp[qC]) rfl rfl ?_
  refine aY ?_
  refine aN ?_
  refine aO ?_
  refine uI 4 [] (by kernel_rfl) (by kernel_rfl) ?_
  simp only[List.take_succ_cons,List.take_zero]
  refine bA (IQ rfl rfl (by decide) (by decide)) ?_
  refine bA (aI (o':=0) rfl rfl) ?_
  refine bA (aI (o':=2) rfl rfl) ?_
  refine bA (uD rfl) ?_
  refine sW ?_
  refine sX ?_
  simp only[List.drop_succ_cons,List.drop_zero]
  refine Ec (vs:=cn r.p.key) rfl rfl (by rw[gP];rfl) (fun w hw j hj=>by rw[Addr.gB,hw.cell (i:=1) rfl];exact(og r (2+j) (by rw[gP]at hj;omega)).trans (pZ r.p j)) (Nf _) (by simp[gP,qC]) rfl ?_
  refine aY ?_
  refine aN ?_
  refine aO ?_
  refine ba ?_
  refine ah (aI (o':=18) rfl rfl) ?_
  refine ah (bJ rfl) ?_
  refine ah (uF (p:=r.dP.toNat) rfl rfl (Nat.lt_of_lt_of_le r.dP.toNat_lt (by decide)) (by decide)) ?_
  refine ah (wA (n:=r.dP.toNat/256) rfl rfl) ?_
  refine ah (rN rfl rfl (by omega) (by omega)) ?_
  refine eV rfl rfl (by simp[mE,gP,qC]) rfl rfl ?_
  refine aY ?_
  refine aN ?_
  refine aO ?_
  refine ba ?_
  refine ah (aI (o':=18) rfl rfl) ?_
  refine ah (bJ rfl) ?_
  refine ah (wA (n:=r.dP.toNat) rfl rfl) ?_
  refine ah (rN rfl rfl (by omega) (by omega)) ?_
  refine eV rfl rfl (by simp[mE,gP,qC]) rfl rfl ?_
  refine aY ?_
  refine aN ?_
  refine aO ?_
  refine ba ?_
  refine ah (aE rfl) ?_
  refine ah (uD rfl) ?_
  refine lZ (ys:=eO r) rfl rfl (by decide) (fun w hw=>kO (s:=⟨false,b5,0,20,20,none⟩) Tryz.underlying38 (by decide) (A0 (KD r (by simp[qC]) (by simp[z9,h0])) (oy r) (by decide) w hw)) (by rw[oy];omega) (by rw[oy];omega) fun G7 G8 G9=> ?_
  refine ah (bn rfl) ?_
  refine aY ?_
  refine aN ?_
  refine eF ?_
  refine au (.inl rfl) (ku rfl rfl) (fun w hw=> ?_)
  exact⟨G7,rfl,G8,G9.trans (by rw[List.length_append,oy]),hw.sub (List.Sublist.cons _ (List.Sublist.cons _ (List.Sublist.refl _)))⟩
open Go.ay Go.Kb
theorem XZ(w:World)(s:Sv)(xs:List Rt)(hs:bW ax 19 (hp w) s xs):Calls Tryz.prog 39 #[s.val] w fun e w'=>e= .returned (.bool (dy xs))∧Mem w [] w':=by
 refine bh (args:=[_]) Tryz.func39 rfl Tryz.ntmps39 rfl ?_
 change Cw _ _ _ _ _ [(0,s.val)] []
 refine aO ?_
 refine ba ?_
 refine ah (bn rfl) ?_
 refine aY ?_
 refine aN ?_
 refine aO ?_
 refine aO ?_
 refine ba ?_
 refine ah (aE rfl) ?_
 refine ah (s8 rfl hs.ok hs.len) ?_
 refine ah (cz rfl rfl rfl) ?_
 refine aY ?_
 refine aN ?_
 refine av rfl (fun h0=> ?_) (fun h0=> ?_)
 ·
  simp only[decide_eq_true_eq]at h0
  refine aO ?_
  refine ba ?_
  refine ah (bn rfl) ?_
  refine aY ?_
  refine aN ?_
  refine eF ?_
  refine fq ?_
  refine au (.inl rfl) (ku rfl rfl) (fun w hw=> ?_)
  exact⟨congrArg (fun b=>Ending.returned (Value.bool b)) ((Ju (by omega)).symm),hw.sub (List.nil_sublist _)⟩
 ·
  simp only[decide_eq_false_iff_not]at h0
  refine gf ?_
  refine aN ?_
  refine aO ?_
  refine aO ?_
  refine ba ?_
  refine ah (aE rfl) ?_
  refine ah (s8 rfl hs.ok hs.len) ?_
  refine ah (aE rfl) ?_
  refine aY ?_
  refine aN ?_
  refine lE ?_
  refine ct (X:=Nat) (fun i=>[(10, .int .i64 (i:Nat)),(9, .int .i64 (xs.length:Nat)),(8,s.val),(0,s.val)]) (fun i=>[]) (fun i=>i≤xs.length∧p6 xs i=true) (fun i=>xs.length -i) 0 ⟨by omega,Jt xs⟩ (Sub.cons rfl (Sub.cons rfl (Sub.cons rfl (Sub.cons rfl (Sub.nil _))))) (fun w hw=>hw) ?_
  rintro i ⟨bl,aH⟩
  refine aO ?_
  refine ba ?_
  refine ah (cz rfl rfl rfl) ?_
  refine aY ?_
  refine aN ?_
  refine aO ?_
  refine av rfl (fun h1=> ?_) (fun h1=> ?_)
  ·
   simp only[decide_eq_true_eq]at h1
   have bx:i<xs.length:=by omega
   obtain⟨r,hr⟩:=get_some bx
   obtain⟨q,hq⟩:=get_some (xs:=xs) (i:=i -1) (by omega)
   refine gf ?_
   refine aN ?_
   refine aO ?_
   refine lE ?_
   refine aO ?_
   refine ba ?_
   refine ah (aE rfl) ?_
   refine ah (lF rfl rfl rfl hs.ok (by rw[hs.len];omega)) ?_
   refine ah (AW rfl (yE hs) hr rfl) ?_
   refine bM fun b4=> ?_
   refine ah (bn rfl) ?_
   refine qN rfl rfl ?_
   refine aY ?_
   refine aN ?_
   refine aO ?_
   refine aO ?_
   refine ba ?_
   refine ah (aI (o':=0) rfl rfl) ?_
   refine ah (jv rfl) ?_
   refine fF (wg rfl) ?_
   refine ah (iD rfl) ?_
   refine aY ?_
   refine aN ?_
   refine av rfl (fun h2=> ?_) (fun h2=> ?_)
   ·
    refine aO ?_
    refine ba ?_
    refine ah (bn rfl) ?_
    refine aY ?_
    refine aN ?_
    refine eF ?_
    refine fq ?_
    refine mB ?_
    refine fq ?_
    refine fq ?_
    refine mB ?_
    refine fq ?_
    refine au (.inl rfl) (ku rfl rfl) (fun w hw=> ?_)
    exact⟨congrArg (fun b=>Ending.returned (Value.bool b)) ((Ba bx (Jw hr (by simpa using h2))).symm),hw.sub (List.nil_sublist _)⟩
   ·
    refine gf ?_
    refine aN ?_
    refine aO ?_
    refine jw (by kernel_rfl) (by kernel_rfl) ?_
    refine bA (aE rfl) ?_
    refine bA (cz rfl rfl rfl) ?_
    refine bA (aE rfl) ?_
    refine fK rfl rfl rfl (fun hg=>(aE rfl).yl) ?_
    refine fK rfl rfl rfl (fun hg=>(aE rfl).yl) ?_
    refine fK rfl rfl rfl (fun hg=>(yx (aG hg rfl) rfl (by omega)).yl) ?_
    refine fK rfl rfl rfl (fun hg=>(lF (i:=i -1) (aG hg rfl) (aG hg rfl) (by have:=of_decide_eq_true hg;omega) hs.ok (by rw[hs.len];omega)).yl) ?_
    refine fK rfl rfl rfl (fun hg=>(aI (aG hg rfl) rfl).yl) ?_
    refine fK rfl rfl rfl (fun hg=>(IX (j:=0) (aG hg rfl) (yE hs) hq rfl (by decide)).yl) ?_
    refine fK rfl rfl rfl (fun hg=>(aI (o':=0) rfl rfl).yl) ?_
    refine fK rfl rfl rfl (fun hg=>(jv (aG hg rfl)).yl) ?_
    refine fK rfl rfl rfl (fun hg=>wg (dI (aG hg rfl) (dI (aG hg rfl) gN))) ?_
    refine fK rfl rfl rfl (fun hg=>(iD (aG hg rfl)).yl) ?_
    refine bA (uz rfl rfl rfl) ?_
    refine wi ?_
    refine aN ?_
    refine av rfl (fun h3=> ?_) (fun h3=> ?_)
    ·
     refine aO ?_
     refine ba ?_
     refine ah (bn rfl) ?_
     refine aY ?_
     refine aN ?_
     refine eF ?_
     refine mB ?_
     refine fq ?_
     refine fq ?_
     refine mB ?_
     refine fq ?_
     refine au (.inl rfl) (ku rfl rfl) (fun w hw=> ?_)
     exact⟨congrArg (fun b=>Ending.returned (Value.bool b)) ((Ba bx (by rw[Jx hr hq,h3];simp)).symm),hw.sub (List.nil_sublist _)⟩
    ·
     refine gf ?_
     refine oZ ?_
     refine aN ?_
     refine ba ?_
     refine ah (pS rfl rfl (by omega)) ?_
     refine ah (aE rfl) ?_
     refine aY ?_
     exact bI (i+1) ⟨by omega,by rw[Et,aH,Jx hr hq,h3];simpa using h2⟩ (by omega) (Sub.cons rfl (Sub.cons rfl (Sub.cons rfl (Sub.cons rfl (Sub.nil _))))) (fun w hw=>hw.sub (List.nil_sublist _))
  ·
   simp only[decide_eq_false_iff_not]at h1
   refine rP ?_
   refine lX ?_
   refine lX ?_
   refine rQ ?_
   refine aN ?_
   refine aO ?_
   refine ba ?_
   refine ah (bn rfl) ?_
   refine aY ?_
   refine aN ?_
   refine eF ?_
   refine au (.inl rfl) (ku rfl rfl) (fun w hw=> ?_)
   exact⟨congrArg (fun b=>Ending.returned (Value.bool b)) ((Jv (by omega) (by rwa [show i=xs.length by omega]at aH)).symm),hw.sub (List.nil_sublist _)⟩
theorem X0(w:World)(s t:Sv)(xs ys:List Rt)(hs:bW ax 19 (hp w) s xs)(ht:bW ax 19 (hp w) t ys)(hb:xs.length<9223372036854775807):Calls Tryz.prog 36 #[s.val,t.val] w fun e w'=>e= .returned (.bool (decide (xs=ys)))∧Mem w [] w':=by
 refine bh (args:=[_,_]) Tryz.func36 rfl Tryz.ntmps36 rfl ?_
 change Cw _ _ _ _ _ [(0,s.val),(1,t.val)] []
 refine aO ?_
 refine ba ?_
 refine ah (bn rfl) ?_
 refine aY ?_
 refine aN ?_
 refine aO ?_
 refine aO ?_
 refine ba ?_
 refine ah (aE rfl) ?_
 refine ah (s8 rfl hs.ok hs.len) ?_
 refine ah (aE rfl) ?_
 refine ah (s8 rfl ht.ok ht.len) ?_
 refine ah (cz rfl rfl rfl) ?_
 refine aY ?_
 refine aN ?_
 refine av rfl (fun h0=> ?_) (fun h0=> ?_)
 ·
  simp only[Bool.not_eq_true',decide_eq_false_iff_not]at h0
  refine aO ?_
  refine ba ?_
  refine ah (bn rfl) ?_
  refine aY ?_
  refine aN ?_
  refine eF ?_
  refine fq ?_
  refine au (.inl rfl) (ku rfl rfl) (fun w hw=> ?_)
  exact⟨congrArg (fun b=>Ending.returned (Value.bool b)) ((decide_eq_false (fun e=>h0 (by rw[e]))).symm),hw.sub (List.nil_sublist _)⟩
 ·
  simp only[Bool.not_eq_false',decide_eq_true_eq]at h0
  refine gf ?_
  refine aN ?_
  refine aO ?_
  refine aO ?_
  refine ba ?_
  refine ah (bn rfl) ?_
  refine aY ?_
  refine aN ?_
  refine lE ?_
  refine ct (X:=Nat) (fun i=>[(5, .int .i64 (i:Nat)),(0,s.val),(1,t.val)]) (fun i=>[]) (fun i=>i≤xs.length∧ ∀j,j<i→xs[j]? =ys[j]?) (fun i=>xs.length -i) 0 ⟨by omega,fun j h=>by omega⟩ (Sub.cons rfl (Sub.cons rfl (Sub.cons rfl (Sub.nil _)))) (fun w hw=>hw) ?_
  rintro i ⟨bl,aH⟩
  refine aO ?_
  refine aO ?_
  refine ba ?_
  refine ah (aE rfl) ?_
  refine ah (aE rfl) ?_
  refine ah (s8 rfl hs.ok hs.len) ?_
  refine ah (cz rfl rfl rfl) ?_
  refine aY ?_
  refine aN ?_
  refine av rfl (fun h1=> ?_) (fun h1=> ?_)
  ·
   simp only[decide_eq_true_eq]at h1
   obtain⟨r,hr⟩:=get_some (xs:=xs) (i:=i) (by omega)
   obtain⟨q,hq⟩:=get_some (xs:=ys) (i:=i) (by omega)
   refine gf ?_
   refine aN ?_
   refine aO ?_
   refine lE ?_
   refine aO ?_
   refine jw (by kernel_rfl) (by kernel_rfl) ?_
   refine bA (aE rfl) ?_
   refine bA (aE rfl) ?_
   refine bA (lF rfl rfl rfl hs.ok (by rw[hs.len];omega)) ?_
   refine bA (AW rfl (yE hs) hr rfl) ?_
   refine bA (aE rfl) ?_
   refine bA (aE rfl) ?_
   refine bA (lF rfl rfl rfl ht.ok (by rw[ht.len];omega)) ?_
   refine bA (AW rfl (yE ht) hq rfl) ?_
   refine bA (D7 rfl rfl) ?_
   refine wi ?_
   refine aN ?_
   refine av rfl (fun h2=> ?_) (fun h2=> ?_)
   ·
    refine aO ?_
    refine ba ?_
    refine ah (bn rfl) ?_
    refine aY ?_
    refine aN ?_
    refine eF ?_
    refine mB ?_
    refine fq ?_
    refine fq ?_
    refine mB ?_
    refine fq ?_
    refine au (.inl rfl) (ku rfl rfl) (fun w hw=> ?_)
    exact⟨congrArg (fun b=>Ending.returned (Value.bool b)) ((decide_eq_false (Re hr hq (by simpa using h2))).symm),hw.sub (List.nil_sublist _)⟩
   ·
    refine gf ?_
    refine oZ ?_
    refine aN ?_
    refine ba ?_
    refine ah (aE rfl) ?_
    refine ah (pS rfl rfl (by omega)) ?_
    refine ah (bn rfl) ?_
    refine aY ?_
    exact bI (i+1) ⟨by omega,fun j hj=>if e:j=i then(by subst e;rw[hr,hq];simpa using h2)else aH j (by omega)⟩ (by omega) (Sub.cons rfl (Sub.cons rfl (Sub.cons rfl (Sub.nil _)))) (fun w hw=>hw)
  ·
   simp only[decide_eq_false_iff_not]at h1
   refine rP ?_
   refine lX ?_
   refine lX ?_
   refine rQ ?_
   refine aN ?_
   refine aO ?_
   refine ba ?_
   refine ah (bn rfl) ?_
   refine aY ?_
   refine aN ?_
   refine eF ?_
   refine au (.inl rfl) (ku rfl rfl) (fun w hw=> ?_)
   exact⟨congrArg (fun b=>Ending.returned (Value.bool b)) ((decide_eq_true (Rf (by omega) (fun j hj=>aH j (by omega)))).symm),hw.sub (List.nil_sublist _)⟩
open Go.ay Go.Kb
instance aix{w0:World}{L:List ak}{s:Sv}{ss:List Rt}[h:c8 w0 L ax 19 s ss]:cR Tryz.prog 39 w0 L [s.val] (.bool (dy ss)) True:=⟨fun _ w hw=>XZ w s ss (h.h w hw)⟩
instance aiy{w0:World}{L:List ak}{s t:Sv}{ss ts:List Rt}[h:c8 w0 L ax 19 s ss][h2:c8 w0 L ax 19 t ts]:cR Tryz.prog 36 w0 L [s.val,t.val] (.bool (decide (ss=ts))) (ss.length<9223372036854775807):=⟨fun hp w hw=>X0 w s t ss ts (h.h w hw) (h2.h w hw) hp⟩
open Go.ay Go.Kb
instance:bp c5 18:=⟨od,fun p=>(inferInstance:gq (c5 p) 18).one⟩
theorem X1(w:World)(b2 b3:Nat)(s:Sv)(ss:List Rt)(q:cU)(j:Nat)(h2:bW qS 1 (hp w) ⟨false,b2,0,1,1,none⟩ [s])(h3:bW c5 18 (hp w) ⟨false,b3,0,1,1,none⟩ [q])(hs:bW ax 19 (hp w) s ss)(hj:j<ss.length):Calls Tryz.prog 118 #[.int .i64 (j:Nat), .pointer (some ⟨b2,0,none⟩), .pointer (some ⟨b3,0,none⟩)] w fun e w'=>e= .returned (.bool (behind ss q j))∧Mem w [] w':=by
 have g2:Gv w ⟨false,b2,0,1,1,none⟩ qS 1 [s]:=⟨h2⟩
 have g3:Gv w ⟨false,b3,0,1,1,none⟩ c5 18 [q]:=⟨h3⟩
 have gs:Gv w s ax 19 ss:=⟨hs⟩
 refine bh (args:=[_,_,_]) Tryz.func118 rfl Tryz.ntmps118 rfl ?_
 change Cw _ _ _ _ _ [(0, .int .i64 (j:Nat)),(1, .pointer (some ⟨b2,0,none⟩)),(2, .pointer (some ⟨b3,0,none⟩))] []
 refine Gc ?_
 refine Gs ?_
 refine Gc ?_
 refine jw (by kernel_rfl) (by kernel_rfl) ?_
 refine bA (bO (s:=⟨false,b2,0,1,1,none⟩) (enc:=qS) (c:=1) (xs:=[s]) (a:=s) (j:=0) (v:=s.val) rfl 0 rfl rfl (by decide)) ?_
 refine Gq ?_
 obtain⟨r,hr⟩:=get_some (xs:=ss) (i:=j) (by omega)
 refine bA (bo rfl rfl j rfl (by omega)) ?_
 refine bA (aI rfl rfl) ?_
 refine bA (I8 (j:=0) rfl j hr rfl (by decide)) ?_
 refine bA (jb (s:=⟨false,b3,0,1,1,none⟩) (enc:=c5) (c:=18) (xs:=[q]) (a:=q) rfl 0 rfl rfl) ?_
 refine uH (cJ rfl trivial) ?_
 iterate 2 refine Gq ?_
 refine Gc ?_
 refine au (.inl rfl) (aQ rfl (aq rfl)) (fun w1 hw=> ?_)
 exact⟨congrArg (fun b=>Ending.returned (Value.bool b)) ((by simp only[behind,hr])),ai.mem hw⟩
theorem X2(w:World)(n:Nat)(p:Nat→Bool)(f:FuncId)[hf:aR Tryz.prog f](jW:Array Value)(hF: ∀w',Mem w [] w'→ ∀j:Nat,j<n→Calls Tryz.prog f ([Value.int .i64 (j:Nat)]++jW.toList).toArray w' fun e nW=>e= .returned (.bool (p j))∧Mem w' [] nW)(hn:n≤1000000000):Calls Tryz.prog 117 #[.int .i64 (n:Nat), .func (.func f) #[] jW] w fun e w'=>e= .returned (.int .i64 (bs p n:Nat))∧Mem w [] w':=by
 refine bh (args:=[_,_]) Tryz.func117 rfl Tryz.ntmps117 rfl ?_
 change Cw _ _ _ _ _ [(0, .int .i64 (n:Nat)),(1, .func (.func f) #[] jW)] []
 refine Gc ?_
 refine Gs ?_
 refine Gc ?_
 iterate 3 refine Gs ?_
 refine Gc ?_
 refine ct (X:=Nat×Nat) (fun zz=>[(5, .int .i64 (zz.1:Nat)),(6, .int .i64 (zz.2:Nat)),(1, .func (.func f) #[] jW)]) (fun zz=>[]) (fun zz=>zz.1≤zz.2∧zz.2≤n∧kB p (n+1) zz.1 zz.2=bs p n) (fun zz=>zz.2 -zz.1) (0,n) ⟨Nat.zero_le _,Nat.le_refl _,rfl⟩ (Sub.cons rfl (Sub.cons rfl (Sub.cons rfl (Sub.nil _)))) (fun w hw=>ai.mem hw) ?_
 rintro⟨i,j⟩ ⟨bl,aH,bB⟩
 dsimp only
 simp only at bl aH bB
 refine Gc ?_
 iterate 3 refine Gs ?_
 refine Gc ?_
 refine av rfl (fun h0=> ?_) (fun h0=> ?_)
 ·
  replace h0:=bz h0
  refine Gc ?_
  iterate 3 refine Gs ?_
  refine ah (pT (n:=i+j) rfl (by simp only[nb];omega)) ?_
  refine ah (uF (p:=i+j) rfl rfl (by simp only[nb];omega) (by omega)) ?_
  refine ah (pT (n:=(i+j)/2^1) rfl (by simp only[nb];omega)) ?_
  refine Gs ?_
  refine Gc ?_
  iterate 2 refine Gs ?_
  refine fF (Cv rfl rfl (fun w1 lW=>hF w1 lW ((i+j)/2) (by omega))) ?_
  refine Gs ?_
  refine Gc ?_
  refine av rfl (fun h1=> ?_) (fun h1=> ?_)
  ·
   replace h1:=bz h1
   refine Gi ?_
   iterate 3 refine Gs ?_
   iterate 2 refine Gi ?_
   exact bI (x:=(i,j)) ((i+j)/2+1,j) ⟨by first|omega|(simp only[];omega),aH,by rw[←bB,LM (show i<j by first|omega|(simp only[];omega)) (by first|omega|(simp only[];omega)),if_neg (by rw[h1];simp)]⟩ (by simp only;omega) (Sub.cons rfl (Sub.cons rfl (Sub.cons rfl (Sub.nil _)))) (fun w hw=>ai.mem hw)
  ·
   replace h1:=bz h1
   refine Gi ?_
   iterate 2 refine Gs ?_
   iterate 2 refine Gi ?_
   exact bI (x:=(i,j)) (i,(i+j)/2) ⟨by first|omega|(simp only[];omega),by first|omega|(simp only[];omega),by rw[←bB,LM (show i<j by first|omega|(simp only[];omega)) (by first|omega|(simp only[];omega)),if_pos h1]⟩ (by simp only;omega) (Sub.cons rfl (Sub.cons rfl (Sub.cons rfl (Sub.nil _)))) (fun w hw=>ai.mem hw)
 ·
  replace h0:=bz h0
  refine Gc ?_
  iterate 2 refine Gs ?_
  refine Gc ?_
  refine au (.inl rfl) (aQ rfl (aq rfl)) (fun w1 hw=> ?_)
  exact⟨congrArg (fun b=>Ending.returned (Value.int .i64 b)) ((by rw[←bB,T3 (by omega) (by omega)])),ai.mem hw⟩
theorem X3(w:World)(t:Sv)(ts:List Rt)(p:cU)(ht:bW ax 19 (hp w) t ts)(bf:ts.length≤1000000):Calls Tryz.prog 80 #[t.val, .agg (c5 p)] w fun e w'=>e= .returned (.tuple #[.int .i64 ((cP ts p:Nat):Int), .bool (kC ts p)])∧Mem w [] w':=by
 have CB:Gv w t ax 19 ts:=⟨ht⟩
 refine bh (args:=[_,_]) Tryz.func80 rfl Tryz.ntmps80 rfl ?_
 change Cw _ _ _ _ _ [(0,t.val),(1, .agg (c5 p))] []
 refine Gc ?_
 refine Eb rfl fun b2=> ?_
 refine cA rfl fun b3=> ?_
 iterate 2 refine Gs ?_
 refine Gc ?_
 iterate 2 refine Gs ?_
 refine ah (Gj (vs:=[.pointer (some ⟨b2,0,none⟩), .pointer (some ⟨b3,0,none⟩)]) rfl) ?_
 refine fF (AQ (v:= .int .i64 (cP ts p:Nat)) rfl (fun w1 lW=>X2 (f:=118) w1 ts.length (behind ts p) #[.pointer (some ⟨b2,0,none⟩), .pointer (some ⟨b3,0,none⟩)] (fun w2 eR j hj=>X1 w2 b2 b3 t ts p j ((A0 (b:=b2) (cs:=t.val.cells) (enc:=qS) (xs:=[t]) (n:=1) (by rw[Sv.jc];rfl) rfl (by decide) w1 lW).mono eR.below) ((A0 (b:=b3) (cs:=c5 p) (enc:=c5) (c:=18) (xs:=[p]) (n:=1) (by simp[aJ]) rfl (by decide) w1 lW).mono eR.below) (((inferInstance:Hd w _ t ax 19 ts).h w1 lW).mono eR.below) hj) (by omega))) ?_
 refine Gs ?_
 refine Gc ?_
 refine jw (by kernel_rfl) (by kernel_rfl) ?_
 iterate 6 refine Gq ?_
 refine fK rfl rfl rfl (fun hg=>(Ry.yl (bJ rfl))) ?_
 refine Gh ?_
 refine fK rfl rfl rfl (fun hg=>(Ry.yl (bo (aG hg rfl) (aG hg rfl) (cP ts p) rfl (by simp only[Z0,Z1,Z2,Z3,Z4,Z5,Z6,Z7,Z8,Z9]at hg;omega)))) ?_
 refine fK rfl rfl rfl (fun hg=>(Ry.yl (aI (aG hg rfl) rfl))) ?_
 refine fK rfl rfl rfl (fun hg=>(Ry.yl (I8 (j:=0) (aG hg rfl) (cP ts p) (n9 (xs:=ts) (i:=(cP ts p)) (d:=jx) (by simp only[Z0,Z1,Z2,Z3,Z4,Z5,Z6,Z7,Z8,Z9]at hg;omega)) rfl (by decide)))) ?_
 refine fK rfl rfl rfl (fun hg=>(Ry.yl (gu rfl))) ?_
 refine fK rfl rfl rfl (fun hg=>(Ry.yl (IL (aG hg rfl) (aG hg rfl)))) ?_
 iterate 3 refine Gq ?_
 refine Gc ?_
 refine au (.inl rfl) (bq rfl (aq rfl) (aq rfl)) (fun w1 hw=> ?_)
 exact⟨(by rw[T5]),ai.mem hw⟩
instance aiz{w0:World}{L:List ak}{t:Sv}{ts:List Rt}{p:cU}[ht:c8 w0 L ax 19 t ts]:cR Tryz.prog 80 w0 L [t.val, .agg (c5 p)] (.tuple #[.int .i64 ((cP ts p:Nat):Int), .bool (kC ts p)]) (ts.length≤1000000):=⟨fun hp w hw=>X3 w t ts p (ht.h w hw) hp⟩
theorem X4(w:World)(t:Sv)(ts:List Rt)(k:Key)(bits:Int)(ht:bW ax 19 (hp w) t ts):Calls Tryz.prog 37 #[t.val, .agg (cn k), .int .i64 bits] w fun e w'=>e= .returned (.tuple #[.agg (ax (rn ts k bits)), .int .i64 (rp ts k bits)])∧Mem w [] w':=by
 have CB:Gv w t ax 19 ts:=⟨ht⟩
 refine bh (args:=[_,_,_]) Tryz.func37 rfl Tryz.ntmps37 rfl ?_
 change Cw _ _ _ _ _ [(0,t.val),(1, .agg (cn k)),(2, .int .i64 bits)] []
 refine Gc ?_
 refine cA rfl fun b4=> ?_
 refine bM fun b6=> ?_
 refine Gs ?_
 refine Gc ?_
 iterate 4 refine Gs ?_
 iterate 2 refine Gg ?_
 refine bS rfl rfl rfl (fun hg=>(Ry.yl (gu rfl))) ?_
 refine bS rfl rfl rfl (fun hg=>(Ry.yl (sV (yz (aG hg rfl) (yz (aG hg rfl) (yz (aG hg rfl) IM)))))) ?_
 refine bS rfl rfl rfl (fun hg=>cJ (dI (aG hg rfl) gN) trivial) ?_
 refine bS rfl rfl rfl (fun hg=>(Ry.yl (iD (aG hg rfl)))) ?_
 refine Gs ?_
 refine Gc ?_
 refine av rfl (fun h0=> ?_) (fun h0=> ?_)
 ·
  replace h0:=bz h0
  have hk:xo ts k bits=false:=by rw[xo];rcases h0 with h|h;rw[h];rfl;rw[h];simp
  refine Gc ?_
  refine ah (sV rfl) ?_
  iterate 2 refine Gs ?_
  refine Gc ?_
  refine au (.inl rfl) (bq rfl (ck rfl) (aq rfl)) (fun w1 hw=> ?_)
  exact⟨(by rw[rn,if_neg (by rw[hk];simp),rp,if_neg (by rw[hk];simp)]),ai.mem hw⟩
 ·
  replace h0:=bz h0
  have hr:dy ts=true:=by simpa using h0.1
  have hk:xo ts k bits=true:=by rw[xo,hr];simpa using h0.2
  have hlen:=wO hr
  have hb:bits=32∨bits=128:=((A9 _).1 (by simpa using h0.2:cZ ⟨bits,bits,k⟩=true)).1
  refine Gc ?_
  iterate 2 refine Gs ?_
  refine Gc ?_
  refine ct (X:=Int) (fun zz=>[(8, .int .i64 zz),(0,t.val),(2, .int .i64 bits),(4, .pointer (some ⟨b4,0,none⟩)),(6, .pointer (some ⟨b6,0,none⟩))]) (fun zz=>[ar b6 (ax jx) 68,ar b4 (cn k) 56]) (fun zz=> -1≤zz∧zz≤bits∧(zz<0→rl ts k bits bits.toNat=none)∧(∀m:Nat,zz=m→rl ts k bits bits.toNat=rl ts k bits m)) (fun zz=>(zz+1).toNat) bits ⟨by first|omega|(simp only[];omega),Int.le_refl _,fun h=>by first|omega|(simp only[];omega),fun m h=>by rw[h];rfl⟩ (Sub.cons rfl (Sub.cons rfl (Sub.cons rfl (Sub.cons rfl (Sub.cons rfl (Sub.nil _)))))) (fun w hw=>ai.mem hw) ?_
  rintro n ⟨tX,xB,tU,Ha⟩
  refine Gc ?_
  iterate 2 refine Gs ?_
  refine Gc ?_
  refine av rfl (fun h1=> ?_) (fun h1=> ?_)
  ·
   replace h1:=bz h1
   obtain⟨m,rfl⟩: ∃m:Nat,n=(m:Int):=⟨n.toNat,by omega⟩
   refine Gc ?_
   iterate 5 refine Gs ?_
   refine ah (sV rfl) ?_
   refine bM fun b9=> ?_
   refine Gs ?_
   refine Gc ?_
   iterate 2 refine Gs ?_
   refine fF (cJ rfl (by omega)) ?_
   refine Gs ?_
   refine ah (aU (v:= .int .i64 ((cP ts (⟨bits,((m:Nat):Int),(ib k ((m:Nat):Int))⟩:cU):Nat):Int)) rfl rfl) ?_
   refine ah (aU (v:= .bool (kC ts (⟨bits,((m:Nat):Int),(ib k ((m:Nat):Int))⟩:cU))) rfl rfl) ?_
   iterate 2 refine Gs ?_
   refine Gc ?_
   refine Gs ?_
   refine Gc ?_
   refine av rfl (fun h2=> ?_) (fun h2=> ?_)
   ·
    replace h2:=bz h2
    have CX: ∃r,ts[cP ts ⟨bits,m,ib k m⟩]? =some r∧xn ts k bits m=some r:=by obtain⟨r,_,h8,_⟩:=zv h2;exact⟨r,h8,by rw[xn,if_pos h2,h8]⟩
    obtain⟨r,gJ,zM⟩:=CX
    have Hb:rl ts k bits bits.toNat=some r:=by rw[Ha m rfl];cases m with|zero=>exact zM|succ m=>rw[rl,zM]
    refine Gc ?_
    iterate 2 refine Gs ?_
    refine ah (bo rfl rfl (cP ts ⟨bits,m,ib k m⟩) (by omega) (List.getElem?_eq_some_iff.1 gJ).1) ?_
    refine ah (jb rfl (cP ts ⟨bits,m,ib k m⟩) gJ rfl) ?_
    iterate 2 refine Gs ?_
    refine Gc ?_
    refine au (.inl rfl) (bq rfl (ck rfl) (aq rfl)) (fun w1 hw=> ?_)
    exact⟨(by rw[rn,if_pos hk,rp,if_pos hk,Hb];rfl),ai.mem hw⟩
   ·
    replace h2:=bz h2
    have CX:xn ts k bits m=none:=by rw[xn,if_neg (by rw[h2];simp)]
    refine Gc ?_
    iterate 3 refine Gs ?_
    refine Gi ?_
    exact bI (x:=((m:Nat):Int)) ((m:Int) -1) ⟨by first|omega|(simp only[];omega),by first|omega|(simp only[];omega),fun h=>by obtain rfl:m=0:=(by first|omega|(simp only[];omega));rw[Ha 0 rfl];exact CX,fun m2 h=>by obtain rfl:m=m2+1:=(by first|omega|(simp only[];omega));rw[Ha _ rfl,rl,CX]⟩ (by first|omega|(simp only[];omega)) (Sub.cons rfl (Sub.cons rfl (Sub.cons rfl (Sub.cons rfl (Sub.cons rfl (Sub.nil _)))))) (fun w hw=>ai.mem hw)
  ·
   replace h1:=bz h1
   have rB:rl ts k bits bits.toNat=none:=tU (by omega)
   refine Gc ?_
   refine ah (sV rfl) ?_
   iterate 2 refine Gs ?_
   refine Gc ?_
   refine au (.inl rfl) (bq rfl (ck rfl) (aq rfl)) (fun w1 hw=> ?_)
   exact⟨(by rw[rn,if_pos hk,rp,if_pos hk,rB];rfl),ai.mem hw⟩
instance aiA{w0:World}{L:List ak}{t:Sv}{ts:List Rt}{k:Key}{bits:Int}[ht:c8 w0 L ax 19 t ts]:cR Tryz.prog 37 w0 L [t.val, .agg (cn k), .int .i64 bits] (.tuple #[.agg (ax (rn ts k bits)), .int .i64 (rp ts k bits)]) (True):=⟨fun hp w hw=>X4 w t ts k bits (ht.h w hw)⟩
open Go.ay Go.Kb
theorem X5(w:World)(s:Sv)(ss:List Rt)(hs:bW ax 19 (hp w) s ss)(bf:ss.length≤1000000):Calls Tryz.prog 73 #[s.val] w fun e w'=> ∃zz:Sv,e= .returned (zz.val)∧(True)∧Mem w [own ax 19 zz ss] w':=by
 have vz:Gv w s ax 19 ss:=⟨hs⟩
 refine bh (args:=[_]) Tryz.func73 rfl Tryz.ntmps73 rfl ?_
 change Cw _ _ _ _ _ [(0,s.val)] []
 refine Gc ?_
 refine Gs ?_
 refine Gc ?_
 refine Gs ?_
 refine ah (rS Tryz.underlying52 rfl) ?_
 refine Gc ?_
 refine av rfl (fun h0=> ?_) (fun h0=> ?_)
 ·
  replace h0:=bz h0
  have e0:ss=[]:=List.length_eq_zero_iff.1 (by have:=hs.ok.nil h0;have:=hs.len;omega)
  refine Gc ?_
  refine Gs ?_
  refine Gc ?_
  refine au (.inl rfl) (aQ rfl (aq rfl)) (fun w1 hw=> ?_)
  exact⟨Sv.none,rfl,trivial,by rw[e0];exact(ai.mem hw:Mem w [] _).dQ ax 19⟩
 ·
  replace h0:=bz h0
  refine Gc ?_
  refine ti ax fun b5=> ?_
  refine Gs ?_
  refine lZ (s:=⟨false,b5,0,0,0,none⟩) (ys:=ss) rfl rfl (by decide) (fun w hw=>kO (s:=s) Tryz.underlying52 (by decide) ((inferInstance:Hd _ _ s ax 19 ss).h w hw)) (by simp only[List.length_append,List.length_cons,List.length_nil];omega) (by simp only[List.length_append,List.length_cons,List.length_nil];omega) fun s7 vA tL=> ?_
  refine Gs ?_
  refine Gc ?_
  refine au (.inl rfl) (aQ rfl (aq rfl)) (fun w1 hw=> ?_)
  exact⟨s7,rfl,trivial,by simpa using hw⟩
instance aiB{w0:World}{L:List ak}{s:Sv}{ss:List Rt}[hs:c8 w0 L ax 19 s ss]:cw Tryz.prog 73 w0 L [s.val] (Sv) (fun zz=>zz.val) (fun zz=>own ax 19 zz ss::L) (fun zz=>True) (ss.length≤1000000):=⟨fun hp w hw=>(X5 w s ss (hs.h w hw) hp).mono fun e w' ⟨x,h1,h2,h3⟩=>⟨x,h1,h2,hw.call h3⟩⟩
open Go.ay Go.Kb
instance:J0 Tryz.prog 141 52 4:=⟨⟨Tryz.f141,Tryz.func141,by kernel_rfl,by kernel_rfl,by kernel_rfl,by kernel_rfl⟩⟩
theorem X6(w0 w:World)(L:List ak)(s:Sv)(ss:List Rt)(n:Nat)(m:Nat)(hw:Mem w0 (own ax 19 s ss::L) w)(bf:n≤m∧m≤ss.length):Calls Tryz.prog 111 #[s.val, .int .i64 (n:Nat), .int .i64 (m:Nat)] w fun e w'=> ∃zz:Sv,e= .returned (zz.val)∧(True)∧Mem w0 (own ax 19 zz (ss.take n++ss.drop m)::L) w':=by
 obtain⟨lq,kg⟩:=bf
 refine kv (args:=[_,_,_]) Tryz.func111 rfl Tryz.ntmps111 rfl hw ?_
 change Cw _ _ _ _ _ [(0,s.val),(1, .int .i64 (n:Nat)),(2, .int .i64 (m:Nat))] (own ax 19 s ss::L)
 refine Gc ?_
 refine Gs ?_
 refine Gc ?_
 iterate 5 refine Gs ?_
 refine ah (JY (l:=n) (h:=m) (m:=ss.length) rfl rfl rfl rfl rfl rfl rfl (by omega) (by omega) (by omega)) ?_
 refine Gc ?_
 iterate 3 refine Gs ?_
 refine Gc ?_
 refine av rfl (fun h0=> ?_) (fun h0=> ?_)
 ·
  replace h0:=bz h0
  obtain rfl:n=m:=by omega
  refine Gc ?_
  iterate 2 refine Gs ?_
  refine Gc ?_
  refine au (.inl rfl) (aQ rfl (aq rfl)) (fun w1 hw=> ?_)
  exact⟨s,rfl,trivial,by rw[List.take_append_drop];exact hw⟩
 ·
  replace h0:=bz h0
  iterate 3 refine Gi ?_
  refine QO s fun aiC=> ?_
  have bx:n<m:=by omega
  refine JU (s:=s) inferInstance (by decide) (by omega) fun pre mid T bE uL mK gC bR nz=> ?_
  have hle:=bR.le
  have jQ:=bR.bd
  have Ng:(aJ ax (ss.drop m)).length=(ss.length -m)*19:=by rw[gX,List.length_drop]
  have Nh:(aJ ax (ss.take n)).length=n*19:=by rw[gX,List.length_take];congr 1;omega
  have sm:(aJ ax ss).length=ss.length*19:=gX ss
  have X7:aJ ax ss=aJ ax (ss.take m)++aJ ax (ss.drop m):=by rw[←u5,List.take_append_drop]
  have hlm:(aJ ax (ss.take m)).length=m*19:=by rw[gX,List.length_take];congr 1;omega
  obtain⟨X,hX⟩: ∃X,aJ ax ss=aJ ax (ss.take n)++X:=⟨aJ ax (ss.drop n),by rw[←u5,List.take_append_drop]⟩
  have hXl:n*19+X.length=ss.length*19:=by rw[←sm,hX,List.length_append,Nh]
  obtain⟨r1,gJ⟩: ∃r:Sv,r=(⟨false,s.b,s.o,n+(ss.length -m),s.cap,none⟩:Sv):=⟨_,rfl⟩
  refine Gi ?_
  refine Gs ?_
  refine ah (s8 rfl bR nz) ?_
  refine Gs ?_
  iterate 3 refine Gi ?_
  refine uI 6 [] (by kernel_rfl) (by kernel_rfl) ?_
  simp only[List.take_succ_cons,List.take_zero]
  iterate 2 refine Gq ?_
  have Mx:Rg 0 n ss.length:=⟨by omega⟩
  refine bA (s9 (h:=n) rfl rfl rfl bR (by omega)) ?_
  iterate 2 refine Gq ?_
  have Wn:Rg m ss.length ss.length:=⟨by omega⟩
  refine bA (qQ (l:=m) (n:=ss.length) rfl rfl rfl bR nz (by omega)) ?_
  refine sW ?_
  refine sX ?_
  simp only[List.drop_succ_cons,List.drop_zero]
  refine RX (D:=s.sub 19 0 n) (S:=s.sub 19 m ss.length) (b:=s.b) (o:=s.o+n*19) (n:=ss.length -m) (vs:=aJ ax (ss.drop m)) (R:=r1) (cs':=(pre++(aJ ax (ss.take n)++(aJ ax (ss.drop m)++(X++mid).drop (aJ ax (ss.drop m)).length))).toArray) rfl rfl mK gC rfl (by rw[Sv.y6];rfl) mK gC rfl rfl Ng (by show n -0+_≤s.cap -0;omega) (fun w hw j v hj=>by
   have iZ:=(List.getElem?_eq_some_iff.1 hj).1
   rw[Ng]at iZ
   rw[Sv.tp (by omega)]
   show w.cell? ⟨s.b,_,none⟩=_
   rw[hw.cell (inferInstance:Has _ s.b _ _ _).h,List.getElem?_toArray,List.getElem?_append_right (by omega),List.getElem?_append_left (by omega),X7,List.getElem?_append_right (by omega),←hj]
   congr 1;omega) (ta _) (by simp only[List.size_toArray,List.length_append];omega) (by rw[hX,List.append_assoc,←List.append_assoc pre,wM (by rw[List.length_append];omega),List.append_assoc]) (by rw[gJ,Sv.y6];rfl) ?_
  refine Gs ?_
  refine Gc ?_
  iterate 2 refine Gs ?_
  refine ah (s8 (n:=n+(ss.length -m)) (s:=r1) rfl (by rw[gJ];exact⟨(fun h=>by cases h),by simp only;omega,by simp only;omega,fun _=>rfl⟩) (by rw[gJ])) ?_
  refine Gs ?_
  refine ah (AX (s:=r1) (l:=n+(ss.length -m)) (h:=ss.length) rfl rfl rfl rfl rfl (by rw[gJ];exact⟨(fun h=>by cases h),by simp only;omega,by simp only;omega,fun _=>rfl⟩) (by omega) (by rw[gJ];simp only;omega)) ?_
  refine RZ (D:=r1.sub 19 (n+(ss.length -m)) ss.length) (b:=s.b) (o:=s.o+(n+(ss.length -m))*19) (n:=m -n) (z:= .agg (ax jx)) rfl (by rw[gJ];rfl) (by rw[gJ];rfl) (by rw[gJ];rfl) (by rw[gJ,Sv.tp (by show _<s.cap;omega)]) (by show ss.length -(n+(ss.length -m))=_;omega) (by omega) (show(ax jx).all (·.oneCell')=true from(inferInstance:bp ax 19).one jx) (by simp only[List.size_toArray,List.length_append,List.length_drop];omega) fun Z hZ=> ?_
  refine Gc ?_
  iterate 2 refine Gs ?_
  refine Gc ?_
  refine au (.inl rfl) (aQ rfl (aq rfl)) (fun w1 hw=> ?_)
  refine⟨r1,rfl,trivial,?_⟩
  rw[show(pre++(aJ ax (ss.take n)++(aJ ax (ss.drop m)++(X++mid).drop (aJ ax (ss.drop m)).length)))=(pre++(aJ ax (ss.take n)++aJ ax (ss.drop m)))++(X++mid).drop (aJ ax (ss.drop m)).length from by simp only[List.append_assoc],wM (A:=pre++(aJ ax (ss.take n)++aJ ax (ss.drop m))) (by simp only[List.length_append];omega),←u5,List.append_assoc pre]at hw
  have eR:=EU (enc:=ax) (i:=0) (xs:=ss.take n++ss.drop m) (pre:=pre) hw rfl r1 (by rw[gJ];exact⟨(fun h=>by cases h),by simp only;omega,by simp only;omega,fun _=>rfl⟩) (by rw[gJ]) (by rw[gJ]) (by rw[gJ]) (by rw[gJ];exact bE.symm) (by rw[gJ];simp only[List.length_append,List.length_take,List.length_drop];omega) (by rw[gJ];simp only[List.length_append,List.length_take,List.length_drop];omega)
  exact eR
instance aiD{w0:World}{L R:List ak}{i:Nat}{s:Sv}{ss:List Rt}{n:Nat}{m:Nat}[q:fL L s ax 19 ss i][d:dx L i R]:cw Tryz.prog 111 w0 L [s.val, .int .i64 (n:Nat), .int .i64 (m:Nat)] (Sv) (fun zz=>zz.val) (fun zz=>own ax 19 zz (ss.take n++ss.drop m)::R) (fun zz=>True) (n≤m∧m≤ss.length):=⟨fun hp w hw=>X6 w0 w R s ss n m (Gf q.h d.h hw) hp⟩
theorem X8(w0 w:World)(L:List ak)(s:Sv)(ss:List Rt)(v:Sv)(r:Rt)(n:Nat)(hw:Mem w0 (own ax 19 s ss::own ax 19 v [r]::L) w)(bf:n≤ss.length∧ss.length≤1000000):Calls Tryz.prog 112 #[s.val, .int .i64 (n:Nat),v.val] w fun e w'=> ∃zz:Sv,e= .returned (zz.val)∧(True)∧Mem w0 (own ax 19 zz (ss.take n++r::ss.drop n)::L) w':=by
 obtain⟨lq,kg⟩:=bf
 refine kv (args:=[_,_,_]) Tryz.func112 rfl Tryz.ntmps112 rfl hw ?_
 change Cw _ _ _ _ _ [(0,s.val),(1, .int .i64 (n:Nat)),(2,v.val)] (own ax 19 s ss::own ax 19 v [r]::L)
 refine Gc ?_
 refine Gs ?_
 refine Gc ?_
 iterate 2 refine Gs ?_
 have X9:Rg n ss.length ss.length:=⟨by omega⟩
 refine ah (A2 rfl rfl n rfl X9.h.1) ?_
 refine Gc ?_
 refine Gs ?_
 refine ah (Ry.to (v':= .int .i64 (1:Nat)) (lb rfl) rfl) ?_
 refine Gs ?_
 refine Gc ?_
 iterate 2 refine Gs ?_
 refine Gc ?_
 refine av rfl (fun h0=> ?_) (fun h0=> ?_)
 ·
  replace h0:=bz h0
  exfalso;omega
 ·
  replace h0:=bz h0
  refine Gc ?_
  iterate 3 refine Gs ?_
  refine Gc ?_
  iterate 3 refine Gs ?_
  refine Gc ?_
  refine av rfl (fun h1=> ?_) (fun h1=> ?_)
  ·
   replace h1:=bz h1
   refine Gc ?_
   iterate 2 refine Gs ?_
   refine lZ (s:=s) (ys:=[r]) rfl rfl (by decide) (fun w hw=>kO (s:=v) Tryz.underlying52 (by decide) ((inferInstance:Hd _ _ v ax 19 [r]).h w hw)) (by simp only[List.length_cons,List.length_nil];omega) (by simp only[List.length_cons,List.length_nil];omega) fun Ya aiE aiF=> ?_
   refine Gs ?_
   refine Gc ?_
   refine au (.inl rfl) (aQ rfl (aq rfl)) (fun w1 hw=> ?_)
   exact⟨Ya,rfl,trivial,by rw[List.take_of_length_le (by omega),List.drop_of_length_le (by omega)];exact ai.mem hw⟩
  ·
   replace h1:=bz h1
   iterate 4 refine Gi ?_
   have bx:n<ss.length:=by omega
   refine Br (s:=v) (enc:=ax) inferInstance (by simp) fun Ni wa aiG vH=> ?_
   have Nj:v.len=1:=vH
   refine JU (s:=s) inferInstance (by decide) (by omega) fun pre mid T bE uL mK gC bR nz=> ?_
   have hle:=bR.le
   have jQ:=bR.bd
   obtain⟨x,hx⟩:=get_some (xs:=ss) (i:=n) (by omega)
   have hA:(aJ ax (ss.take n)).length=n*19:=by rw[gX,List.length_take];congr 1;omega
   have hB:(aJ ax (ss.drop n)).length=(ss.length -n)*19:=by rw[gX,List.length_drop]
   have nS:(aJ ax [r]).length=19:=by rw[gX];rfl
   have Aa:(aJ ax [x]).length=19:=by rw[gX];rfl
   have CY:aJ ax ss=(aJ ax (ss.take n))++(aJ ax (ss.drop n)):=by rw[←u5,List.take_append_drop]
   have Nk:(aJ ax (ss.drop n))=(aJ ax [x])++(aJ ax (ss.drop (n+1))):=by rw[←u5,List.drop_eq_getElem_cons bx,show ss[n]=x from(List.getElem?_eq_some_iff.1 hx).2];rfl
   have sm:(aJ ax ss).length=ss.length*19:=gX ss
   have CG:aJ ax (ss.take n++r::ss.drop n)=(aJ ax (ss.take n))++((aJ ax [r])++(aJ ax (ss.drop n))):=by rw[u5,←u5 [r]];rfl
   have CZ:(ss.take n++r::ss.drop n).length=ss.length+1:=by simp only[List.length_append,List.length_take,List.length_cons,List.length_drop];omega
   have gO: ∀(w1:World) L',Mem w0 (ar s.b (pre++(aJ ax ss++mid)).toArray T::L') w1→ ∀j u,(aJ ax ss)[j]? =some u→w1.cell? ⟨s.b,s.o+j,none⟩=some u:=fun w1 L' lW j u hj=>RS lW bE hj
   refine Gi ?_
   iterate 4 refine Gs ?_
   refine ah (R0 (n:=s.cap) rfl mK rfl) ?_
   refine Gs ?_
   refine Gc ?_
   refine av rfl (fun h2=> ?_) (fun h2=> ?_)
   ·
    replace h2:=bz h2
    refine Gc ?_
    iterate 2 refine Gs ?_
    refine ah (s9 (h:=n) rfl rfl rfl bR (by omega)) ?_
    iterate 5 refine Gs ?_
    refine RY (D:=s.sub 19 0 n) (k:=ss.length+1 -n) (p:=n) (m:=ss.length+1) (olds:=(aJ ax (ss.take n))) rfl (by omega) rfl rfl (by omega) (by omega) mK gC (by decide) Tryz.underlying3 hA (fun w hw j u hj=>by
     have iZ:=(List.getElem?_eq_some_iff.1 hj).1
     rw[Sv.y6]
     exact gO w _ hw j u (by rw[CY,List.getElem?_append_left iZ];exact hj)) (by show s.cap -0<n -0+_;omega) (by show(n -0+_)*_≤_;omega) (by show n -0+_≤_;omega) fun ue uf Ab aiH aiI=> ?_
    refine Gs ?_
    refine Gc ?_
    iterate 2 refine Gs ?_
    refine ah (qQ (s:=(⟨false,ue,0,ss.length+1,uf,none⟩:Sv)) (l:=n) (n:=ss.length+1) rfl rfl rfl ⟨(fun h=>by cases h),by simp only;omega,by simp only;omega,fun _=>rfl⟩ rfl (by omega)) ?_
    refine Gs ?_
    refine Bs (D:=(⟨false,ue,0,ss.length+1,uf,none⟩:Sv).sub 19 n (ss.length+1)) (S:=v) (b:=ue) (o:=n*19) (n:=1) (vs:=(aJ ax [r])) (cs':=((aJ ax (ss.take n))++((aJ ax [r])++Ab.drop 19)).toArray) rfl rfl rfl rfl rfl (by rw[Sv.tp (by show n<uf;omega)];exact Nat.zero_add _) Ni wa (by rw[Nj];exact ET (b:=ss.length+1 -n) (by omega)) (by rw[nS]) (fun w hw j u hj=>JV (enc:=ax) (xs:=[r]) (by decide) inferInstance hw hj) (ta _) (by simp only[List.size_toArray,List.length_append];omega) (by rw[wM (A:=(aJ ax (ss.take n))) hA.symm,nS]) ?_
    iterate 3 refine Gi ?_
    refine uI 8 [] (by kernel_rfl) (by kernel_rfl) ?_
    simp only[List.take_succ_cons,List.take_zero]
    iterate 4 refine Gq ?_
    refine bA (qQ (s:=(⟨false,ue,0,ss.length+1,uf,none⟩:Sv)) (l:=n+1) (n:=ss.length+1) rfl rfl rfl ⟨(fun h=>by cases h),by simp only;omega,by simp only;omega,fun _=>rfl⟩ rfl (by omega)) ?_
    iterate 2 refine Gq ?_
    refine bA (qQ (l:=n) (n:=ss.length) rfl rfl rfl bR nz (by omega)) ?_
    refine sW ?_
    refine sX ?_
    simp only[List.drop_succ_cons,List.drop_zero]
    refine Bs (D:=(⟨false,ue,0,ss.length+1,uf,none⟩:Sv).sub 19 (n+1) (ss.length+1)) (S:=s.sub 19 n ss.length) (b:=ue) (o:=(n+1)*19) (n:=ss.length -n) (vs:=(aJ ax (ss.drop n))) (cs':=(((aJ ax (ss.take n))++(aJ ax [r]))++((aJ ax (ss.drop n))++(Ab.drop 19).drop (aJ ax (ss.drop n)).length)).toArray) rfl rfl rfl rfl rfl (by rw[Sv.tp (by show n+1<uf;omega)];exact Nat.zero_add _) mK gC (ET (a:=ss.length -n) (b:=ss.length+1 -(n+1)) (by omega)) hB (fun w hw j u hj=>by
     rw[Sv.tp (by omega),Nat.add_assoc]
     exact gO w _ (hw.sub (by first|exact List.Sublist.refl _|exact List.sublist_cons_self _ _)) (n*19+j) u (by rw[CY,List.getElem?_append_right (by omega),hA,Nat.add_sub_cancel_left];exact hj)) (ta _) (by simp only[List.size_toArray,List.length_append,List.length_drop];omega) (by rw[←List.append_assoc,wM (A:=(aJ ax (ss.take n))++(aJ ax [r])) (by rw[List.length_append,hA,nS];omega)]) ?_
    refine Gc ?_
    iterate 2 refine Gs ?_
    refine Gc ?_
    refine au (.inl rfl) (aQ rfl (aq rfl)) (fun w1 hw=> ?_)
    refine⟨(⟨false,ue,0,ss.length+1,uf,none⟩:Sv),rfl,trivial,?_⟩
    rw[show((aJ ax (ss.take n))++(aJ ax [r]))++((aJ ax (ss.drop n))++(Ab.drop 19).drop (aJ ax (ss.drop n)).length)=[]++(aJ ax (ss.take n++r::ss.drop n)++(Ab.drop 19).drop (aJ ax (ss.drop n)).length)from by rw[CG];simp only[List.append_assoc,List.nil_append]]at hw
    have eR:=EU (enc:=ax) (i:=0) (xs:=ss.take n++r::ss.drop n) (pre:=[]) (mid:=(Ab.drop 19).drop (aJ ax (ss.drop n)).length) hw rfl (⟨false,ue,0,ss.length+1,uf,none⟩:Sv) ⟨(fun h=>by cases h),by simp only;omega,by simp only;omega,fun _=>rfl⟩ rfl rfl rfl rfl (by rw[CZ]) (by rw[CZ];simp only[List.length_nil,List.length_drop];omega)
    rw[List.set_cons_zero]at eR
    exact ai.mem eR
   ·
    replace h2:=bz h2
    obtain⟨s1,fW⟩: ∃z:Sv,z=⟨false,s.b,s.o,ss.length+1,s.cap,none⟩:=⟨_,rfl⟩
    refine Gc ?_
    iterate 4 refine Gs ?_
    refine ah (Ry.to (v':=s1.val) (s9 (h:=ss.length+1) rfl rfl rfl bR (by omega)) (by rw[fW,Sv.sub_eq mK gC])) ?_
    refine Gs ?_
    refine Gc ?_
    iterate 5 refine Gs ?_
    refine ah (qQ (s:=s1) (l:=n+1) (n:=ss.length+1) rfl rfl rfl (by rw[fW];exact⟨(fun h=>by cases h),by simp only;omega,by simp only;omega,fun _=>rfl⟩) (by rw[fW]) (by omega)) ?_
    refine ah (R5 (V:=v) (D:=s1.sub 19 (n+1) (ss.length+1)) (b:=s.b) (xs:=[r]) rfl rfl (by decide) (by simp) (by rw[fW];rfl) (by rw[fW];rfl) (by rw[fW];rfl) (by simp only[List.size_toArray,List.length_append];omega)) ?_
    refine Gs ?_
    refine Gc ?_
    refine av rfl (fun h3=> ?_) (fun h3=> ?_)
    ·
     replace h3:=bz h3
     refine Gi ?_
     refine uI 8 [] (by kernel_rfl) (by kernel_rfl) ?_
     simp only[List.take_succ_cons,List.take_zero]
     iterate 4 refine Gq ?_
     refine bA (qQ (s:=s1) (l:=n+1) (n:=ss.length+1) rfl rfl rfl (by rw[fW];exact⟨(fun h=>by cases h),by simp only;omega,by simp only;omega,fun _=>rfl⟩) (by rw[fW]) (by omega)) ?_
     iterate 2 refine Gq ?_
     refine bA (qQ (s:=s1) (l:=n) (n:=ss.length+1) rfl rfl rfl (by rw[fW];exact⟨(fun h=>by cases h),by simp only;omega,by simp only;omega,fun _=>rfl⟩) (by rw[fW]) (by omega)) ?_
     refine sW ?_
     refine sX ?_
     simp only[List.drop_succ_cons,List.drop_zero]
     refine Bs (D:=s1.sub 19 (n+1) (ss.length+1)) (S:=s1.sub 19 n (ss.length+1)) (b:=s.b) (o:=s.o+(n+1)*19) (n:=ss.length -n) (vs:=(aJ ax (ss.drop n))) (cs':=(pre++((aJ ax (ss.take n))++((aJ ax [x])++((aJ ax (ss.drop n))++((aJ ax (ss.drop (n+1)))++mid).drop (aJ ax (ss.drop n)).length)))).toArray) rfl rfl (by rw[fW];rfl) (by rw[fW];rfl) (by rw[fW];rfl) (by rw[fW,Sv.tp (by show _<s.cap;omega)]) (by rw[fW];rfl) (by rw[fW];rfl) (by rw[show ss.length -n=ss.length+1 -(n+1)from by omega];exact RQ (a:=ss.length+1 -n) (by omega)) hB (fun w hw j u hj=>by
      rw[fW,Sv.tp (by show _<s.cap;omega),Nat.add_assoc]
      exact gO w _ hw (n*19+j) u (by rw[CY,List.getElem?_append_right (by omega),hA,Nat.add_sub_cancel_left];exact hj)) (ta _) (by simp only[List.size_toArray,List.length_append];omega) (by
      rw[CY,show pre++(((aJ ax (ss.take n))++(aJ ax (ss.drop n)))++mid)=(pre++((aJ ax (ss.take n))++(aJ ax [x])))++((aJ ax (ss.drop (n+1)))++mid)from by rw[Nk];simp only[List.append_assoc],wM (A:=pre++((aJ ax (ss.take n))++(aJ ax [x]))) (by simp only[List.length_append];omega)];simp only[List.append_assoc]) ?_
     refine Gc ?_
     iterate 2 refine Gs ?_
     refine ah (qQ (s:=s1) (l:=n) (n:=ss.length+1) rfl rfl rfl (by rw[fW];exact⟨(fun h=>by cases h),by simp only;omega,by simp only;omega,fun _=>rfl⟩) (by rw[fW]) (by omega)) ?_
     refine Gs ?_
     refine Bs (D:=s1.sub 19 n (ss.length+1)) (S:=v) (b:=s.b) (o:=s.o+n*19) (n:=1) (vs:=(aJ ax [r])) (cs':=(pre++((aJ ax (ss.take n))++((aJ ax [r])++((aJ ax (ss.drop n))++((aJ ax (ss.drop (n+1)))++mid).drop (aJ ax (ss.drop n)).length)))).toArray) rfl rfl (by rw[fW];rfl) (by rw[fW];rfl) (by rw[fW];rfl) (by rw[fW,Sv.tp (by show _<s.cap;omega)]) Ni wa (by rw[Nj];exact ET (b:=ss.length+1 -n) (by omega)) (by rw[nS]) (fun w hw j u hj=>JV (enc:=ax) (xs:=[r]) (by decide) inferInstance hw hj) (ta _) (by simp only[List.size_toArray,List.length_append];omega) (by
      rw[←List.append_assoc pre,wM (A:=pre++(aJ ax (ss.take n))) (by rw[List.length_append];omega),nS,←Aa,List.drop_left,List.append_assoc]) ?_
     refine Gc ?_
     iterate 2 refine Gs ?_
     refine Gc ?_
     refine au (.inl rfl) (aQ rfl (aq rfl)) (fun w1 hw=> ?_)
     refine⟨s1,rfl,trivial,?_⟩
     rw[show pre++((aJ ax (ss.take n))++((aJ ax [r])++((aJ ax (ss.drop n))++((aJ ax (ss.drop (n+1)))++mid).drop (aJ ax (ss.drop n)).length)))=pre++(aJ ax (ss.take n++r::ss.drop n)++((aJ ax (ss.drop (n+1)))++mid).drop (aJ ax (ss.drop n)).length)from by rw[CG];simp only[List.append_assoc]]at hw
     have eR:=EU (enc:=ax) (i:=0) (xs:=ss.take n++r::ss.drop n) (pre:=pre) (mid:=((aJ ax (ss.drop (n+1)))++mid).drop (aJ ax (ss.drop n)).length) hw rfl s1 (by rw[fW];exact⟨(fun h=>by cases h),by simp only;omega,by simp only;omega,fun _=>rfl⟩) (by rw[fW]) (by rw[fW]) (by rw[fW]) (by rw[fW];exact bE.symm) (by rw[fW,CZ]) (by rw[fW,CZ];have:=congrArg List.length Nk;simp only[List.length_append,List.length_drop]at this⊢;omega)
     rw[List.set_cons_zero]at eR
     exact ai.mem eR
    ·
     exfalso;simp at h3
instance aiJ{w0:World}{L R1 L2:List ak}{i j:Nat}{s:Sv}{ss:List Rt}{v:Sv}{r:Rt}{n:Nat}[h:fL L s ax 19 ss i][d1:dx L i R1][q:fL R1 v ax 19 [r] j][d2:dx R1 j L2]:cw Tryz.prog 112 w0 L [s.val, .int .i64 (n:Nat),v.val] (Sv) (fun zz=>zz.val) (fun zz=>own ax 19 zz (ss.take n++r::ss.drop n)::L2) (fun zz=>True) (n≤ss.length∧ss.length≤1000000):=⟨fun hp w hw=>X8 w0 w L2 s ss v r n (sq h.h d1.h q.h d2.h hw) hp⟩
open Go.ay Go.Kb
instance:bp fU 20:=⟨LR,fun x=>by
 have h:(ax x.r).all (·.oneCell')=true:=bp.one x.r
 rw[fU,Array.all_append,h];simp[Value.oneCell']⟩
instance:Deep Ch:=Deep.flat fU 20
instance:fN Ch fU 20:=⟨rfl,fun _=>rfl⟩
instance (x:Ch):gq (fU x) 20:=⟨LR x,bp.one x⟩
instance (x:Ch):n0 (fU x) 0 19 (ax x.r):=⟨kx _,fun j hj=>by rw[Nat.zero_add];exact LS x j hj⟩
instance (x:Ch):n0 (fU x) 0 18 (c5 x.r.p):=⟨od _,fun j hj=>by rw[Nat.zero_add];exact(LS x j (by omega)).trans (og x.r j hj)⟩
instance (x:Ch):cm (fU x) 19 (.bool x.gone):=⟨Ub x⟩
instance (r:Rt):yA Tryz.prog 91 [(0, .agg (ax r))] (.agg (fU ⟨r,false⟩)):=⟨fun w=>by kernel_rfl⟩
instance:fo Tryz.prog 91 (.agg (fU LQ)):=⟨by unfold fU ax c5 LQ jx;rw[zw];kernel_rfl⟩
theorem Yb{cs vs:Array Value}(h:cs.size=vs.size):cT cs 0 vs=vs:=by
 unfold cT;apply Array.ext';simp[←h]
theorem Yc(w0 w:World)(L:List ak)(t:Sv)(ts:List Rt)(g:Ch)(hw:Mem w0 (own ax 19 t ts::L) w)(bf:ts.length≤1000):Calls Tryz.prog 74 #[t.val, .agg (fU g)] w fun e w'=> ∃zz:Sv,e= .returned (.tuple #[zz.val, .int .i64 (fA ts g)])∧(True)∧Mem w0 (own ax 19 zz (jG ts g)::L) w':=by
 have Nl:=LO ts g.r.p
 refine kv (args:=[_,_]) Tryz.func74 rfl Tryz.ntmps74 rfl hw ?_
 change Cw _ _ _ _ _ [(0,t.val),(1, .agg (fU g))] (own ax 19 t ts::L)
 refine Gc ?_
 refine cA rfl fun b3=> ?_
 iterate 2 refine Gs ?_
 refine Gc ?_
 iterate 2 refine Gs ?_
 refine ah (jv rfl) ?_
 iterate 2 refine Gs ?_
 refine Gc ?_
 refine av rfl (fun h0=> ?_) (fun h0=> ?_)
 ·
  replace h0:=bz h0
  have hm:cZ g.r.p=false:=h0
  have he:fA ts g=1:=by rw[fA,if_neg (by rw[hm];simp)]
  refine Gc ?_
  iterate 3 refine Gs ?_
  refine Gc ?_
  refine au (.inl rfl) (bq rfl (aq rfl) (aq rfl)) (fun w1 hw=> ?_)
  exact⟨t,by rw[he],trivial,by rw[jG,if_neg (by rw[he];decide)];exact ai.mem hw⟩
 ·
  replace h0:=bz h0
  have hm:cZ g.r.p=true:=h0
  refine Gc ?_
  iterate 3 refine Gs ?_
  refine ah (jv rfl) ?_
  refine fF (cJ rfl (by omega)) ?_
  refine Gs ?_
  refine ah (aU (v:= .int .i64 ((cP ts g.r.p:Nat):Int)) rfl rfl) ?_
  refine ah (aU (v:= .bool (kC ts g.r.p)) rfl rfl) ?_
  iterate 2 refine Gs ?_
  refine Gc ?_
  iterate 3 refine Gs ?_
  refine Gg ?_
  refine gv rfl rfl rfl (fun hg=>(Ry.yl (iD (aG hg rfl)))) ?_
  iterate 2 refine Gs ?_
  refine Gc ?_
  refine av rfl (fun h1=> ?_) (fun h1=> ?_)
  ·
   replace h1:=bz h1
   have he:fA ts g=6:=by rw[fA,if_pos hm,if_neg (by rw[h1.2];simp),if_pos h1.1]
   refine Gc ?_
   iterate 3 refine Gs ?_
   refine Gc ?_
   refine au (.inl rfl) (bq rfl (aq rfl) (aq rfl)) (fun w1 hw=> ?_)
   exact⟨t,by rw[he],trivial,by rw[jG,if_neg (by rw[he];decide)];exact ai.mem hw⟩
  ·
   replace h1:=bz h1
   refine Gc ?_
   iterate 3 refine Gs ?_
   refine Gc ?_
   refine av rfl (fun h2=> ?_) (fun h2=> ?_)
   ·
    replace h2:=bz h2
    have hb:kC ts g.r.p=true:=by rcases h1 with h|h;(rw[h2]at h;cases h);exact h
    have he:fA ts g=0:=by rw[fA,if_pos hm,if_pos hb]
    have hl:jG ts g=ts.take (cP ts g.r.p)++ts.drop ((cP ts g.r.p)+1):=by rw[jG,if_pos he,if_pos h2]
    obtain⟨r0,_,nS,_⟩:=zv hb
    have bE:=(List.getElem?_eq_some_iff.1 nS).1
    refine Gc ?_
    iterate 3 refine Gs ?_
    refine ah (Ry.to (v':= .int .i64 (((cP ts g.r.p)+1:Nat):Int)) (pS rfl rfl (by omega)) rfl) ?_
    refine bu rfl ⟨by omega,by omega⟩ fun kZ Nc=> ?_
    iterate 2 refine Gs ?_
    refine Gc ?_
    refine au (.inl rfl) (bq rfl (aq rfl) (aq rfl)) (fun w1 hw=> ?_)
    exact⟨kZ,by rw[he],trivial,by rw[hl];exact ai.mem hw⟩
   ·
    replace h2:=bz h2
    refine Gc ?_
    iterate 2 refine Gs ?_
    refine Gc ?_
    refine av rfl (fun h3=> ?_) (fun h3=> ?_)
    ·
     replace h3:=bz h3
     have hb:kC ts g.r.p=true:=h3
     have he:fA ts g=0:=by rw[fA,if_pos hm,if_pos hb]
     have hl:jG ts g=ts.set (cP ts g.r.p) g.r:=by rw[jG,if_pos he,if_neg (by rw[h2];simp),if_pos hb]
     obtain⟨r0,_,nS,_⟩:=zv hb
     have bE:=(List.getElem?_eq_some_iff.1 nS).1
     refine Gc ?_
     iterate 3 refine Gs ?_
     refine ah (jv rfl) ?_
     refine ah (bo rfl rfl (cP ts g.r.p) rfl bE) ?_
     refine kP (n:=19) (k:=(cP ts g.r.p)) (j:=0) (a:=r0) (a':=g.r) (xs:=ts) (enc:=ax) (c:=19) (v:= .agg (ax g.r)) (by kernel_rfl) rfl rfl rfl nS (bp.one g.r) (kx g.r) (by decide) (Yb (by rw[kx];exact(kx g.r).symm)) ?_
     refine Gc ?_
     iterate 3 refine Gs ?_
     refine Gc ?_
     refine au (.inl rfl) (bq rfl (aq rfl) (aq rfl)) (fun w1 hw=> ?_)
     exact⟨t,by rw[he],trivial,by rw[hl];exact ai.mem hw⟩
    ·
     replace h3:=bz h3
     refine Gc ?_
     iterate 4 refine Gs ?_
     refine Gc ?_
     refine av rfl (fun h4=> ?_) (fun h4=> ?_)
     ·
      replace h4:=bz h4
      have he:fA ts g=5:=by rw[fA,if_pos hm,if_neg (by rw[h3];simp),if_neg (by rw[h2];simp),if_pos (by omega)]
      refine Gc ?_
      iterate 3 refine Gs ?_
      refine Gc ?_
      refine au (.inl rfl) (bq rfl (aq rfl) (aq rfl)) (fun w1 hw=> ?_)
      exact⟨t,by rw[he],trivial,by rw[jG,if_neg (by rw[he];decide)];exact ai.mem hw⟩
     ·
      replace h4:=bz h4
      have he:fA ts g=0:=by rw[fA,if_pos hm,if_neg (by rw[h3];simp),if_neg (by rw[h2];simp),if_neg (by omega)]
      have hl:jG ts g=ts.take (cP ts g.r.p)++g.r::ts.drop (cP ts g.r.p):=by rw[jG,if_pos he,if_neg (by rw[h2];simp),if_neg (by rw[h3];simp)]
      refine Gc ?_
      iterate 3 refine Gs ?_
      refine ah (jv rfl) ?_
      refine pa (enc:=ax) (vals:=[_]) [g.r] rfl rfl rfl (by decide) (by decide) fun b55=> ?_
      refine bu rfl ⟨by omega,by omega⟩ fun CR G0=> ?_
      iterate 2 refine Gs ?_
      refine Gc ?_
      refine au (.inl rfl) (bq rfl (aq rfl) (aq rfl)) (fun w1 hw=> ?_)
      exact⟨CR,by rw[he],trivial,by rw[hl];exact ai.mem hw⟩
instance aiK{w0:World}{L R:List ak}{i:Nat}{t:Sv}{ts:List Rt}{g:Ch}[q:fL L t ax 19 ts i][d:dx L i R]:cw Tryz.prog 74 w0 L [t.val, .agg (fU g)] (Sv) (fun zz=> .tuple #[zz.val, .int .i64 (fA ts g)]) (fun zz=>own ax 19 zz (jG ts g)::R) (fun zz=>True) (ts.length≤1000):=⟨fun hp w hw=>Yc w0 w R t ts g (Gf q.h d.h hw) hp⟩
theorem Yd(w:World)(t:Sv)(ts:List Rt)(l:Sv)(ls:List Ch)(ht:bW ax 19 (hp w) t ts)(hl:bW fU 20 (hp w) l ls)(bf:ts.length≤1000000):Calls Tryz.prog 34 #[t.val,l.val] w fun e w'=> ∃zz:Sv,e= .returned (.tuple #[zz.val, .int .i64 (eu ts ls)])∧(True)∧Mem w [own ax 19 zz (cQ ts ls)] w':=by
 have CB:Gv w t ax 19 ts:=⟨ht⟩
 have oJ:Gv w l fU 20 ls:=⟨hl⟩
 have Hc:=hl.bd
 refine bh (args:=[_,_]) Tryz.func34 rfl Tryz.ntmps34 rfl ?_
 change Cw _ _ _ _ _ [(0,t.val),(1,l.val)] []
 refine Gc ?_
 iterate 2 refine Gs ?_
 refine Gc ?_
 iterate 3 refine Gs ?_
 refine Gc ?_
 refine av rfl (fun h0=> ?_) (fun h0=> ?_)
 ·
  replace h0:=bz h0
  have he:eu ts ls=1:=if_neg (by rw[h0];simp)
  have ha:cQ ts ls=ts:=by rw[cQ,if_neg (by rw[he];decide)]
  refine Gc ?_
  refine Gs ?_
  refine bu rfl (by omega) fun lQ xL=> ?_
  iterate 2 refine Gs ?_
  refine Gc ?_
  refine au (.inl rfl) (bq rfl (aq rfl) (aq rfl)) (fun w1 hw=> ?_)
  exact⟨lQ,by rw[he],trivial,by rw[ha];exact ai.mem hw⟩
 ·
  replace h0:=bz h0
  have hr:dy ts=true:=h0
  have hlen:=wO hr
  refine Gc ?_
  refine Gs ?_
  refine bu rfl (by omega) fun aD km=> ?_
  refine Gs ?_
  refine Gc ?_
  iterate 3 refine Gs ?_
  refine Gc ?_
  refine ct (X:=Nat×Sv×List Rt) (fun zz=>[(19, .int .i64 (zz.1:Nat)),(6,zz.2.1.val),(0,t.val),(17,l.val),(18, .int .i64 (ls.length:Nat))]) (fun zz=>[own ax 19 zz.2.1 zz.2.2]) (fun zz=>zz.1≤ls.length∧kX ts ls=kX zz.2.2 (ls.drop zz.1)∧zz.2.2.length≤256) (fun zz=>ls.length -zz.1) (0,aD,ts) ⟨Nat.zero_le _,rfl,hlen⟩ (Sub.cons rfl (Sub.cons rfl (Sub.cons rfl (Sub.cons rfl (Sub.cons rfl (Sub.nil _)))))) (fun w hw=>ai.mem hw) ?_
  rintro⟨i,s1,q⟩ ⟨bl,aH,bB⟩
  dsimp only
  simp only at bl aH bB
  refine Gc ?_
  refine Gs ?_
  refine Gc ?_
  refine av rfl (fun h1=> ?_) (fun h1=> ?_)
  ·
   replace h1:=bz h1
   iterate 6 refine Gi ?_
   obtain⟨g,hg⟩:=get_some (xs:=ls) (i:=i) (by omega)
   refine ah (bo rfl rfl i rfl (by omega)) ?_
   refine ah (jb rfl i hg rfl) ?_
   refine bM fun b8=> ?_
   refine Gs ?_
   refine Gc ?_
   refine Gs ?_
   refine Gc ?_
   iterate 2 refine Gs ?_
   refine bu rfl (by omega) fun ko qA=> ?_
   refine Gs ?_
   refine ah (aU (v:=ko.val) rfl rfl) ?_
   refine ah (aU (v:= .int .i64 (fA q g)) rfl rfl) ?_
   iterate 2 refine Gs ?_
   refine Gc ?_
   iterate 2 refine Gs ?_
   refine Gc ?_
   refine av rfl (fun h2=> ?_) (fun h2=> ?_)
   ·
    replace h2:=bz h2
    have Nm: ¬fA q g=0:=h2
    have ef:kX ts ls=(q,fA q g):=by rw[aH,LV hg,if_neg Nm]
    have he:eu ts ls=fA q g:=by rw[eu,if_pos hr,ef]
    have ha:cQ ts ls=ts:=by rw[cQ,if_neg (by rw[he];exact Nm)]
    refine Gc ?_
    refine Gs ?_
    refine bu rfl (by omega) fun az sI=> ?_
    iterate 3 refine Gs ?_
    refine Gc ?_
    refine au (.inl rfl) (bq rfl (aq rfl) (aq rfl)) (fun w1 hw=> ?_)
    exact⟨az,by rw[he],trivial,by rw[ha];exact ai.mem hw⟩
   ·
    replace h2:=bz h2
    refine Gc ?_
    iterate 2 refine Gs ?_
    refine Gi ?_
    exact bI (x:=(i,s1,q)) (i+1,ko,jG q g) ⟨by first|omega|(simp only[];omega),by rw[aH,LV hg,if_pos h2],LU bB g⟩ (by simp only;omega) (Sub.cons rfl (Sub.cons rfl (Sub.cons rfl (Sub.cons rfl (Sub.cons rfl (Sub.nil _)))))) (fun w hw=>ai.mem hw)
  ·
   replace h1:=bz h1
   obtain rfl:i=ls.length:=by omega
   have ef:kX ts ls=(q,0):=by rw[aH,List.drop_length];rfl
   have he:eu ts ls=0:=by rw[eu,if_pos hr,ef]
   have ha:cQ ts ls=q:=by rw[cQ,if_pos he,ef]
   refine Gc ?_
   iterate 3 refine Gs ?_
   refine Gc ?_
   refine au (.inl rfl) (bq rfl (aq rfl) (aq rfl)) (fun w1 hw=> ?_)
   exact⟨s1,by rw[he],trivial,by rw[ha];exact ai.mem hw⟩
instance aiL{w0:World}{L:List ak}{t:Sv}{ts:List Rt}{l:Sv}{ls:List Ch}[ht:c8 w0 L ax 19 t ts][hl:c8 w0 L fU 20 l ls]:cw Tryz.prog 34 w0 L [t.val,l.val] (Sv) (fun zz=> .tuple #[zz.val, .int .i64 (eu ts ls)]) (fun zz=>own ax 19 zz (cQ ts ls)::L) (fun zz=>True) (ts.length≤1000000):=⟨fun hp w hw=>(Yd w t ts l ls (ht.h w hw) (hl.h w hw) hp).mono fun e w' ⟨x,h1,h2,h3⟩=>⟨x,h1,h2,hw.call h3⟩⟩
open Go.ay Go.Kb
instance (i:Int)(s:Sv):yA Tryz.prog 102 [(0, .int .i64 i),(1,s.val)] (.agg #[.int .i64 i,s.val]):=⟨fun w=>by
 obtain⟨n,b,o,l,c⟩:=s
 cases n<;>kernel_rfl⟩
theorem Ye(w:World)(s:Sl (Sl UInt8))(i:Nat)(hs:Deep.aZ (hp w) s):Calls Tryz.prog 114 #[s.sv.val, .int .i64 (i:Nat)] w fun e w'=>e= .returned (((pY s i).sv).val)∧Mem w [] w':=by
 have vz:cM w s:=⟨hs⟩
 refine bh (args:=[_,_]) Tryz.func114 rfl Tryz.ntmps114 rfl ?_
 change Cw _ _ _ _ _ [(0,s.sv.val),(1, .int .i64 (i:Nat))] []
 refine aO ?_
 refine ba ?_
 refine ah (bn rfl) ?_
 refine aY ?_
 refine aN ?_
 refine aO ?_
 refine aO ?_
 refine ba ?_
 refine ah (aE rfl) ?_
 refine ah (aE rfl) ?_
 refine ah (lb rfl) ?_
 refine ah (cz rfl rfl rfl) ?_
 refine aY ?_
 refine aN ?_
 refine av rfl (fun h0=> ?_) (fun h0=> ?_)
 ·
  try simp only[Z0,Z1,Z2,Z3,Z4,Z5,Z6,Z7,Z8,Z9]at h0
  refine aO ?_
  refine ba ?_
  refine ah (bn rfl) ?_
  refine aY ?_
  refine aN ?_
  refine eF ?_
  refine fq ?_
  refine au (.inl rfl) (aQ rfl (aq rfl)) (fun w1 hw=> ?_)
  exact⟨by rw[A5 (by omega)];rfl,ai.mem hw⟩
 ·
  try simp only[Z0,Z1,Z2,Z3,Z4,Z5,Z6,Z7,Z8,Z9]at h0
  refine gf ?_
  refine aN ?_
  refine aO ?_
  refine ba ?_
  refine ah (aE rfl) ?_
  refine ah (aE rfl) ?_
  obtain⟨u,hu⟩:=get_some (xs:=s.xs) (i:=i) (by omega)
  refine ah (bo rfl rfl i rfl (by omega)) ?_
  refine ah (bO (j:=0) rfl i hu rfl (by decide)) ?_
  have aiM:Mb u _:=⟨List.mem_of_getElem? hu⟩
  refine ah (bn rfl) ?_
  refine aY ?_
  refine aN ?_
  refine eF ?_
  refine au (.inl rfl) (aQ rfl (aq rfl)) (fun w1 hw=> ?_)
  exact⟨by rw[A4 hu],ai.mem hw⟩
instance aiN{w0:World}{L:List ak}{s:Sl (Sl UInt8)}{i:Nat}[hs:aW w0 L s]:cR Tryz.prog 114 w0 L [s.sv.val, .int .i64 (i:Nat)] (((pY s i).sv).val) (True):=⟨fun hp w hw=>Ye w s i (hs.h w hw)⟩
theorem Yf(w:World)(x:Sv)(xs:List UInt8)(y:Sv)(ys:List UInt8)(hx:bW aM 1 (hp w) x xs)(hy:bW aM 1 (hp w) y ys):Calls Tryz.prog 115 #[x.val,y.val] w fun e w'=>e= .returned (.bool (decide (xs=ys)))∧Mem w [] w':=by
 have xA:Gv w x aM 1 xs:=⟨hx⟩
 have MF:Gv w y aM 1 ys:=⟨hy⟩
 refine bh (args:=[_,_]) Tryz.func115 rfl Tryz.ntmps115 rfl ?_
 change Cw _ _ _ _ _ [(0,x.val),(1,y.val)] []
 refine aO ?_
 refine ba ?_
 refine ah (bn rfl) ?_
 refine aY ?_
 refine aN ?_
 refine aO ?_
 refine ba ?_
 refine ah (aE rfl) ?_
 refine ah (Ja Tryz.underlying38 Tryz.underlying5 Tryz.underlying9 rfl) ?_
 refine ah (aE rfl) ?_
 refine ah (Ja Tryz.underlying38 Tryz.underlying5 Tryz.underlying9 rfl) ?_
 refine ah (QP rfl rfl) ?_
 refine ah (bn rfl) ?_
 refine aY ?_
 refine aN ?_
 refine eF ?_
 refine au (.inl rfl) (aQ rfl (aq rfl)) (fun w1 hw=> ?_)
 exact⟨congrArg (fun b=>Ending.returned (Value.bool b)) (rfl),ai.mem hw⟩
instance aiO{w0:World}{L:List ak}{x:Sv}{xs:List UInt8}{y:Sv}{ys:List UInt8}[hx:c8 w0 L aM 1 x xs][hy:c8 w0 L aM 1 y ys]:cR Tryz.prog 115 w0 L [x.val,y.val] (.bool (decide (xs=ys))) (True):=⟨fun hp w hw=>Yf w x xs y ys (hx.h w hw) (hy.h w hw)⟩
theorem Yg(w:World)(x:Sv)(xs:List UInt8)(hx:bW aM 1 (hp w) x xs)(bf:xs.length≤140737488355328):Calls Tryz.prog 110 #[x.val] w fun e w'=> ∃zz:Sv,e= .returned (zz.val)∧(True)∧Mem w [own aM 1 zz xs] w':=by
 have xA:Gv w x aM 1 xs:=⟨hx⟩
 refine bh (args:=[_]) Tryz.func110 rfl Tryz.ntmps110 rfl ?_
 change Cw _ _ _ _ _ [(0,x.val)] []
 refine aO ?_
 refine ba ?_
 refine ah (bn rfl) ?_
 refine aY ?_
 refine aN ?_
 refine aO ?_
 refine aO ?_
 refine ba ?_
 refine ah (aE rfl) ?_
 refine ah (rS Tryz.underlying38 rfl) ?_
 refine aY ?_
 refine aN ?_
 refine av rfl (fun h0=> ?_) (fun h0=> ?_)
 ·
  try simp only[Z0,Z1,Z2,Z3,Z4,Z5,Z6,Z7,Z8,Z9]at h0
  have e0:xs=[]:=List.length_eq_zero_iff.1 (by have:=hx.ok.nil h0;have:=hx.len;omega)
  refine aO ?_
  refine ba ?_
  refine ah (bn rfl) ?_
  refine aY ?_
  refine aN ?_
  refine eF ?_
  refine fq ?_
  refine au (.inl rfl) (aQ rfl (aq rfl)) (fun w1 hw=> ?_)
  exact⟨Sv.none,rfl,trivial,by rw[e0];exact(ai.mem hw:Mem w [] _).dQ aM 1⟩
 ·
  try simp only[Z0,Z1,Z2,Z3,Z4,Z5,Z6,Z7,Z8,Z9]at h0
  refine gf ?_
  refine aN ?_
  refine aO ?_
  refine ba ?_
  refine ti aM fun b5=> ?_
  refine ah (aE rfl) ?_
  refine lZ (s:=⟨false,b5,0,0,0,none⟩) (ys:=xs) rfl rfl (by decide) (fun w hw=>kO (s:=x) Tryz.underlying38 (by decide) ((inferInstance:Hd _ _ x aM 1 xs).h w hw)) (by simp only[List.length_append,List.length_cons,List.length_nil];omega) (by simp only[List.length_append,List.length_cons,List.length_nil];omega) fun s7 vA tL=> ?_
  refine ah (bn rfl) ?_
  refine aY ?_
  refine aN ?_
  refine eF ?_
  refine au (.inl rfl) (aQ rfl (aq rfl)) (fun w1 hw=> ?_)
  exact⟨s7,rfl,trivial,by simpa using hw⟩
instance aiP{w0:World}{L:List ak}{x:Sv}{xs:List UInt8}[hx:c8 w0 L aM 1 x xs]:cw Tryz.prog 110 w0 L [x.val] (Sv) (fun zz=>zz.val) (fun zz=>own aM 1 zz xs::L) (fun zz=>True) (xs.length≤140737488355328):=⟨fun hp w hw=>(Yg w x xs (hx.h w hw) hp).mono fun e w' ⟨x,h1,h2,h3⟩=>⟨x,h1,h2,hw.call h3⟩⟩
theorem Yh(w:World)(a:Sl (Sl UInt8))(b:Sl (Sl UInt8))(ha:Deep.aZ (hp w) a)(hb:Deep.aZ (hp w) b)(bf:a.xs.length≤1000000∧b.xs.length≤1000000∧ ∀x∈b.xs,x.xs.length≤140737488355328):Calls Tryz.prog 77 #[a.sv.val,b.sv.val] w fun e w'=> ∃zz:Sl It,e= .returned (zz.sv.val)∧(uU zz=eQ (lx a) (lx b))∧Mem w [Deep.bT zz] w':=by
 have Gm:cM w a:=⟨ha⟩
 have vC:cM w b:=⟨hb⟩
 obtain⟨mn,sk,xh⟩:=bf
 refine bh (args:=[_,_]) Tryz.func77 rfl Tryz.ntmps77 rfl ?_
 change Cw _ _ _ _ _ [(0,a.sv.val),(1,b.sv.val)] []
 refine aO ?_
 refine ba ?_
 refine ah (bn rfl) ?_
 refine aY ?_
 refine aN ?_
 refine aO ?_
 refine ba ?_
 refine ah (bn rfl) ?_
 refine aY ?_
 refine aN ?_
 refine aO ?_
 refine aO ?_
 refine ba ?_
 refine ah (aE rfl) ?_
 refine ah (lb rfl) ?_
 refine ah (aE rfl) ?_
 refine ah (lb rfl) ?_
 refine ah (uE rfl rfl) ?_
 refine ah (aE rfl) ?_
 refine aY ?_
 refine aN ?_
 refine lE ?_
 refine ct (X:=Nat×Sl It) (fun zz=>[(13, .int .i64 (zz.1:Nat)),(5,zz.2.sv.val),(0,a.sv.val),(1,b.sv.val),(12, .int .i64 (max (a.xs.length:Int) (b.xs.length:Int)))]) (fun zz=>[Deep.bT zz.2]) (fun zz=>zz.1≤max a.xs.length b.xs.length∧uU zz.2=mj (lx a) (lx b) zz.1) (fun zz=>max a.xs.length b.xs.length -zz.1) (0,⟨Sv.none,[]⟩) ⟨by first|omega|(simp only[];omega),rfl⟩ (Sub.cons rfl (Sub.cons rfl (Sub.cons rfl (Sub.cons rfl (Sub.cons rfl (Sub.nil _)))))) (fun w hw=>Mem.A3 (enc:=nv) (c:=2) hw) ?_
 rintro⟨i,l⟩ ⟨bl,aH⟩
 dsimp only
 refine aO ?_
 refine ba ?_
 refine ah (cz rfl rfl rfl) ?_
 refine aY ?_
 refine aN ?_
 refine aO ?_
 refine av rfl (fun h0=> ?_) (fun h0=> ?_)
 ·
  try simp only[Z0,Z1,Z2,Z3,Z4,Z5,Z6,Z7,Z8,Z9]at h0
  refine gf ?_
  refine aN ?_
  refine aO ?_
  refine lE ?_
  refine aO ?_
  refine ba ?_
  refine ah (aE rfl) ?_
  refine ah (bn rfl) ?_
  refine aY ?_
  refine aN ?_
  refine aO ?_
  refine ba ?_
  refine ah (aE rfl) ?_
  refine ah (aE rfl) ?_
  refine fF (cJ rfl trivial) ?_
  refine ah (bn rfl) ?_
  refine aY ?_
  refine aN ?_
  refine aO ?_
  refine ba ?_
  refine ah (aE rfl) ?_
  refine ah (aE rfl) ?_
  refine fF (cJ rfl trivial) ?_
  refine ah (aE rfl) ?_
  refine fF (cJ rfl trivial) ?_
  refine ah (iD rfl) ?_
  refine aY ?_
  refine aN ?_
  refine av rfl (fun h1=> ?_) (fun h1=> ?_)
  ·
   try simp only[Z0,Z1,Z2,Z3,Z4,Z5,Z6,Z7,Z8,Z9]at h1
   refine ba ?_
   refine ah (aE rfl) ?_
   refine ah (aE rfl) ?_
   refine ah (aE rfl) ?_
   refine bu rfl (by rcases Nat.lt_or_ge i b.xs.length with h|h;exact xh _ (by rw[A4 (List.getElem?_eq_getElem h)];exact List.getElem_mem h);rw[A5 h];exact Nat.zero_le _) fun dB mv=> ?_
   refine ah (sV rfl) ?_
   refine pa (enc:=nv) (vals:=[_]) [(⟨((i:Nat):Int),⟨dB,((pY b i).xs)⟩⟩:It)] rfl rfl rfl (by decide) (by decide) fun fS=> ?_
   refine QV (s:=⟨false,fS,0,1,1,none⟩) l [(⟨((i:Nat):Int),⟨dB,((pY b i).xs)⟩⟩:It)] rfl rfl (by decide) (by have:=congrArg List.length aH;have h9:=Cj (lx a) (lx b) i;simp only[uU,List.length_map]at this;simp only[List.length_cons,List.length_nil];omega) (by have:=congrArg List.length aH;have h9:=Cj (lx a) (lx b) i;simp only[uU,List.length_map]at this;simp only[List.length_cons,List.length_nil];omega) fun kY Yi=> ?_
   refine ah (bn rfl) ?_
   refine aY ?_
   refine oZ ?_
   refine aN ?_
   refine ba ?_
   refine ah (pS rfl rfl (by omega)) ?_
   refine ah (aE rfl) ?_
   refine aY ?_
   exact bI (x:=(i,l)) (i+1,kY) ⟨by first|omega|(simp only[];omega),by rw[uU,Yi,List.map_append,LG (by rw[←yN,←yN];exact h1),←aH,←yN];rfl⟩ (by simp only;omega) (Sub.cons rfl (Sub.cons rfl (Sub.cons rfl (Sub.cons rfl (Sub.cons rfl (Sub.nil _)))))) (fun w hw=>ai.mem hw)
  ·
   try simp only[Z0,Z1,Z2,Z3,Z4,Z5,Z6,Z7,Z8,Z9]at h1
   refine gf ?_
   refine oZ ?_
   refine aN ?_
   refine ba ?_
   refine ah (pS rfl rfl (by omega)) ?_
   refine ah (aE rfl) ?_
   refine aY ?_
   exact bI (x:=(i,l)) (i+1,l) ⟨by first|omega|(simp only[];omega),by rw[LF (by rw[←yN,←yN];exact h1)];exact aH⟩ (by simp only;omega) (Sub.cons rfl (Sub.cons rfl (Sub.cons rfl (Sub.cons rfl (Sub.cons rfl (Sub.nil _)))))) (fun w hw=>ai.mem hw)
 ·
  try simp only[Z0,Z1,Z2,Z3,Z4,Z5,Z6,Z7,Z8,Z9]at h0
  refine rP ?_
  refine lX ?_
  refine lX ?_
  refine rQ ?_
  refine aN ?_
  refine aO ?_
  refine ba ?_
  refine ah (aE rfl) ?_
  refine ah (bn rfl) ?_
  refine aY ?_
  refine aN ?_
  refine eF ?_
  refine au (.inl rfl) (aQ rfl (aq rfl)) (fun w1 hw=> ?_)
  exact⟨l,rfl,(by rw[aH,eQ,uQ,uQ,show i=max a.xs.length b.xs.length by omega]),ai.mem hw⟩
instance aiQ{w0:World}{L:List ak}{a:Sl (Sl UInt8)}{b:Sl (Sl UInt8)}[ha:aW w0 L a][hb:aW w0 L b]:cw Tryz.prog 77 w0 L [a.sv.val,b.sv.val] (Sl It) (fun zz=>zz.sv.val) (fun zz=>Deep.bT zz::L) (fun zz=>uU zz=eQ (lx a) (lx b)) (a.xs.length≤1000000∧b.xs.length≤1000000∧ ∀x∈b.xs,x.xs.length≤140737488355328):=⟨fun hp w hw=>(Yh w a b (ha.h w hw) (hb.h w hw) hp).mono fun e w' ⟨x,h1,h2,h3⟩=>⟨x,h1,h2,hw.call h3⟩⟩
end Go.Proofs.YtaipiecplldinaaGreat
