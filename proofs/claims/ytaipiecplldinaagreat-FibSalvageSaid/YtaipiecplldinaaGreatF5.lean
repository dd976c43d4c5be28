/- Part of a proof. -/
import Derived.Test.YtaipiecplldinaaGreatF4
import Derived.Test.YtaipiecplldinaaGreatF3
import Derived.Test.YtaipiecplldinaaGreatF1
import Derived.Test.YtaipiecplldinaaGreatF2
set_option maxRecDepth 20000
set_option linter.unusedSimpArgs false
set_option linter.unusedVariables false
namespace Go.Proofs.YtaipiecplldinaaGreat
open Go.ay Go.Kb
open Go.RowKit
theorem Cu(w:World):(Instr.build 50 #[(3, .bool true)]).run Tryz.prog w= .ok (.agg (bu bb)) w:=by kernel_rfl
theorem Wk(w:World)(xb:Nat)(xc:Cp)(xa:Sl Int)(xg:UInt64)(xl:Int)(xy:Bool)(l:Sl (Sl Int))(eM:w.heap[xb]? =Option.some (.cells (aL (⟨⟨xc,xa,xg,xl⟩,xy⟩:aQ)) 141 (0,0)))(dQ:Deep.bh (hp w) xc)(hl:Deep.bh (hp w) l)(bc:pV (cv xc) (aw l.xs)):Calls Tryz.prog 165 #[.pointer (some ⟨xb,0,none⟩),l.sv.val] w fun e w'=> ∃zz:Sv,e= .returned (zz.val)∧(True)∧Mem w [own bu 4 zz (aB (cv xc) (aw l.xs))] w':=by
 have r9:ph w xb (aL (⟨⟨xc,xa,xg,xl⟩,xy⟩:aQ)) 141:=⟨eM⟩
 have sa:cC w xc:=⟨dQ⟩
 have ov:cC w l:=⟨hl⟩
 refine bf (args:=[_,_]) Tryz.func165 rfl Tryz.ntmps165 rfl ?_
 change Cw _ _ _ _ _ [(0, .pointer (some ⟨xb,0,none⟩)),(1,l.sv.val)] []
 refine Gc ?_
 refine Gs ?_
 refine Gc ?_
 iterate 4 refine Gs ?_
 refine ah (Ry.to (v':= .agg (aE xc)) (Va rfl) rfl) ?_
 refine Gs ?_
 refine br rfl (by assumption) fun F9 ahl=> ?_
 have yD:(iw (cv xc) (aw l.xs)).length=(cv xc).blocks.length -2:=by rw[iw,wG]
 have hY:=jI.1 (eC.1 bc.1.1).1
 have tm: ∀i,i≤(iw (cv xc) (aw l.xs)).length→(((iw (cv xc) (aw l.xs)).take i).map mM++(iw (cv xc) (aw l.xs)).drop i).length=(iw (cv xc) (aw l.xs)).length:=fun i hi=>by rw[List.length_append,List.length_map,List.length_take,List.length_drop];omega
 refine Gs ?_
 refine Gc ?_
 iterate 3 refine Gs ?_
 refine Gc ?_
 refine cg (X:=Nat) (fun zz=>[(16, .int .i64 (zz:Nat)),(5,F9.val),(15, .int .i64 ((iw (cv xc) (aw l.xs)).length:Nat))]) (fun zz=>[own bu 4 F9 (((iw (cv xc) (aw l.xs)).take zz).map mM++(iw (cv xc) (aw l.xs)).drop zz)]) (fun zz=>zz≤(iw (cv xc) (aw l.xs)).length) (fun zz=>(iw (cv xc) (aw l.xs)).length -zz) 0 (Nat.zero_le _) (Sub.cons rfl (Sub.cons rfl (Sub.cons rfl (Sub.nil _)))) (fun w hw=>by simp only[List.take_zero,List.map_nil,List.nil_append,List.drop_zero];exact ai.mem hw) ?_
 rintro i bk
 have tr:=tm i bk
 refine Gc ?_
 refine Gs ?_
 refine Gc ?_
 refine av rfl (fun h0=> ?_) (fun h0=> ?_)
 ·
  replace h0:=bz h0
  obtain⟨z,hz⟩:=get_some (xs:=(iw (cv xc) (aw l.xs))) (i:=i) (by omega)
  have zr:=KA (f:=mM) hz
  refine Gc ?_
  iterate 2 refine Gs ?_
  refine Gc ?_
  iterate 2 refine Gs ?_
  refine ah (bl rfl rfl i rfl (by omega)) ?_
  refine ah (aH rfl rfl) ?_
  refine ah (bO (j:=3) rfl i zr rfl (by decide)) ?_
  refine Gc ?_
  refine av rfl (fun h1=> ?_) (fun h1=> ?_)
  ·
   replace h1:=bz h1
   have hf:mM z=bb:=by rw[mM,if_pos h1]
   refine Gi ?_
   iterate 2 refine Gs ?_
   refine ah (cU (v:= .agg (bu bb)) rfl Cu) ?_
   refine ah (bl rfl rfl i rfl (by omega)) ?_
   refine kJ (n:=4) (k:=i) (j:=0) (a:=z) (a':=bb) (xs:=(((iw (cv xc) (aw l.xs)).take i).map mM++(iw (cv xc) (aw l.xs)).drop i)) (enc:=bu) (c:=4) (v:= .agg (bu bb)) (by kernel_rfl) rfl rfl rfl zr (bx.one (enc:=bu) (c:=4) _) rfl (by decide) (by rfl) ?_
   refine Gc ?_
   iterate 2 refine Gs ?_
   refine Gi ?_
   exact bD (x:=(i)) (i+1) (by first|omega|(simp only[];omega)) (by first|omega|(simp only[];omega)) (Sub.cons rfl (Sub.cons rfl (Sub.cons rfl (Sub.nil _)))) (fun w hw=>by rw[←Ky hz,hf];exact ai.mem hw)
  ·
   replace h1:=bz h1
   have hf:mM z=z:=by rw[mM,if_neg (by rw[h1];simp)]
   refine Gc ?_
   iterate 2 refine Gs ?_
   refine Gi ?_
   exact bD (x:=(i)) (i+1) (by first|omega|(simp only[];omega)) (by first|omega|(simp only[];omega)) (Sub.cons rfl (Sub.cons rfl (Sub.cons rfl (Sub.nil _)))) (fun w hw=>by rw[←Kz hz hf];exact ai.mem hw)
 ·
  replace h0:=bz h0
  obtain rfl:i=(iw (cv xc) (aw l.xs)).length:=by omega
  have hE:aB (cv xc) (aw l.xs)=(((iw (cv xc) (aw l.xs)).take (iw (cv xc) (aw l.xs)).length).map mM++(iw (cv xc) (aw l.xs)).drop (iw (cv xc) (aw l.xs)).length):=by rw[aB,List.take_length,List.drop_length,List.append_nil]
  refine Gc ?_
  iterate 2 refine Gs ?_
  refine Gc ?_
  refine au (.inl rfl) (aM rfl (aq rfl)) (fun w1 hw=> ?_)
  exact⟨F9,rfl,trivial,by rw[hE];exact ai.mem hw⟩
instance Ga{w0:World}{L:List aj}{xb:Nat}{xc:Cp}{xa:Sl Int}{xg:UInt64}{xl:Int}{xy:Bool}{l:Sl (Sl Int)}[eM:lg w0 L xb (aL (⟨⟨xc,xa,xg,xl⟩,xy⟩:aQ)) 141][dQ:aW w0 L xc][hl:aW w0 L l]:cr Tryz.prog 165 w0 L [.pointer (some ⟨xb,0,none⟩),l.sv.val] (Sv) (fun zz=>zz.val) (fun zz=>own bu 4 zz (aB (cv xc) (aw l.xs))::L) (fun zz=>True) (pV (cv xc) (aw l.xs)):=⟨fun hp w hw=>(Wk w xb xc xa xg xl xy l (eM.h w hw) (dQ.h w hw) (hl.h w hw) hp).mono fun e w' ⟨x,h1,h2,h3⟩=>⟨x,h1,h2,hw.call h3⟩⟩
theorem Wl(w:World)(s:Sv)(ss:List aA)(hs:bV bu 4 (hp w) s ss)(bc:ss.length≤1000000):Calls Tryz.prog 180 #[s.val] w fun e w'=> ∃zz:Sv,e= .returned (zz.val)∧(True)∧Mem w [own bu 4 zz ss] w':=by
 have vb:Gv w s bu 4 ss:=⟨hs⟩
 refine bf (args:=[_]) Tryz.func180 rfl Tryz.ntmps180 rfl ?_
 change Cw _ _ _ _ _ [(0,s.val)] []
 refine Gc ?_
 refine Gs ?_
 refine Gc ?_
 refine Gs ?_
 refine ah (rD Tryz.underlying43 rfl) ?_
 refine Gc ?_
 refine av rfl (fun h0=> ?_) (fun h0=> ?_)
 ·
  replace h0:=bz h0
  have e0:ss=[]:=List.length_eq_zero_iff.1 (by have:=hs.ok.nil h0;have:=hs.len;omega)
  refine Gc ?_
  refine Gs ?_
  refine Gc ?_
  refine au (.inl rfl) (aM rfl (aq rfl)) (fun w1 hw=> ?_)
  exact⟨Sv.none,rfl,trivial,by rw[e0];exact(ai.mem hw:Mem w [] _).dI bu 4⟩
 ·
  replace h0:=bz h0
  refine Gc ?_
  refine sL bu fun b5=> ?_
  refine Gs ?_
  refine lN (s:=⟨false,b5,0,0,0,none⟩) (enc:=bu) (ys:=ss) rfl rfl (by decide) (fun w hw=>kI (s:=s) Tryz.underlying43 (by decide) ((inferInstance:c6 _ _ bu 4 s ss).h w hw)) (by simp only[List.length_nil];omega) (by simp only[List.length_nil];omega) fun s7 vc tn=> ?_
  refine Gs ?_
  refine Gc ?_
  refine au (.inl rfl) (aM rfl (aq rfl)) (fun w1 hw=> ?_)
  exact⟨s7,rfl,trivial,by rw[List.nil_append]at hw;exact ai.mem hw⟩
instance ahm{w0:World}{L:List aj}{s:Sv}{ss:List aA}[hs:c6 w0 L bu 4 s ss]:cr Tryz.prog 180 w0 L [s.val] (Sv) (fun zz=>zz.val) (fun zz=>own bu 4 zz ss::L) (fun zz=>True) (ss.length≤1000000):=⟨fun hp w hw=>(Wl w s ss (hs.h w hw) hp).mono fun e w' ⟨x,h1,h2,h3⟩=>⟨x,h1,h2,hw.call h3⟩⟩
theorem Wm(w:World)(f:FuncId)(jP:Array Value)(R:aA→Bool)(hr:qe Tryz.prog w [] f jP bu R)(l:Sv)(ls:List aA)(hl:bV bu 4 (hp w) l ls)(bc:ls.length≤1000000):Calls Tryz.prog 169 #[l.val, .func (.func f) #[] jP] w fun e w'=> ∃zz:Sv,e= .returned (zz.val)∧(True)∧Mem w [own bu 4 zz (bX R ls)] w':=by
 have ov:Gv w l bu 4 ls:=⟨hl⟩
 have Vp:=hr.fn
 have tm: ∀i,i≤ls.length→((ls.take i).map (iI R)++ls.drop i).length=ls.length:=fun i hi=>by rw[List.length_append,List.length_map,List.length_take,List.length_drop];omega
 refine bf (args:=[_,_]) Tryz.func169 rfl Tryz.ntmps169 rfl ?_
 change Cw _ _ _ _ _ [(0,l.val),(1, .func (.func f) #[] jP)] []
 refine Gc ?_
 refine Gs ?_
 refine Gc ?_
 refine Gs ?_
 refine br rfl (by omega) fun x9 zh=> ?_
 refine Gs ?_
 refine Gc ?_
 iterate 3 refine Gs ?_
 refine Gc ?_
 refine cg (X:=Nat) (fun zz=>[(12, .int .i64 (zz:Nat)),(5,x9.val),(10,x9.val),(1, .func (.func f) #[] jP),(11, .int .i64 (ls.length:Nat))]) (fun zz=>[own bu 4 x9 ((ls.take zz).map (iI R)++ls.drop zz)]) (fun zz=>zz≤ls.length) (fun zz=>ls.length -zz) 0 (Nat.zero_le _) (Sub.cons rfl (Sub.cons rfl (Sub.cons rfl (Sub.cons rfl (Sub.cons rfl (Sub.nil _)))))) (fun w hw=>by simp only[List.take_zero,List.map_nil,List.nil_append,List.drop_zero];exact ai.mem hw) ?_
 rintro i bk
 have tr:=tm i bk
 refine Gc ?_
 refine Gs ?_
 refine Gc ?_
 refine av rfl (fun h0=> ?_) (fun h0=> ?_)
 ·
  replace h0:=bz h0
  obtain⟨z,hz⟩:=get_some (xs:=ls) (i:=i) (by omega)
  have zr:=KA (f:=iI R) hz
  refine Gc ?_
  refine Gs ?_
  refine ah (bl rfl rfl i rfl (by omega)) ?_
  refine ah (hH rfl i zr rfl) ?_
  refine bN fun b7=> ?_
  iterate 2 refine Gs ?_
  refine Gc ?_
  iterate 3 refine Gs ?_
  refine Gg ?_
  refine ca rfl rfl rfl (fun hg=>(Ry.yl (fN rfl))) ?_
  refine ca rfl rfl rfl (fun hg=>Cb (f:=f) (vs:=[.agg (bu z)]) (aI hg rfl) (dP (aI hg rfl) gP) (fun w1 lJ=>hr.h w1 (ai.mem lJ) z)) ?_
  refine ca rfl rfl rfl (fun hg=>(Ry.yl (iu (aI hg rfl)))) ?_
  refine Gs ?_
  refine Gc ?_
  refine av rfl (fun h1=> ?_) (fun h1=> ?_)
  ·
   replace h1:=bz h1
   have hf:iI R z=bb:=by rw[iI,if_pos (by simpa using h1)]
   refine Gi ?_
   iterate 2 refine Gs ?_
   refine ah (cU (v:= .agg (bu bb)) rfl Cu) ?_
   refine ah (bl rfl rfl i rfl (by omega)) ?_
   refine kJ (n:=4) (k:=i) (j:=0) (a:=z) (a':=bb) (xs:=((ls.take i).map (iI R)++ls.drop i)) (enc:=bu) (c:=4) (v:= .agg (bu bb)) (by kernel_rfl) rfl rfl rfl zr (bx.one (enc:=bu) (c:=4) _) rfl (by decide) (by rfl) ?_
   refine Gc ?_
   iterate 2 refine Gs ?_
   refine Gi ?_
   exact bD (x:=(i)) (i+1) (by first|omega|(simp only[];omega)) (by first|omega|(simp only[];omega)) (Sub.cons rfl (Sub.cons rfl (Sub.cons rfl (Sub.cons rfl (Sub.cons rfl (Sub.nil _)))))) (fun w hw=>by rw[←Ky hz,hf];exact ai.mem hw)
  ·
   replace h1:=bz h1
   have hf:iI R z=z:=by rw[iI,if_neg (by simpa using h1)]
   refine Gc ?_
   iterate 2 refine Gs ?_
   refine Gi ?_
   exact bD (x:=(i)) (i+1) (by first|omega|(simp only[];omega)) (by first|omega|(simp only[];omega)) (Sub.cons rfl (Sub.cons rfl (Sub.cons rfl (Sub.cons rfl (Sub.cons rfl (Sub.nil _)))))) (fun w hw=>by rw[←Kz hz hf];exact ai.mem hw)
 ·
  replace h0:=bz h0
  obtain rfl:i=ls.length:=by omega
  have hE:bX R ls=((ls.take ls.length).map (iI R)++ls.drop ls.length):=by rw[bX,List.take_length,List.drop_length,List.append_nil]
  refine Gc ?_
  iterate 2 refine Gs ?_
  refine Gc ?_
  refine au (.inl rfl) (aM rfl (aq rfl)) (fun w1 hw=> ?_)
  exact⟨x9,rfl,trivial,by rw[hE];exact ai.mem hw⟩
instance ahn{w0:World}{L:List aj}{f:FuncId}{jP:Array Value}{R:aA→Bool}{l:Sv}{ls:List aA}[rq:qe Tryz.prog w0 L f jP bu R][hl:c6 w0 L bu 4 l ls]:cr Tryz.prog 169 w0 L [l.val, .func (.func f) #[] jP] (Sv) (fun zz=>zz.val) (fun zz=>own bu 4 zz (bX R ls)::L) (fun zz=>True) (ls.length≤1000000):=⟨fun hp w hw=>(Wm w f jP R (rq.at hw) l ls (hl.h w hw) hp).mono fun e w' ⟨x,h1,h2,h3⟩=>⟨x,h1,h2,hw.call h3⟩⟩
open Go.ay Go.Kb
open Go.RowKit
instance:fh Tryz.prog 3 (.int .i64 0):=⟨by kernel_rfl⟩
theorem zt(a:Sl Int):aw [a]=a.xs:=by simp[aw]
theorem Gb(a b:Sl Int):aw [a,b]=a.xs++b.xs:=by simp[aw]
theorem Wn(w:World)(xb:Nat)(xc:Cp)(xa:Sl Int)(xg:UInt64)(xl:Int)(xy:Bool)(eM:w.heap[xb]? =Option.some (.cells (aL (⟨⟨xc,xa,xg,xl⟩,xy⟩:aQ)) 141 (0,0)))(dQ:Deep.bh (hp w) xc)(mQ:Deep.bh (hp w) xa)(bc:pV (cv xc) xa.xs):Calls Tryz.prog 150 #[.pointer (some ⟨xb,0,none⟩)] w fun e w'=>e= .returned (.tuple #[.int .i64 ((mR (cv xc) xa.xs).1), .int .i64 ((mR (cv xc) xa.xs).2)])∧Mem w [] w':=by
 have r9:ph w xb (aL (⟨⟨xc,xa,xg,xl⟩,xy⟩:aQ)) 141:=⟨eM⟩
 have sa:cC w xc:=⟨dQ⟩
 have aho:cC w xa:=⟨mQ⟩
 have ow:pV (cv xc) (aw [xa]):=by rw[zt];exact bc
 have hk:=bc.1.1
 have Mm: ∀z∈(aB (cv xc) (aw [xa])),BI (cv xc) (aw [xa]).length z:=fun z hz=>s8 hk hz
 have tq:=KJ hk (aB (cv xc) (aw [xa])) Mm
 have rf:=j7 (cv xc) (aw [xa])
 have hd:=fa hk
 change _∧_∧1≤xc.ae∧xc.ae≤16∧_∧_ at hd
 refine bf (args:=[_]) Tryz.func150 rfl Tryz.ntmps150 rfl ?_
 change Cw _ _ _ _ _ [(0, .pointer (some ⟨xb,0,none⟩))] []
 refine Gc ?_
 iterate 2 refine Gs ?_
 refine Gc ?_
 iterate 2 refine Gs ?_
 refine Gc ?_
 iterate 5 refine Gs ?_
 refine ah (Ry.to (v':=xa.sv.val) (l8 rfl) rfl) ?_
 refine oK (enc:=cc) (vals:=[xa.sv.val]) [xa] rfl (by simp only[List.map_cons,List.map_nil,Sv.iQ];rfl) rfl (by decide) (by decide) fun Wo=> ?_
 refine br (hc:=Ga (l:=(⟨⟨false,Wo,0,1,1,none⟩,[xa]⟩:Sl (Sl Int)))) rfl ow fun aD ki=> ?_
 iterate 2 refine Gs ?_
 refine Gc ?_
 refine cg (X:=Nat) (fun zz=>[(18, .int .i64 (zz:Nat)),(4, .int .i64 ((fu xc.ae ((aB (cv xc) (aw [xa])).take zz)).1)),(5, .int .i64 ((fu xc.ae ((aB (cv xc) (aw [xa])).take zz)).2)),(0, .pointer (some ⟨xb,0,none⟩)),(16,aD.val),(17, .int .i64 ((aB (cv xc) (aw [xa])).length:Nat))]) (fun zz=>[own bu 4 aD (aB (cv xc) (aw [xa]))]) (fun zz=>zz≤(aB (cv xc) (aw [xa])).length) (fun zz=>(aB (cv xc) (aw [xa])).length -zz) 0 (Nat.zero_le _) (Sub.cons rfl (Sub.cons (look_eq rfl (by rw[List.take_zero];rfl)) (Sub.cons (look_eq rfl (by rw[List.take_zero];rfl)) (Sub.cons rfl (Sub.cons rfl (Sub.cons rfl (Sub.nil _))))))) (fun w hw=>ai.mem hw) ?_
 rintro i bk
 refine Gc ?_
 refine Gs ?_
 refine Gc ?_
 refine av rfl (fun h0=> ?_) (fun h0=> ?_)
 ·
  replace h0:=bz h0
  obtain⟨z,hz⟩:=get_some (xs:=(aB (cv xc) (aw [xa]))) (i:=i) (by omega)
  have eL:=KI (p:=xc.ae) hz
  have ht:=Mm z (List.mem_of_getElem? hz)
  have Mn:=ht.y0
  have Mo:z.used≤xc.ae:=ht.wO
  have gF:0≤(fu xc.ae ((aB (cv xc) (aw [xa])).take i)).1∧(fu xc.ae ((aB (cv xc) (aw [xa])).take i)).1≤16*(i:Int)∧0≤(fu xc.ae ((aB (cv xc) (aw [xa])).take i)).2∧(fu xc.ae ((aB (cv xc) (aw [xa])).take i)).2≤16:=tq i (by omega)
  refine Gc ?_
  refine ah (bl rfl rfl i rfl (by omega)) ?_
  refine ah (hH rfl i hz rfl) ?_
  refine bN fun b7=> ?_
  refine Gs ?_
  refine Gc ?_
  iterate 2 refine Gs ?_
  refine Gc ?_
  refine av rfl (fun h1=> ?_) (fun h1=> ?_)
  ·
   replace h1:=bz h1
   have bG:(fu xc.ae ((aB (cv xc) (aw [xa])).take (i+1)))=(fu xc.ae ((aB (cv xc) (aw [xa])).take i)):=by rw[eL,uV,if_pos h1]
   refine Gc ?_
   iterate 2 refine Gs ?_
   refine Gi ?_
   exact bD (x:=(i)) (i+1) (by first|omega|(simp only[];omega)) (by first|omega|(simp only[];omega)) (Sub.cons rfl (Sub.cons (look_eq rfl (by rw[bG])) (Sub.cons (look_eq rfl (by rw[bG])) (Sub.cons rfl (Sub.cons rfl (Sub.cons rfl (Sub.nil _))))))) (fun w hw=>ai.mem hw)
  ·
   replace h1:=bz h1
   have oX: ¬z.bad=true:=by rw[h1];simp
   refine Gc ?_
   refine iF (by kernel_rfl) (by kernel_rfl) ?_
   iterate 5 refine Gq ?_
   refine bm (Ry.to (v':= .int .i64 xc.ae) (l8 rfl) rfl) ?_
   iterate 4 refine Gq ?_
   refine Gc ?_
   iterate 3 refine Gs ?_
   refine Gc ?_
   refine av rfl (fun h2=> ?_) (fun h2=> ?_)
   ·
    replace h2:=bz h2
    refine Gc ?_
    iterate 2 refine Gs ?_
    refine Gc ?_
    refine av rfl (fun h3=> ?_) (fun h3=> ?_)
    ·
     replace h3:=bz h3
     have hN:p0 xc.ae z=xc.ae:=by rw[p0,if_pos ⟨h2,h3⟩]
     have bG:(fu xc.ae ((aB (cv xc) (aw [xa])).take (i+1)))=((fu xc.ae ((aB (cv xc) (aw [xa])).take i)).1+xc.ae,max (fu xc.ae ((aB (cv xc) (aw [xa])).take i)).2 xc.ae):=by rw[eL,uV,if_neg oX,if_pos h2,hN]
     refine Gi ?_
     iterate 5 refine Gs ?_
     refine ah (Ry.to (v':= .int .i64 xc.ae) (l8 rfl) rfl) ?_
     refine Gs ?_
     refine Gc ?_
     iterate 2 refine Gs ?_
     refine ah (ud rfl rfl) ?_
     refine Gs ?_
     refine Gc ?_
     iterate 4 refine Gs ?_
     refine Gc ?_
     iterate 2 refine Gs ?_
     refine Gi ?_
     exact bD (x:=(i)) (i+1) (by first|omega|(simp only[];omega)) (by first|omega|(simp only[];omega)) (Sub.cons rfl (Sub.cons (look_eq rfl (by rw[bG])) (Sub.cons (look_eq rfl (by rw[bG])) (Sub.cons rfl (Sub.cons rfl (Sub.cons rfl (Sub.nil _))))))) (fun w hw=>ai.mem hw)
    ·
     replace h3:=bz h3
     have hN:p0 xc.ae z=xc.ae -z.used:=by rw[p0,if_neg (fun h=>h3 h.2)]
     have bG:(fu xc.ae ((aB (cv xc) (aw [xa])).take (i+1)))=((fu xc.ae ((aB (cv xc) (aw [xa])).take i)).1+(xc.ae -z.used),max (fu xc.ae ((aB (cv xc) (aw [xa])).take i)).2 (xc.ae -z.used)):=by rw[eL,uV,if_neg oX,if_pos h2,hN]
     refine Gc ?_
     iterate 2 refine Gs ?_
     refine ah (ud rfl rfl) ?_
     refine Gs ?_
     refine Gc ?_
     iterate 4 refine Gs ?_
     refine Gc ?_
     iterate 2 refine Gs ?_
     refine Gi ?_
     exact bD (x:=(i)) (i+1) (by first|omega|(simp only[];omega)) (by first|omega|(simp only[];omega)) (Sub.cons rfl (Sub.cons (look_eq rfl (by rw[bG])) (Sub.cons (look_eq rfl (by rw[bG])) (Sub.cons rfl (Sub.cons rfl (Sub.cons rfl (Sub.nil _))))))) (fun w hw=>ai.mem hw)
   ·
    replace h2:=bz h2
    have hN:p0 xc.ae z=xc.ae -z.used:=by rw[p0,if_neg (fun h=>h2 h.1)]
    have bG:(fu xc.ae ((aB (cv xc) (aw [xa])).take (i+1)))=((fu xc.ae ((aB (cv xc) (aw [xa])).take i)).1+(xc.ae -z.used),(fu xc.ae ((aB (cv xc) (aw [xa])).take i)).2):=by rw[eL,uV,if_neg oX,if_neg h2,hN]
    refine Gc ?_
    iterate 4 refine Gs ?_
    refine Gc ?_
    iterate 2 refine Gs ?_
    refine Gi ?_
    exact bD (x:=(i)) (i+1) (by first|omega|(simp only[];omega)) (by first|omega|(simp only[];omega)) (Sub.cons rfl (Sub.cons (look_eq rfl (by rw[bG])) (Sub.cons (look_eq rfl (by rw[bG])) (Sub.cons rfl (Sub.cons rfl (Sub.cons rfl (Sub.nil _))))))) (fun w hw=>ai.mem hw)
 ·
  replace h0:=bz h0
  obtain rfl:i=(aB (cv xc) (aw [xa])).length:=by omega
  have hE:mR (cv xc) xa.xs=((fu xc.ae ((aB (cv xc) (aw [xa])).take (aB (cv xc) (aw [xa])).length)).1 -(fu xc.ae ((aB (cv xc) (aw [xa])).take (aB (cv xc) (aw [xa])).length)).2,(fu xc.ae ((aB (cv xc) (aw [xa])).take (aB (cv xc) (aw [xa])).length)).1):=by rw[mR,←zt xa,List.take_length];rfl
  have gF:0≤(fu xc.ae ((aB (cv xc) (aw [xa])).take (aB (cv xc) (aw [xa])).length)).1∧(fu xc.ae ((aB (cv xc) (aw [xa])).take (aB (cv xc) (aw [xa])).length)).1≤16*((aB (cv xc) (aw [xa])).length:Int)∧0≤(fu xc.ae ((aB (cv xc) (aw [xa])).take (aB (cv xc) (aw [xa])).length)).2∧(fu xc.ae ((aB (cv xc) (aw [xa])).take (aB (cv xc) (aw [xa])).length)).2≤16:=tq (aB (cv xc) (aw [xa])).length (Nat.le_refl _)
  refine Gc ?_
  iterate 6 refine Gs ?_
  refine Gc ?_
  refine au (.inl rfl) (bo rfl (aq rfl) (aq rfl)) (fun w1 hw=> ?_)
  exact⟨by rw[hE],ai.mem hw⟩
instance ahp{w0:World}{L:List aj}{xb:Nat}{xc:Cp}{xa:Sl Int}{xg:UInt64}{xl:Int}{xy:Bool}[eM:lg w0 L xb (aL (⟨⟨xc,xa,xg,xl⟩,xy⟩:aQ)) 141][dQ:aW w0 L xc][mQ:aW w0 L xa]:cL Tryz.prog 150 w0 L [.pointer (some ⟨xb,0,none⟩)] (.tuple #[.int .i64 ((mR (cv xc) xa.xs).1), .int .i64 ((mR (cv xc) xa.xs).2)]) (pV (cv xc) xa.xs):=⟨fun hp w hw=>Wn w xb xc xa xg xl xy (eM.h w hw) (dQ.h w hw) (mQ.h w hw) hp⟩
theorem Wp(w:World)(x:aA):Calls Tryz.prog 175 #[.agg (bu x)] w fun e w'=>e= .returned (.bool (uU x))∧Mem w [] w':=by
 refine bf (args:=[_]) Tryz.func175 rfl Tryz.ntmps175 rfl ?_
 change Cw _ _ _ _ _ [(0, .agg (bu x))] []
 refine Gc ?_
 refine cq rfl fun b1=> ?_
 refine Gs ?_
 refine Gc ?_
 iterate 4 refine Gs ?_
 refine Gc ?_
 refine au (.inl rfl) (aM rfl (aq rfl)) (fun w1 hw=> ?_)
 exact⟨congrArg (fun b=>Ending.returned (Value.bool b)) (rfl),ai.mem hw⟩
instance {w0:World}{L:List aj}:qe Tryz.prog w0 L 175 #[] bu uU:=⟨inferInstance,fun w _ x=>Wp w x⟩
theorem Wq(w:World)(x:aA):Calls Tryz.prog 176 #[.agg (bu x)] w fun e w'=>e= .returned (.bool (gE x))∧Mem w [] w':=by
 refine bf (args:=[_]) Tryz.func176 rfl Tryz.ntmps176 rfl ?_
 change Cw _ _ _ _ _ [(0, .agg (bu x))] []
 refine Gc ?_
 refine cq rfl fun b1=> ?_
 refine Gs ?_
 refine Gc ?_
 iterate 4 refine Gs ?_
 refine Gc ?_
 refine au (.inl rfl) (aM rfl (aq rfl)) (fun w1 hw=> ?_)
 exact⟨congrArg (fun b=>Ending.returned (Value.bool b)) (rfl),ai.mem hw⟩
instance {w0:World}{L:List aj}:qe Tryz.prog w0 L 176 #[] bu gE:=⟨inferInstance,fun w _ x=>Wq w x⟩
theorem Wr(w0 w:World)(L:List aj)(k:Nat)(xc:Cp)(xa:Sl Int)(xg:UInt64)(xl:Int)(xy:Bool)(l:Sl (Sl Int))[hl:aW w0 L l](hw:Mem w0 (ar k (aL (⟨⟨xc,xa,xg,xl⟩,xy⟩:aQ)) 141::fz xc::L) w)(bc:aS (cv xc)=true∧3≤(cv xc).blocks.length∧hU (cv xc) (aw l.xs)∧(aw l.xs).length≤1000):Calls Tryz.prog 153 #[.pointer (some ⟨k,0,none⟩),l.sv.val] w fun e w'=> ∃zz:Cp,e= .returned (.tuple #[.int .i64 ((bg (cv xc) (aw l.xs) xy).2.1), .int .i64 ((bg (cv xc) (aw l.xs) xy).2.2)])∧(cv zz=(bg (cv xc) (aw l.xs) xy).1)∧Mem w0 (ar k (aL (⟨⟨zz,xa,xg,xl⟩,xy⟩:aQ)) 141::fz zz::L) w':=by
 obtain⟨hk,xv,vk,nw⟩:=bc
 have ow:=vk.kn hk (by omega) (by omega)
 have hd:=fa hk
 have rf:=j7 (cv xc) (aw l.xs)
 refine kt (args:=[_,_]) Tryz.func153 rfl Tryz.ntmps153 rfl hw ?_
 change Cw _ _ _ _ _ [(0, .pointer (some ⟨k,0,none⟩)),(1,l.sv.val)] (ar k (aL (⟨⟨xc,xa,xg,xl⟩,xy⟩:aQ)) 141::fz xc::L)
 refine Gc ?_
 iterate 2 refine Gs ?_
 refine Gc ?_
 refine jm [2] [[],[],[],[],[],[],[],[],[],[2],[2]] [0,1,3,4,5,6,7,8,2,9,10] [ar k (aL (⟨⟨xc,xa,xg,xl⟩,xy⟩:aQ)) 141,fz xc] (fun _ hw=>ai.mem hw) (by kernel_rfl) (by kernel_rfl) ?_
 refine an rfl (aF rfl) ?_
 refine an rfl (aF rfl) ?_
 refine an rfl (aF rfl) ?_
 refine an rfl (jG rfl) ?_
 refine an rfl (aH (o':=0) rfl rfl) ?_
 refine an rfl (aH (o':=0) rfl rfl) ?_
 refine an rfl (aH (o':=0) rfl rfl) ?_
 refine an rfl (Ry.to (v':= .int .i64 xc.ae) (bI rfl) rfl) ?_
 refine dy rfl (nr rfl ow fun gN vd=>⟨fun _ hw=>ai.mem hw,?_⟩)
 refine an rfl (bn rfl) ?_
 refine an rfl (bn rfl) ?_
 refine Gc ?_
 refine Gs ?_
 refine br rfl (by omega) fun w9 FO=> ?_
 iterate 3 refine Gs ?_
 refine ah (aV (v:= .int .i64 ((eU (bX uU (aB (cv xc) (aw l.xs))) xc.ae).1)) rfl rfl) ?_
 refine ah (aV (v:= .bool ((eU (bX uU (aB (cv xc) (aw l.xs))) xc.ae).2)) rfl rfl) ?_
 iterate 2 refine Gs ?_
 refine Gc ?_
 refine Gs ?_
 refine Gc ?_
 refine av rfl (fun h0=> ?_) (fun h0=> ?_)
 ·
  replace h0:=bz h0
  have nI:(mO (cv xc) (aw l.xs)).2=true:=h0
  have hE:(bg (cv xc) (aw l.xs) xy)=(cv xc,(mO (cv xc) (aw l.xs)).1+2,0):=by rw[bg,if_pos nI]
  have mW:=KE nI
  change 0≤(eU (bX uU (aB (cv xc) (aw l.xs))) xc.ae).1∧(eU (bX uU (aB (cv xc) (aw l.xs))) xc.ae).1<_∧_ at mW
  refine Gc ?_
  iterate 4 refine Gs ?_
  refine Gc ?_
  refine au (.inl rfl) (bo rfl (aq rfl) (aq rfl)) (fun w1 hw=> ?_)
  exact⟨xc,by rw[hE];rfl,by rw[hE],ai.mem hw⟩
 ·
  replace h0:=bz h0
  have nI: ¬(mO (cv xc) (aw l.xs)).2=true:=fun h=>by rw[show(mO (cv xc) (aw l.xs)).2=false from h0]at h;cases h
  refine Gc ?_
  refine Gs ?_
  refine Gc ?_
  iterate 3 refine Gs ?_
  refine Gc ?_
  refine cg (X:=Nat) (fun zz=>[(39, .int .i64 (zz:Nat)),(10, .int .i64 ((((aB (cv xc) (aw l.xs)).take zz).filter fun z=> !z.bad&&decide (z.live=0)).length:Nat)),(0, .pointer (some ⟨k,0,none⟩)),(6,gN.val),(7, .int .i64 xc.ae),(37,gN.val),(38, .int .i64 ((aB (cv xc) (aw l.xs)).length:Nat))]) (fun zz=>ar k (aL (⟨⟨xc,xa,xg,xl⟩,xy⟩:aQ)) 141::fz xc::own bu 4 gN (aB (cv xc) (aw l.xs))::L) (fun zz=>zz≤(aB (cv xc) (aw l.xs)).length) (fun zz=>(aB (cv xc) (aw l.xs)).length -zz) 0 (Nat.zero_le _) (Sub.cons rfl (Sub.cons rfl (Sub.cons rfl (Sub.cons rfl (Sub.cons rfl (Sub.cons rfl (Sub.cons rfl (Sub.nil _)))))))) (fun w hw=>ai.mem hw) ?_
  rintro i bk
  refine Gc ?_
  refine Gs ?_
  refine Gc ?_
  refine av rfl (fun h1=> ?_) (fun h1=> ?_)
  ·
   replace h1:=bz h1
   obtain⟨z,hz⟩:=get_some (xs:=(aB (cv xc) (aw l.xs))) (i:=i) (by omega)
   have eL:=SY hz
   have hle:=SZ ((aB (cv xc) (aw l.xs)).take i)
   rw[List.length_take]at hle
   refine Gc ?_
   refine ah (bl rfl rfl i rfl (by omega)) ?_
   refine ah (hH rfl i hz rfl) ?_
   refine bN fun kh=> ?_
   refine Gs ?_
   refine Gc ?_
   iterate 4 refine Gs ?_
   iterate 3 refine Gg ?_
   refine Gs ?_
   refine Gc ?_
   refine av rfl (fun h2=> ?_) (fun h2=> ?_)
   ·
    replace h2:=bz h2
    rw[if_pos (by simpa using h2)]at eL
    refine Gi ?_
    iterate 3 refine Gs ?_
    refine Gc ?_
    iterate 2 refine Gs ?_
    refine Gi ?_
    exact bD (x:=(i)) (i+1) (by first|omega|(simp only[];omega)) (by first|omega|(simp only[];omega)) (Sub.cons rfl (Sub.cons (look_eq rfl (by rw[eL];rfl)) (Sub.cons rfl (Sub.cons rfl (Sub.cons rfl (Sub.cons rfl (Sub.cons rfl (Sub.nil _)))))))) (fun w hw=>ai.mem hw)
   ·
    replace h2:=bz h2
    rw[if_neg (fun g=>h2.elim (fun h=>absurd (h.symm.trans g.1) (by simp)) (fun h=>h g.2))]at eL
    refine Gc ?_
    iterate 2 refine Gs ?_
    refine Gi ?_
    exact bD (x:=(i)) (i+1) (by first|omega|(simp only[];omega)) (by first|omega|(simp only[];omega)) (Sub.cons rfl (Sub.cons (look_eq rfl (by rw[eL,Nat.add_zero])) (Sub.cons rfl (Sub.cons rfl (Sub.cons rfl (Sub.cons rfl (Sub.cons rfl (Sub.nil _)))))))) (fun w hw=>ai.mem hw)
  ·
   replace h1:=bz h1
   obtain rfl:i=(aB (cv xc) (aw l.xs)).length:=by omega
   have gX:fI (aB (cv xc) (aw l.xs))=(((aB (cv xc) (aw l.xs)).take (aB (cv xc) (aw l.xs)).length).filter fun z=> !z.bad&&decide (z.live=0)).length:=by rw[fI,List.take_length]
   refine Gc ?_
   iterate 3 refine Gs ?_
   iterate 2 refine Gg ?_
   refine ca rfl rfl rfl (fun hg=>(Ry.yl (aF (aI hg rfl)))) ?_
   refine ry rfl rfl rfl (fun hg=>(Ry.yl (aF rfl))) ?_
   refine ry rfl rfl rfl (fun hg=>(Ry.yl (jG (aI hg rfl)))) ?_
   refine ry rfl rfl rfl (fun hg=>(Ry.yl (aH (o':=9) (aI hg rfl) rfl))) ?_
   refine ry rfl rfl rfl (fun hg=>(Ry.yl (Ry.to (v':= .bool xy) (bI (aI hg rfl)) rfl))) ?_
   refine ry rfl rfl rfl (fun hg=>(Ry.yl (iu (aI hg rfl)))) ?_
   refine ca rfl rfl rfl (fun hg=>(Ry.yl (yb (aI hg rfl) (yi hg rfl) rfl))) ?_
   refine Gs ?_
   refine Gc ?_
   refine av rfl (fun h3=> ?_) (fun h3=> ?_)
   ·
    replace h3:=bz h3
    have nJ:fI (aB (cv xc) (aw l.xs))=0∨(fI (aB (cv xc) (aw l.xs))=1∧xy=false):=by
     rw[gX]
     rcases h3 with h|h
     ·
      exact .inl (by omega)
     ·
      exact .inr ⟨by omega,h.2⟩
    have hE:(bg (cv xc) (aw l.xs) xy)=(cv xc,0,5):=by rw[bg,if_neg nI,if_pos nJ]
    refine Gc ?_
    iterate 2 refine Gs ?_
    refine Gc ?_
    refine au (.inl rfl) (bo rfl (aq rfl) (aq rfl)) (fun w1 hw=> ?_)
    exact⟨xc,by rw[hE],by rw[hE],ai.mem hw⟩
   ·
    replace h3:=bz h3
    have nJ: ¬(fI (aB (cv xc) (aw l.xs))=0∨(fI (aB (cv xc) (aw l.xs))=1∧xy=false)):=by
     rw[gX]
     rintro(h|h)
     ·
      exact h3.1 (by omega)
     ·
      rcases h3.2 with g|g
      ·
       exact g (by omega)
      ·
       rw[h.2]at g;cases g
    refine Gc ?_
    refine Gs ?_
    refine br rfl (by omega) fun eE Gd=> ?_
    refine Gs ?_
    refine Gc ?_
    iterate 4 refine Gs ?_
    refine ah (aV (v:= .int .i64 ((eU (bX gE (aB (cv xc) (aw l.xs))) xc.ae).1)) rfl rfl) ?_
    refine ah (aV (v:= .bool ((eU (bX gE (aB (cv xc) (aw l.xs))) xc.ae).2)) rfl rfl) ?_
    iterate 2 refine Gs ?_
    refine Gc ?_
    refine Gs ?_
    refine Gc ?_
    refine av rfl (fun h4=> ?_) (fun h4=> ?_)
    ·
     replace h4:=bz h4
     have jb:(kP (cv xc) (aw l.xs)).2=true:=h4
     have hE:(bg (cv xc) (aw l.xs) xy)=(cv xc,(kP (cv xc) (aw l.xs)).1+2,0):=by rw[bg,if_neg nI,if_neg nJ,if_pos jb]
     have mW:=KF jb
     change 0≤(eU (bX gE (aB (cv xc) (aw l.xs))) xc.ae).1∧(eU (bX gE (aB (cv xc) (aw l.xs))) xc.ae).1<_∧_ at mW
     refine Gc ?_
     iterate 4 refine Gs ?_
     refine Gc ?_
     refine au (.inl rfl) (bo rfl (aq rfl) (aq rfl)) (fun w1 hw=> ?_)
     exact⟨xc,by rw[hE];rfl,by rw[hE],ai.mem hw⟩
    ·
     replace h4:=bz h4
     have jb: ¬(kP (cv xc) (aw l.xs)).2=true:=fun h=>by rw[show(kP (cv xc) (aw l.xs)).2=false from h4]at h;cases h
     obtain⟨d1,d2,d3⟩:=E9 hk xv (fun e=>nJ (.inl e)) jb
     change 0≤(eV (bX gE (aB (cv xc) (aw l.xs))) xc.ae).1 at d1
     change(eV (bX gE (aB (cv xc) (aw l.xs))) xc.ae).1<_ at d2
     have hE:(bg (cv xc) (aw l.xs) xy)=((cE (cv xc) (mP (cv xc) (aw l.xs)+2)).1,mP (cv xc) (aw l.xs)+2,(cE (cv xc) (mP (cv xc) (aw l.xs)+2)).2):=by rw[bg,if_neg nI,if_neg nJ,if_neg jb]
     refine Gc ?_
     iterate 4 refine Gs ?_
     refine ah (aV (v:= .int .i64 ((eV (bX gE (aB (cv xc) (aw l.xs))) xc.ae).1)) rfl rfl) ?_
     refine ah (aV (v:= .bool ((eV (bX gE (aB (cv xc) (aw l.xs))) xc.ae).2)) rfl rfl) ?_
     iterate 2 refine Gs ?_
     refine Gc ?_
     iterate 5 refine Gs ?_
     refine br rfl ⟨hk,by omega,by omega⟩ fun Ws Wt=> ?_
     iterate 2 refine Gs ?_
     refine Gc ?_
     refine au (.inl rfl) (bo rfl (aq rfl) (aq rfl)) (fun w1 hw=> ?_)
     exact⟨Ws,by rw[hE];rfl,by rw[Wt,hE];rfl,ai.mem hw⟩
instance ahq{w0:World}{L R1 L2:List aj}{i0 i1:Nat}{k:Nat}{xc:Cp}{xa:Sl Int}{xg:UInt64}{xl:Int}{xy:Bool}{l:Sl (Sl Int)}[q0:Has L k (aL (⟨⟨xc,xa,xg,xl⟩,xy⟩:aQ)) 141 i0][d0:dr L i0 R1][q1:At R1 (fz xc) i1][d1:dr R1 i1 L2][hl:aW w0 L2 l]:cr Tryz.prog 153 w0 L [.pointer (some ⟨k,0,none⟩),l.sv.val] (Cp) (fun zz=> .tuple #[.int .i64 ((bg (cv xc) (aw l.xs) xy).2.1), .int .i64 ((bg (cv xc) (aw l.xs) xy).2.2)]) (fun zz=>ar k (aL (⟨⟨zz,xa,xg,xl⟩,xy⟩:aQ)) 141::fz zz::L2) (fun zz=>cv zz=(bg (cv xc) (aw l.xs) xy).1) (aS (cv xc)=true∧3≤(cv xc).blocks.length∧hU (cv xc) (aw l.xs)∧(aw l.xs).length≤1000):=⟨fun hp w hw=>Wr w0 w L2 k xc xa xg xl xy l (rW q0.h d0.h q1.h d1.h hw) hp⟩
open Go.ay Go.Kb
open Go.RowKit
theorem Wu(w0 w:World)(L:List aj)(k:Nat)(xc:Cp)(xa:Sl Int)(xg:UInt64)(xl:Int)(xy:Bool)(q:dY)(l:Sl (Sl Int))[hq:aW w0 L q][hl:aW w0 L l](hw:Mem w0 (ar k (aL (⟨⟨xc,xa,xg,xl⟩,xy⟩:aQ)) 141::fz xc::L) w)(bc:aS (cv xc)=true∧3≤(cv xc).blocks.length∧hU (cv xc) (aw l.xs)∧(aw l.xs).length≤1000):Calls Tryz.prog 127 #[.pointer (some ⟨k,0,none⟩), .agg (cI q),l.sv.val] w fun e w'=> ∃zz:Cp,e= .returned (.tuple #[.int .i64 ((c8 (cv xc) (aw l.xs) xy (cD q)).2.1), .int .i64 ((c8 (cv xc) (aw l.xs) xy (cD q)).2.2)])∧(cv zz=(c8 (cv xc) (aw l.xs) xy (cD q)).1)∧Mem w0 (ar k (aL (⟨⟨zz,xa,xg,xl⟩,xy⟩:aQ)) 141::fz zz::L) w':=by
 obtain⟨hk,xv,vk,nw⟩:=bc
 have hd:=fa hk
 have v9:1≤xc.ae∧xc.ae≤16:=⟨hd.2.2.1,hd.2.2.2.1⟩
 refine kt (args:=[_,_,_]) Tryz.func127 rfl Tryz.ntmps127 rfl hw ?_
 change Cw _ _ _ _ _ [(0, .pointer (some ⟨k,0,none⟩)),(1, .agg (cI q)),(2,l.sv.val)] (ar k (aL (⟨⟨xc,xa,xg,xl⟩,xy⟩:aQ)) 141::fz xc::L)
 refine Gc ?_
 refine cq rfl fun b4=> ?_
 iterate 2 refine Gs ?_
 refine Gc ?_
 refine jm [7] [[],[],[],[],[],[],[],[],[7],[7],[7],[7],[7]] [0,1,2,3,4,5,6,7,8,9,10,11,12] [ar b4 (cI q) 110,ar k (aL (⟨⟨xc,xa,xg,xl⟩,xy⟩:aQ)) 141,fz xc] (fun _ hw=>ai.mem hw) (by kernel_rfl) (by kernel_rfl) ?_
 refine an rfl (fN rfl) ?_
 refine an rfl (aF rfl) ?_
 refine an rfl (jG rfl) ?_
 refine an rfl (aH (o':=0) rfl rfl) ?_
 refine an rfl (aH (o':=0) rfl rfl) ?_
 refine an rfl (aH (o':=1) rfl rfl) ?_
 refine an rfl (Ry.to (v':= .int .i64 xc.size) (bI rfl) rfl) ?_
 refine dy rfl (nr rfl trivial fun jc Ge=>⟨fun _ hw=>ai.mem hw,?_⟩)
 skip
 refine an rfl (aF rfl) ?_
 refine an rfl (aV (v:=jc.val) rfl rfl) ?_
 refine an rfl (aV (v:= .int .i64 ((dq (cD q) xc.size).2)) rfl rfl) ?_
 refine an rfl (bn rfl) ?_
 refine an rfl (bn rfl) ?_
 refine Gc ?_
 iterate 2 refine Gs ?_
 refine Gc ?_
 refine av rfl (fun h0=> ?_) (fun h0=> ?_)
 ·
  replace h0:=bz h0
  have hE:(c8 (cv xc) (aw l.xs) xy (cD q))=(cv xc,0,(dq (cD q) xc.size).2):=by rw[c8,if_pos (show(dq (cD q) (cv xc).size).2≠0 from h0)];rfl
  refine Gc ?_
  iterate 3 refine Gs ?_
  refine Gc ?_
  refine au (.inl rfl) (bo rfl (aq rfl) (aq rfl)) (fun w1 hw=> ?_)
  exact⟨xc,by rw[hE],by rw[hE],ai.mem hw⟩
 ·
  replace h0:=bz h0
  refine Gc ?_
  refine cg (X:=Nat×Cp) (fun zz=>[(0, .pointer (some ⟨k,0,none⟩)),(2,l.sv.val),(8,jc.val)]) (fun zz=>ar k (aL (⟨⟨zz.2,xa,xg,xl⟩,xy⟩:aQ)) 141::fz zz.2::own aN 1 jc (dq (cD q) xc.size).1::L) (fun zz=>(c8 (cv xc) (aw l.xs) xy (cD q))=gM zz.1 (cv zz.2) (aw l.xs) xy (dq (cD q) xc.size).1∧aS (cv zz.2)=true∧dB (cv xc) (cv zz.2)∧(cK -(cv zz.2).ops).toNat<zz.1) (fun zz=>zz.1) ((cK -(cv xc).ops).toNat+1,xc) ⟨by rw[c8,if_neg (show ¬(dq (cD q) (cv xc).size).2≠0 from fun h=>h h0)];rfl,hk, .bW _,by simp only;omega⟩ (Sub.cons rfl (Sub.cons rfl (Sub.cons rfl (Sub.nil _)))) (fun w hw=>ai.mem hw) ?_
  rintro⟨m,d⟩ ⟨bk,aG,bB,cV⟩
  dsimp only
  simp only at bk aG bB cV
  obtain⟨n,rfl⟩: ∃n,m=n+1:=⟨m -1,by omega⟩
  refine Gc ?_
  iterate 2 refine Gs ?_
  refine br rfl ⟨aG,by rw[bB.len];exact xv,vk.cx bB,nw⟩ fun me vl=> ?_
  obtain⟨f1,f2,f3,f4,f5⟩:=BK (c:=cv d) (fl:=(aw l.xs)) (aC:=xy) aG (by rw[bB.len];exact xv)
  rw[←vl]at f1 f2 f3 f4 f5
  have f6:=bB.trans f2
  have du:(cv me).blocks.length=me.blocks.xs.length:=gg _
  have Us:=f6.len
  have mY:me.ae=xc.ae:=f6.ae
  have zu:=bB.len
  have Ml:=pZ f1
  refine Gs ?_
  refine ah (aV (v:= .int .i64 ((bg (cv d) (aw l.xs) xy).2.1)) rfl rfl) ?_
  refine ah (aV (v:= .int .i64 ((bg (cv d) (aw l.xs) xy).2.2)) rfl rfl) ?_
  iterate 2 refine Gs ?_
  refine Gc ?_
  iterate 2 refine Gs ?_
  refine Gc ?_
  refine av rfl (fun h1=> ?_) (fun h1=> ?_)
  ·
   replace h1:=bz h1
   have eo:(bg (cv d) (aw l.xs) xy).2.2=0:=h1
   obtain⟨g1,g2,g3⟩:=f4 eo
   obtain⟨B,hB⟩:=get_some (xs:=me.blocks.xs) (i:=(bg (cv d) (aw l.xs) xy).2.1.toNat) (by omega)
   have pe:Mb B me.blocks:=⟨List.mem_of_getElem? hB⟩
   have eD:=qL hB
   have fR:=eA.1 (qN f1 (b:=(bg (cv d) (aw l.xs) xy).2.1) (by omega) (by omega))
   have ox:(ak (cv me) (bg (cv d) (aw l.xs) xy).2.1).used=B.used:=by rw[eD];rfl
   rw[ox]at fR
   have Ww:(cv me).ae=xc.ae:=mY
   rw[Ww]at fR
   have l5:0≤(bg (cv d) (aw l.xs) xy).2.1*xc.ae:=Int.mul_nonneg (by omega) (by omega)
   have nE:(bg (cv d) (aw l.xs) xy).2.1*xc.ae≤32*16:=Int.mul_le_mul (by omega) (by omega) (by omega) (by omega)
   refine Gi ?_
   refine iF (by kernel_rfl) (by kernel_rfl) ?_
   iterate 6 refine Gq ?_
   refine bm (Ry.to (v':= .int .i64 xc.ae) (bI rfl) (by rw[←mY])) ?_
   refine bm (ub rfl rfl (by omega)) ?_
   iterate 5 refine Gq ?_
   refine bm (Ry.to (v':=me.blocks.sv.val) (bI rfl) rfl) ?_
   refine Gq ?_
   refine bm (bl rfl rfl ((bg (cv d) (aw l.xs) xy).2.1.toNat) (by omega) (by omega)) ?_
   refine bm (aH rfl rfl) ?_
   refine bm (bO (j:=1) rfl ((bg (cv d) (aw l.xs) xy).2.1.toNat) hB rfl (by decide)) ?_
   iterate 3 refine Gq ?_
   refine Gc ?_
   iterate 3 refine Gs ?_
   refine br rfl ⟨f1,by omega,by omega⟩ fun fK tC=> ?_
   refine Gs ?_
   refine Gc ?_
   iterate 2 refine Gs ?_
   refine Gc ?_
   refine av rfl (fun h2=> ?_) (fun h2=> ?_)
   ·
    replace h2:=bz h2
    have ff:(bw (cv me) (bg (cv d) (aw l.xs) xy).2.1 (dq (cD q) xc.size).1)=0:=h2
    have hE:(c8 (cv xc) (aw l.xs) xy (cD q))=(bH (cv me) (bg (cv d) (aw l.xs) xy).2.1 (dq (cD q) xc.size).1,(bg (cv d) (aw l.xs) xy).2.1*xc.ae+B.used+1,0):=by
     rw[bk,gM,←vl,if_pos eo,if_pos ff,ox,show(cv d).ae=xc.ae from bB.ae]
    refine Gc ?_
    iterate 3 refine Gs ?_
    refine Gc ?_
    refine au (.inl rfl) (bo rfl (aq rfl) (aq rfl)) (fun w1 hw=> ?_)
    exact⟨fK,by rw[hE],by rw[hE,tC],ai.mem hw⟩
   ·
    replace h2:=bz h2
    have ff: ¬(bw (cv me) (bg (cv d) (aw l.xs) xy).2.1 (dq (cD q) xc.size).1)=0:=h2
    refine Gc ?_
    iterate 2 refine Gs ?_
    refine Gc ?_
    refine av rfl (fun h3=> ?_) (fun h3=> ?_)
    ·
     replace h3:=bz h3
     refine Gc ?_
     iterate 3 refine Gs ?_
     refine Gc ?_
     refine au (.inl rfl) (bo rfl (aq rfl) (aq rfl)) (fun w1 hw=> ?_)
     exact⟨fK,by rw[bk,gM,←vl,if_pos eo,if_neg ff,if_pos (show(bw (cv me) (bg (cv d) (aw l.xs) xy).2.1 (dq (cD q) xc.size).1)≠9 from h3)],by rw[tC,bk,gM,←vl,if_pos eo,if_neg ff,if_pos (show(bw (cv me) (bg (cv d) (aw l.xs) xy).2.1 (dq (cD q) xc.size).1)≠9 from h3)],ai.mem hw⟩
    ·
     replace h3:=bz h3
     iterate 2 refine Gi ?_
     have nJ:(bw (cv me) (bg (cv d) (aw l.xs) xy).2.1 (dq (cD q) xc.size).1)=9:=h3
     have zv:=qK g3 (p:=(dq (cD q) xc.size).1) (.inl nJ)
     have Gf:=pZ (iU f1 (bg (cv d) (aw l.xs) xy).2.1 (dq (cD q) xc.size).1)
     rw[zv]at Gf
     exact bD (x:=(n+1,d)) (n,fK) ⟨by rw[bk,gM,←vl,if_pos eo,if_neg ff,if_neg (by simpa using nJ),tC],by rw[tC];exact iU f1 _ _,by rw[tC];exact f6.trans (gD _ _ _),by rw[tC,zv];omega⟩ (by simp only;omega) (Sub.cons rfl (Sub.cons rfl (Sub.cons rfl (Sub.nil _)))) (fun w hw=>ai.mem hw)
  ·
   replace h1:=bz h1
   have eo: ¬(bg (cv d) (aw l.xs) xy).2.2=0:=h1
   refine Gc ?_
   iterate 2 refine Gs ?_
   refine Gc ?_
   refine av rfl (fun h3=> ?_) (fun h3=> ?_)
   ·
    replace h3:=bz h3
    refine Gc ?_
    iterate 3 refine Gs ?_
    refine Gc ?_
    refine au (.inl rfl) (bo rfl (aq rfl) (aq rfl)) (fun w1 hw=> ?_)
    exact⟨me,by rw[bk,gM,if_neg eo,if_pos (show(bg (cv d) (aw l.xs) xy).2.2≠9 from h3)],by rw[vl,bk,gM,if_neg eo,if_pos (show(bg (cv d) (aw l.xs) xy).2.2≠9 from h3)],ai.mem hw⟩
   ·
    replace h3:=bz h3
    iterate 2 refine Gi ?_
    have nJ:(bg (cv d) (aw l.xs) xy).2.2=9:=h3
    exact bD (x:=(n+1,d)) (n,me) ⟨by rw[bk,gM,if_neg eo,if_neg (by simpa using nJ),vl],f1,f6,by have:=f5 nJ;simp only;omega⟩ (by simp only;omega) (Sub.cons rfl (Sub.cons rfl (Sub.cons rfl (Sub.nil _)))) (fun w hw=>ai.mem hw)
instance Wx{w0:World}{L R1 L2:List aj}{i0 i1:Nat}{k:Nat}{xc:Cp}{xa:Sl Int}{xg:UInt64}{xl:Int}{xy:Bool}{q:dY}{l:Sl (Sl Int)}[q0:Has L k (aL (⟨⟨xc,xa,xg,xl⟩,xy⟩:aQ)) 141 i0][d0:dr L i0 R1][q1:At R1 (fz xc) i1][d1:dr R1 i1 L2][hq:aW w0 L2 q][hl:aW w0 L2 l]:cr Tryz.prog 127 w0 L [.pointer (some ⟨k,0,none⟩), .agg (cI q),l.sv.val] (Cp) (fun zz=> .tuple #[.int .i64 ((c8 (cv xc) (aw l.xs) xy (cD q)).2.1), .int .i64 ((c8 (cv xc) (aw l.xs) xy (cD q)).2.2)]) (fun zz=>ar k (aL (⟨⟨zz,xa,xg,xl⟩,xy⟩:aQ)) 141::fz zz::L2) (fun zz=>cv zz=(c8 (cv xc) (aw l.xs) xy (cD q)).1) (aS (cv xc)=true∧3≤(cv xc).blocks.length∧hU (cv xc) (aw l.xs)∧(aw l.xs).length≤1000):=⟨fun hp w hw=>Wu w0 w L2 k xc xa xg xl xy q l (rW q0.h d0.h q1.h d1.h hw) hp⟩
open Go.ay Go.Kb
open Go.RowKit
theorem Wz(w0 w:World)(L:List aj)(k:Nat)(xc:Cp)(xa:Sl Int)(xg:UInt64)(xl:Int)(xy:Bool)(hw:Mem w0 (ar k (aL (⟨⟨xc,xa,xg,xl⟩,xy⟩:aQ)) 141::fz xc::L) w)(bc:aS (cv xc)=true∧2≤(cv xc).blocks.length∧(xl=0∨xl=1)):Calls Tryz.prog 154 #[.pointer (some ⟨k,0,none⟩)] w fun e w'=> ∃zz:Cp,e= .returned (.tuple #[.int .i64 ((aU (cv xc) xl).2.1), .int .i64 ((aU (cv xc) xl).2.2)])∧(cv zz=(aU (cv xc) xl).1)∧Mem w0 (ar k (aL (⟨⟨zz,xa,xg,xl⟩,xy⟩:aQ)) 141::fz zz::L) w':=by
 obtain⟨hk,qP,Mh⟩:=bc
 have du:(cv xc).blocks.length=xc.blocks.xs.length:=gg _
 obtain⟨Bo,fR⟩:=get_some (xs:=xc.blocks.xs) (i:=(1 -xl).toNat) (by omega)
 have mbo:Mb Bo xc.blocks:=⟨List.mem_of_getElem? fR⟩
 have xq:=qL fR
 refine kt (args:=[_]) Tryz.func154 rfl Tryz.ntmps154 rfl hw ?_
 change Cw _ _ _ _ _ [(0, .pointer (some ⟨k,0,none⟩))] (ar k (aL (⟨⟨xc,xa,xg,xl⟩,xy⟩:aQ)) 141::fz xc::L)
 refine Gc ?_
 iterate 2 refine Gs ?_
 refine Gc ?_
 iterate 4 refine Gs ?_
 refine ah (Ry.to (v':= .int .i64 xl) (bI rfl) rfl) ?_
 iterate 2 refine Gs ?_
 refine Gc ?_
 iterate 4 refine Gs ?_
 refine ah (Ry.to (v':= .int .i64 xl) (bI rfl) rfl) ?_
 refine Gs ?_
 refine oK (enc:=bP) (vals:=[_,_]) [xl,1 -xl] rfl rfl rfl (by decide) (by decide) fun pf=> ?_
 iterate 2 refine Gs ?_
 refine Gc ?_
 refine cg (X:=Nat) (fun zz=>[(21, .int .i64 (zz:Nat)),(0, .pointer (some ⟨k,0,none⟩)),(4, .int .i64 (1 -xl)),(19,(⟨false,pf,0,2,2,none⟩:Sv).val),(20, .int .i64 ([xl,1 -xl].length:Nat))]) (fun zz=>ar k (aL (⟨⟨xc,xa,xg,xl⟩,xy⟩:aQ)) 141::fz xc::own bP 1 ⟨false,pf,0,2,2,none⟩ [xl,1 -xl]::L) (fun zz=>zz≤2∧ ∀(j:Nat) (y:Int),j<zz→[xl,1 -xl][j]? =Option.some y→ ¬0<eH (cv xc) y) (fun zz=>2 -zz) 0 ⟨Nat.zero_le _,fun j y hj=>by first|omega|(simp only[];omega)⟩ (Sub.cons rfl (Sub.cons rfl (Sub.cons rfl (Sub.cons rfl (Sub.cons rfl (Sub.nil _)))))) (fun w hw=>ai.mem hw) ?_
 rintro i ⟨bk,aG⟩
 refine Gc ?_
 refine Gs ?_
 refine Gc ?_
 refine av rfl (fun h0=> ?_) (fun h0=> ?_)
 ·
  replace h0:=bz h0
  obtain⟨y,hy⟩:=get_some (xs:=[xl,1 -xl]) (i:=i) (by simp only[List.length_cons,List.length_nil]at h0⊢;omega)
  have Gj:i=0∨i=1:=by simp only[List.length_cons,List.length_nil]at h0;omega
  have U5:y=0∨y=1:=by
   have:=List.mem_of_getElem? hy
   simp only[List.mem_cons,List.not_mem_nil,or_false]at this
   omega
  refine Gc ?_
  refine ah (bl rfl rfl i rfl (by omega)) ?_
  refine ah (bO (j:=0) rfl i hy rfl (by decide)) ?_
  refine Gs ?_
  refine Gc ?_
  iterate 2 refine Gs ?_
  refine fE (cM rfl ⟨hk,by omega,by omega⟩) ?_
  refine Gs ?_
  refine Gc ?_
  refine av rfl (fun h1=> ?_) (fun h1=> ?_)
  ·
   replace h1:=bz h1
   have hE:(aU (cv xc) xl)=(cv xc,y,0):=by
    rcases Gj with rfl|rfl
    ·
     obtain rfl:xl=y:=by simpa using hy
     rw[aU,if_pos h1]
    ·
     obtain rfl:1 -xl=y:=by simpa using hy
     rw[aU,if_neg (aG 0 xl (by omega) rfl),if_pos h1]
   refine Gc ?_
   iterate 3 refine Gs ?_
   refine Gc ?_
   refine au (.inl rfl) (bo rfl (aq rfl) (aq rfl)) (fun w1 hw=> ?_)
   exact⟨xc,by rw[hE],by rw[hE],ai.mem hw⟩
  ·
   replace h1:=bz h1
   refine Gc ?_
   iterate 2 refine Gs ?_
   refine Gi ?_
   exact bD (x:=(i)) (i+1) ⟨by first|omega|(simp only[];omega),fun j z hj hz=>if e:j=i then(by subst e;rw[hy]at hz;cases hz;exact h1)else aG j z (by first|omega|(simp only[];omega)) hz⟩ (by first|omega|(simp only[];omega)) (Sub.cons rfl (Sub.cons rfl (Sub.cons rfl (Sub.cons rfl (Sub.cons rfl (Sub.nil _)))))) (fun w hw=>ai.mem hw)
 ·
  replace h0:=bz h0
  have WA:i=2:=by simp only[List.length_cons,List.length_nil]at h0 bk;omega
  subst WA
  have tz:=aG 0 xl (by omega) rfl
  have vf:=aG 1 (1 -xl) (by omega) rfl
  refine Gc ?_
  iterate 5 refine Gs ?_
  refine ah (Ry.to (v':=xc.blocks.sv.val) (bI rfl) rfl) ?_
  refine Gs ?_
  refine ah (bl rfl rfl ((1 -xl).toNat) (by omega) (by omega)) ?_
  refine ah (aH rfl rfl) ?_
  refine ah (bO (j:=3) rfl ((1 -xl).toNat) fR rfl (by decide)) ?_
  refine Gc ?_
  refine av rfl (fun h2=> ?_) (fun h2=> ?_)
  ·
   replace h2:=bz h2
   have hE:(aU (cv xc) xl)=(cv xc,0,9):=by rw[aU,if_neg tz,if_neg vf,xq,if_pos (show(bv Bo).bad=true from h2)]
   refine Gc ?_
   iterate 2 refine Gs ?_
   refine Gc ?_
   refine au (.inl rfl) (bo rfl (aq rfl) (aq rfl)) (fun w1 hw=> ?_)
   exact⟨xc,by rw[hE],by rw[hE],ai.mem hw⟩
  ·
   replace h2:=bz h2
   have hE:(aU (cv xc) xl)=(df (cv xc) (1 -xl),1 -xl,dL (cv xc) (1 -xl)):=by rw[aU,if_neg tz,if_neg vf,xq,if_neg (show ¬(bv Bo).bad=true by rw[show(bv Bo).bad=Bo.bad from rfl,h2];simp)]
   refine Gc ?_
   iterate 3 refine Gs ?_
   refine br rfl ⟨hk,by omega,by omega⟩ fun WB WC=> ?_
   iterate 2 refine Gs ?_
   refine Gc ?_
   refine au (.inl rfl) (bo rfl (aq rfl) (aq rfl)) (fun w1 hw=> ?_)
   exact⟨WB,by rw[hE],by rw[WC,hE],ai.mem hw⟩
instance ahr{w0:World}{L R1 L2:List aj}{i0 i1:Nat}{k:Nat}{xc:Cp}{xa:Sl Int}{xg:UInt64}{xl:Int}{xy:Bool}[q0:Has L k (aL (⟨⟨xc,xa,xg,xl⟩,xy⟩:aQ)) 141 i0][d0:dr L i0 R1][q1:At R1 (fz xc) i1][d1:dr R1 i1 L2]:cr Tryz.prog 154 w0 L [.pointer (some ⟨k,0,none⟩)] (Cp) (fun zz=> .tuple #[.int .i64 ((aU (cv xc) xl).2.1), .int .i64 ((aU (cv xc) xl).2.2)]) (fun zz=>ar k (aL (⟨⟨zz,xa,xg,xl⟩,xy⟩:aQ)) 141::fz zz::L2) (fun zz=>cv zz=(aU (cv xc) xl).1) (aS (cv xc)=true∧2≤(cv xc).blocks.length∧(xl=0∨xl=1)):=⟨fun hp w hw=>Wz w0 w L2 k xc xa xg xl xy (rW q0.h d0.h q1.h d1.h hw) hp⟩
theorem Gk{g:UInt64}(h:g.toNat<281474976710656):(g+1).toNat=g.toNat+1:=by
 rw[UInt64.toNat_add,show(1:UInt64).toNat=1 from rfl,Nat.mod_eq_of_lt (by omega)]
theorem Mp(g:UInt64)(s:Sv)(xs:List Int)(w:World):(Instr.build 147 #[(0, .int .u64 (g.toNat:Int)),(1,s.val)]).run Tryz.prog w= .ok (.agg (dA ⟨g,⟨s,xs⟩⟩)) w:=by
 obtain⟨e,b,o,l,c,p⟩:=s
 unfold dA
 cases e<;>kernel_rfl
theorem WD(w0 w:World)(L:List aj)(k:Nat)(xc:Cp)(xa:Sl Int)(xg:UInt64)(xl:Int)(xy:Bool)(s:Sv)(ss:List Int)(hw:Mem w0 (ar k (aL (⟨⟨xc,xa,xg,xl⟩,xy⟩:aQ)) 141::fz xc::fz xa::own bP 1 s ss::L) w)(bc:cd (⟨⟨cv xc,xa.xs,xg.toNat,xl⟩,xy⟩:WV)):Calls Tryz.prog 128 #[.pointer (some ⟨k,0,none⟩),s.val] w fun e w'=> ∃zz:Cp×Sl Int×UInt64×Int,e= .returned (.int .i64 ((dV (⟨⟨cv xc,xa.xs,xg.toNat,xl⟩,xy⟩:WV) ss).2))∧((⟨⟨cv zz.1,zz.2.1.xs,zz.2.2.1.toNat,zz.2.2.2⟩,xy⟩:WV)=(dV (⟨⟨cv xc,xa.xs,xg.toNat,xl⟩,xy⟩:WV) ss).1)∧Mem w0 (ar k (aL (⟨⟨zz.1,zz.2.1,zz.2.2.1,zz.2.2.2⟩,xy⟩:aQ)) 141::fz zz.1::fz zz.2.1::L) w':=by
 have gu:=bc
 have hk:aS (cv xc)=true:=gu.ag
 have zw:xg.toNat<281474976710656:=gu.gen
 have rh:=Gk zw
 have xw:4≤(cv xc).blocks.length:=gu.oh
 have Cv:xl=0∨xl=1:=gu.last
 have xx:dd (⟨xg+1,⟨s,ss⟩⟩:db)=⟨xg.toNat+1,ss⟩:=by simp only[dd,rh]
 refine kt (args:=[_,_]) Tryz.func128 rfl Tryz.ntmps128 rfl hw ?_
 change Cw _ _ _ _ _ [(0, .pointer (some ⟨k,0,none⟩)),(1,s.val)] (ar k (aL (⟨⟨xc,xa,xg,xl⟩,xy⟩:aQ)) 141::fz xc::fz xa::own bP 1 s ss::L)
 refine Gc ?_
 refine Gs ?_
 refine Gc ?_
 iterate 4 refine Gs ?_
 refine ah (Ry.to (v':= .int .u64 (xg.toNat:Nat)) (bI rfl) rfl) ?_
 refine ah (Ry.to (v':= .int .u64 ((xg+1).toNat:Int)) (yh (p:=xg.toNat) (q:=1) rfl rfl rfl rfl (by simp only[nb];omega)) (by rw[rh])) ?_
 refine Gs ?_
 refine Gc ?_
 iterate 2 refine Gs ?_
 refine ah (cU (v:= .agg (dA (⟨xg+1,⟨s,ss⟩⟩:db))) rfl (Mp (xg+1) s ss)) ?_
 iterate 5 refine Gs ?_
 refine ah (Ry.to (v':= .int .i64 xc.size) (bI rfl) rfl) ?_
 refine br rfl trivial fun kl qf=> ?_
 refine Gs ?_
 refine ah (aV (v:=kl.val) rfl rfl) ?_
 refine ah (aV (v:= .int .i64 ((cZ (dd (⟨xg+1,⟨s,ss⟩⟩:db)) xc.size).2)) rfl rfl) ?_
 iterate 2 refine Gs ?_
 refine Gc ?_
 iterate 2 refine Gs ?_
 refine Gc ?_
 refine av rfl (fun h0=> ?_) (fun h0=> ?_)
 ·
  replace h0:=bz h0
  have hE:(dV (⟨⟨cv xc,xa.xs,xg.toNat,xl⟩,xy⟩:WV) ss)=((⟨⟨cv xc,xa.xs,xg.toNat,xl⟩,xy⟩:WV),(cZ (dd (⟨xg+1,⟨s,ss⟩⟩:db)) xc.size).2):=by rw[dV,if_pos (show(cZ ⟨xg.toNat+1,ss⟩ (cv xc).size).2≠0 by rw[←xx];exact h0),xx];rfl
  refine Gc ?_
  iterate 2 refine Gs ?_
  refine Gc ?_
  refine au (.inl rfl) (aM rfl (aq rfl)) (fun w1 hw=> ?_)
  exact⟨(xc,xa,xg,xl),by rw[hE],by rw[hE],ai.mem hw⟩
 ·
  replace h0:=bz h0
  refine Gc ?_
  refine cg (X:=Nat×Cp) (fun zz=>[(0, .pointer (some ⟨k,0,none⟩)),(1,s.val),(5, .int .u64 ((xg+1).toNat:Nat)),(6,kl.val)]) (fun zz=>ar k (aL (⟨⟨zz.2,xa,xg,xl⟩,xy⟩:aQ)) 141::fz zz.2::fz xa::own bP 1 s ss::own aN 1 kl (cZ (dd (⟨xg+1,⟨s,ss⟩⟩:db)) xc.size).1::L) (fun zz=>(dV (⟨⟨cv xc,xa.xs,xg.toNat,xl⟩,xy⟩:WV) ss)=fc zz.1 ((⟨⟨cv xc,xa.xs,xg.toNat,xl⟩,xy⟩:WV).on (cv zz.2)) ss (cZ (dd (⟨xg+1,⟨s,ss⟩⟩:db)) xc.size).1∧aS (cv zz.2)=true∧dB (cv xc) (cv zz.2)∧(cK -(cv zz.2).ops).toNat<zz.1) (fun zz=>zz.1) ((cK -(cv xc).ops).toNat+1,xc) ⟨by rw[dV,if_neg (show ¬(cZ ⟨xg.toNat+1,ss⟩ (cv xc).size).2≠0 by rw[←xx];exact fun h=>h h0),xx];rfl,hk, .bW _,by simp only;omega⟩ (Sub.cons rfl (Sub.cons rfl (Sub.cons rfl (Sub.cons rfl (Sub.nil _))))) (fun w hw=>ai.mem hw) ?_
  rintro⟨m,d⟩ ⟨bk,aG,bB,cV⟩
  dsimp only
  simp only at bk aG bB cV
  obtain⟨n,rfl⟩: ∃n,m=n+1:=⟨m -1,by omega⟩
  refine Gc ?_
  refine Gs ?_
  refine br rfl ⟨aG,by rw[bB.len];omega,Cv⟩ fun mZ Gl=> ?_
  obtain⟨r1,r2,r3,r4⟩:=wQ (c:=cv d) (last:=xl) aG Cv
  rw[←Gl]at r1 r2 r3 r4
  have r7:=bB.trans r2
  have tn:=r7.len
  have zu:=bB.len
  have Ml:=pZ r1
  refine Gs ?_
  refine ah (aV (v:= .int .i64 ((aU (cv d) xl).2.1)) rfl rfl) ?_
  refine ah (aV (v:= .int .i64 ((aU (cv d) xl).2.2)) rfl rfl) ?_
  iterate 2 refine Gs ?_
  refine Gc ?_
  iterate 2 refine Gs ?_
  refine Gc ?_
  refine av rfl (fun h1=> ?_) (fun h1=> ?_)
  ·
   replace h1:=bz h1
   have hE:(dV (⟨⟨cv xc,xa.xs,xg.toNat,xl⟩,xy⟩:WV) ss)=((⟨⟨cv xc,xa.xs,xg.toNat,xl⟩,xy⟩:WV).on (cv mZ),(aU (cv d) xl).2.2):=by
    rw[bk,fc]
    refine(if_pos h1).trans ?_
    rw[Gl];rfl
   refine Gc ?_
   iterate 2 refine Gs ?_
   refine Gc ?_
   refine au (.inl rfl) (aM rfl (aq rfl)) (fun w1 hw=> ?_)
   exact⟨(mZ,xa,xg,xl),by rw[hE],by rw[hE];rfl,ai.mem hw⟩
  ·
   replace h1:=bz h1
   have eo:(aU (cv d) xl).2.2=0:=h1
   obtain⟨r5,r6⟩:=r4 eo
   have bG:(dV (⟨⟨cv xc,xa.xs,xg.toNat,xl⟩,xy⟩:WV) ss)=(if(bw (cv mZ) (aU (cv d) xl).2.1 (cZ (dd (⟨xg+1,⟨s,ss⟩⟩:db)) xc.size).1)=0 then((⟨⟨(bH (cv mZ) (aU (cv d) xl).2.1 (cZ (dd (⟨xg+1,⟨s,ss⟩⟩:db)) xc.size).1),ss,xg.toNat+1,if j9 (bH (cv mZ) (aU (cv d) xl).2.1 (cZ (dd (⟨xg+1,⟨s,ss⟩⟩:db)) xc.size).1) 1=xg.toNat+1 then 1 else(aU (cv d) xl).2.1⟩,xy⟩:WV),(0:Int))else if(bw (cv mZ) (aU (cv d) xl).2.1 (cZ (dd (⟨xg+1,⟨s,ss⟩⟩:db)) xc.size).1)≠9 then((⟨⟨cv xc,xa.xs,xg.toNat,xl⟩,xy⟩:WV).on (bH (cv mZ) (aU (cv d) xl).2.1 (cZ (dd (⟨xg+1,⟨s,ss⟩⟩:db)) xc.size).1),(bw (cv mZ) (aU (cv d) xl).2.1 (cZ (dd (⟨xg+1,⟨s,ss⟩⟩:db)) xc.size).1))else fc n ((⟨⟨cv xc,xa.xs,xg.toNat,xl⟩,xy⟩:WV).on (bH (cv mZ) (aU (cv d) xl).2.1 (cZ (dd (⟨xg+1,⟨s,ss⟩⟩:db)) xc.size).1)) ss (cZ (dd (⟨xg+1,⟨s,ss⟩⟩:db)) xc.size).1):=by
    rw[bk,fc]
    refine(if_neg (fun h=>h eo)).trans ?_
    rw[Gl];rfl
   refine Gc ?_
   iterate 3 refine Gs ?_
   refine br rfl ⟨r1,by omega,by omega⟩ fun jC pq=> ?_
   refine Gs ?_
   refine Gc ?_
   iterate 2 refine Gs ?_
   refine Gc ?_
   refine av rfl (fun h2=> ?_) (fun h2=> ?_)
   ·
    replace h2:=bz h2
    have ff:(bw (cv mZ) (aU (cv d) xl).2.1 (cZ (dd (⟨xg+1,⟨s,ss⟩⟩:db)) xc.size).1)=0:=h2
    rw[if_pos ff]at bG
    refine Gc ?_
    refine Gs ?_
    refine fE (cM rfl ⟨by rw[pq];exact iU r1 _ _,by omega,by rw[pq,(gD _ _ _).len];omega⟩) ?_
    iterate 2 refine Gs ?_
    refine Gc ?_
    refine av rfl (fun h3=> ?_) (fun h3=> ?_)
    ·
     replace h3:=bz h3
     have hE:=bG
     rw[if_pos (show j9 (bH (cv mZ) (aU (cv d) xl).2.1 (cZ (dd (⟨xg+1,⟨s,ss⟩⟩:db)) xc.size).1) 1=xg.toNat+1 by rw[←pq];omega)]at hE
     refine Gi ?_
     refine Gs ?_
     refine Gc ?_
     iterate 9 refine Gs ?_
     refine eO (cs':=aL (⟨⟨jC,⟨s,ss⟩,xg,xl⟩,xy⟩:aQ)) rfl rfl (by show 6<10;decide) (by first|rfl|exact Sv.one _) rfl ?_
     iterate 3 refine Gs ?_
     refine eO (cs':=aL (⟨⟨jC,⟨s,ss⟩,(xg+1),xl⟩,xy⟩:aQ)) rfl rfl (by show 7<10;decide) (by first|rfl|exact Sv.one _) rfl ?_
     iterate 3 refine Gs ?_
     refine eO (cs':=aL (⟨⟨jC,⟨s,ss⟩,(xg+1),1⟩,xy⟩:aQ)) rfl rfl (by show 8<10;decide) (by first|rfl|exact Sv.one _) rfl ?_
     refine Gc ?_
     refine Gs ?_
     refine Gc ?_
     refine au (.inl rfl) (aM rfl (aq rfl)) (fun w1 hw=> ?_)
     exact⟨(jC,⟨s,ss⟩,xg+1,1),by rw[hE],by rw[hE,pq,rh],ai.mem (uG (a:=⟨s,ss⟩) (ai.mem hw:Mem w0 (own bP 1 s ss::ar k (aL (⟨⟨jC,⟨s,ss⟩,xg+1,1⟩,xy⟩:aQ)) 141::fz jC::L) _))⟩
    ·
     replace h3:=bz h3
     have hE:=bG
     rw[if_neg (show ¬j9 (bH (cv mZ) (aU (cv d) xl).2.1 (cZ (dd (⟨xg+1,⟨s,ss⟩⟩:db)) xc.size).1) 1=xg.toNat+1 by rw[←pq];omega)]at hE
     refine Gc ?_
     iterate 9 refine Gs ?_
     refine eO (cs':=aL (⟨⟨jC,⟨s,ss⟩,xg,xl⟩,xy⟩:aQ)) rfl rfl (by show 6<10;decide) (by first|rfl|exact Sv.one _) rfl ?_
     iterate 3 refine Gs ?_
     refine eO (cs':=aL (⟨⟨jC,⟨s,ss⟩,(xg+1),xl⟩,xy⟩:aQ)) rfl rfl (by show 7<10;decide) (by first|rfl|exact Sv.one _) rfl ?_
     iterate 3 refine Gs ?_
     refine eO (cs':=aL (⟨⟨jC,⟨s,ss⟩,(xg+1),(aU (cv d) xl).2.1⟩,xy⟩:aQ)) rfl rfl (by show 8<10;decide) (by first|rfl|exact Sv.one _) rfl ?_
     refine Gc ?_
     refine Gs ?_
     refine Gc ?_
     refine au (.inl rfl) (aM rfl (aq rfl)) (fun w1 hw=> ?_)
     exact⟨(jC,⟨s,ss⟩,xg+1,(aU (cv d) xl).2.1),by rw[hE],by rw[hE,pq,rh],ai.mem (uG (a:=⟨s,ss⟩) (ai.mem hw:Mem w0 (own bP 1 s ss::ar k (aL (⟨⟨jC,⟨s,ss⟩,xg+1,(aU (cv d) xl).2.1⟩,xy⟩:aQ)) 141::fz jC::L) _))⟩
   ·
    replace h2:=bz h2
    have ff: ¬(bw (cv mZ) (aU (cv d) xl).2.1 (cZ (dd (⟨xg+1,⟨s,ss⟩⟩:db)) xc.size).1)=0:=h2
    refine Gc ?_
    iterate 2 refine Gs ?_
    refine Gc ?_
    refine av rfl (fun h4=> ?_) (fun h4=> ?_)
    ·
     replace h4:=bz h4
     have hE:=bG
     rw[if_neg ff,if_pos (show(bw (cv mZ) (aU (cv d) xl).2.1 (cZ (dd (⟨xg+1,⟨s,ss⟩⟩:db)) xc.size).1)≠9 from h4)]at hE
     refine Gc ?_
     iterate 2 refine Gs ?_
     refine Gc ?_
     refine au (.inl rfl) (aM rfl (aq rfl)) (fun w1 hw=> ?_)
     exact⟨(jC,xa,xg,xl),by rw[hE],by rw[hE,pq];rfl,ai.mem hw⟩
    ·
     replace h4:=bz h4
     iterate 2 refine Gi ?_
     have jb:(bw (cv mZ) (aU (cv d) xl).2.1 (cZ (dd (⟨xg+1,⟨s,ss⟩⟩:db)) xc.size).1)=9:=h4
     have zv:=qK r6 (p:=(cZ (dd (⟨xg+1,⟨s,ss⟩⟩:db)) xc.size).1) (.inl jb)
     have Gf:=pZ (iU r1 (aU (cv d) xl).2.1 (cZ (dd (⟨xg+1,⟨s,ss⟩⟩:db)) xc.size).1)
     rw[zv]at Gf
     exact bD (x:=(n+1,d)) (n,jC) ⟨by rw[bG,if_neg ff,if_neg (fun h=>h jb),pq],by rw[pq];exact iU r1 _ _,by rw[pq];exact r7.trans (gD _ _ _),by rw[pq,zv];omega⟩ (by simp only;omega) (Sub.cons rfl (Sub.cons rfl (Sub.cons rfl (Sub.cons rfl (Sub.nil _))))) (fun w hw=>ai.mem hw)
instance ahs{w0:World}{L R1 R2 R3 L2:List aj}{i0 i1 i2 i3:Nat}{k:Nat}{xc:Cp}{xa:Sl Int}{xg:UInt64}{xl:Int}{xy:Bool}{s:Sv}{ss:List Int}[q0:Has L k (aL (⟨⟨xc,xa,xg,xl⟩,xy⟩:aQ)) 141 i0][d0:dr L i0 R1][q1:At R1 (fz xc) i1][d1:dr R1 i1 R2][q2:At R2 (fz xa) i2][d2:dr R2 i2 R3][q3:fG R3 s bP 1 ss i3][d3:dr R3 i3 L2]:cr Tryz.prog 128 w0 L [.pointer (some ⟨k,0,none⟩),s.val] (Cp×Sl Int×UInt64×Int) (fun zz=> .int .i64 ((dV (⟨⟨cv xc,xa.xs,xg.toNat,xl⟩,xy⟩:WV) ss).2)) (fun zz=>ar k (aL (⟨⟨zz.1,zz.2.1,zz.2.2.1,zz.2.2.2⟩,xy⟩:aQ)) 141::fz zz.1::fz zz.2.1::L2) (fun zz=>(⟨⟨cv zz.1,zz.2.1.xs,zz.2.2.1.toNat,zz.2.2.2⟩,xy⟩:WV)=(dV (⟨⟨cv xc,xa.xs,xg.toNat,xl⟩,xy⟩:WV) ss).1) (cd (⟨⟨cv xc,xa.xs,xg.toNat,xl⟩,xy⟩:WV)):=⟨fun hp w hw=>WD w0 w L2 k xc xa xg xl xy s ss (Vb q0.h d0.h q1.h d1.h q2.h d2.h q3.h d3.h hw) hp⟩
open Go.ay Go.Kb
open Go.RowKit
theorem WE(i:Int)(g:UInt64)(s:Sv)(xs:List UInt8)(w:World):(Instr.build 110 #[(0, .int .i64 1),(1, .int .i64 i),(2, .int .u64 (g.toNat:Int)),(3,s.val)]).run Tryz.prog w= .ok (.agg (cI ⟨1,i,g,⟨s,xs⟩⟩)) w:=by
 obtain⟨e,b,o,l,c,p⟩:=s
 unfold cI
 cases e<;>kernel_rfl
theorem WG(w0 w:World)(L:List aj)(k:Nat)(xc:Cp)(xa:Sl Int)(xg:UInt64)(xl:Int)(xy:Bool)(f:Int)(t:Int)(hw:Mem w0 (ar k (aL (⟨⟨xc,xa,xg,xl⟩,xy⟩:aQ)) 141::fz xc::fz xa::L) w)(bc:cd (⟨⟨cv xc,xa.xs,xg.toNat,xl⟩,xy⟩:WV)∧2≤f∧f<(cv xc).blocks.length∧(0≤t→2≤t∧t<(cv xc).blocks.length)):Calls Tryz.prog 183 #[.pointer (some ⟨k,0,none⟩), .int .i64 f, .int .i64 t] w fun e w'=> ∃zz:Cp×Sl Int×UInt64×Int,e= .returned (.tuple #[.bool ((cX (⟨⟨cv xc,xa.xs,xg.toNat,xl⟩,xy⟩:WV) f t).2.1), .int .i64 ((cX (⟨⟨cv xc,xa.xs,xg.toNat,xl⟩,xy⟩:WV) f t).2.2)])∧((⟨⟨cv zz.1,zz.2.1.xs,zz.2.2.1.toNat,zz.2.2.2⟩,xy⟩:WV)=(cX (⟨⟨cv xc,xa.xs,xg.toNat,xl⟩,xy⟩:WV) f t).1)∧Mem w0 (ar k (aL (⟨⟨zz.1,zz.2.1,zz.2.2.1,zz.2.2.2⟩,xy⟩:aQ)) 141::fz zz.1::fz zz.2.1::L) w':=by
 obtain⟨gu,lM,wm,F2⟩:=bc
 have hk:aS (cv xc)=true:=gu.ag
 have xw:4≤(cv xc).blocks.length:=gu.oh
 have hd:=fa hk
 have zw:xg.toNat<281474976710656:=gu.gen
 have rh:=Gk zw
 have fx:xa.xs.length≤64:=gu.nA
 have vk:hU (cv xc) xa.xs:=gu.qQ
 have Mq:1≤xc.ae∧xc.ae≤16:=⟨hd.2.2.1,hd.2.2.2.1⟩
 refine kt (args:=[_,_,_]) Tryz.func183 rfl Tryz.ntmps183 rfl hw ?_
 change Cw _ _ _ _ _ [(0, .pointer (some ⟨k,0,none⟩)),(1, .int .i64 f),(2, .int .i64 t)] (ar k (aL (⟨⟨xc,xa,xg,xl⟩,xy⟩:aQ)) 141::fz xc::fz xa::L)
 refine Gc ?_
 iterate 2 refine Gs ?_
 refine Gc ?_
 iterate 5 refine Gs ?_
 refine ah (Ry.to (v':= .int .i64 xc.ae) (bI rfl) rfl) ?_
 refine Gs ?_
 refine Gc ?_
 iterate 4 refine Gs ?_
 refine ah (Ry.to (v':=xa.sv.val) (bI rfl) rfl) ?_
 refine br rfl (by omega) fun az se=> ?_
 refine Gs ?_
 refine Gc ?_
 iterate 4 refine Gs ?_
 refine ah (Ry.to (v':=xa.sv.val) (bI rfl) rfl) ?_
 iterate 2 refine Gs ?_
 refine Gc ?_
 refine cg (X:=Nat×Cp×List Int) (fun zz=>[(39, .int .i64 (zz.1:Nat)),(0, .pointer (some ⟨k,0,none⟩)),(9,az.val),(1, .int .i64 f),(2, .int .i64 t),(8, .int .i64 xc.ae),(37,xa.sv.val),(38, .int .i64 (xa.xs.length:Nat))]) (fun zz=>ar k (aL (⟨⟨zz.2.1,xa,xg,xl⟩,xy⟩:aQ)) 141::fz zz.2.1::fz xa::own bP 1 az zz.2.2::L) (fun zz=>zz.1≤xa.xs.length∧(bY (⟨cv xc,xa.xs,xg.toNat,xl⟩:VV) f t xa.xs 0 (cv xc) xa.xs)=(bY (⟨cv xc,xa.xs,xg.toNat,xl⟩:VV) f t (xa.xs.drop zz.1) zz.1 (cv zz.2.1) zz.2.2)∧aS (cv zz.2.1)=true∧dB (cv xc) (cv zz.2.1)∧zz.2.2.length=xa.xs.length∧hU (cv xc) zz.2.2) (fun zz=>xa.xs.length -zz.1) (0,xc,xa.xs) ⟨Nat.zero_le _,rfl,hk, .bW _,rfl,vk⟩ (Sub.cons rfl (Sub.cons rfl (Sub.cons rfl (Sub.cons rfl (Sub.cons rfl (Sub.cons rfl (Sub.cons rfl (Sub.cons rfl (Sub.nil _))))))))) (fun w hw=>ai.mem hw) ?_
 rintro⟨i,d,zs⟩ ⟨bk,aG,bB,cV,zx,Cx⟩
 dsimp only
 simp only at bk aG bB cV zx Cx
 have Cy:=cV.len
 have zy:d.ae=xc.ae:=cV.ae
 have jn:(cv d).blocks.length=d.blocks.xs.length:=gg _
 refine Gc ?_
 refine Gs ?_
 refine Gc ?_
 refine av rfl (fun h0=> ?_) (fun h0=> ?_)
 ·
  replace h0:=bz h0
  obtain⟨n,tv⟩:=get_some (xs:=xa.xs) (i:=i) (by omega)
  obtain⟨zi,tr⟩:=get_some (xs:=zs) (i:=i) (by omega)
  have Gm:=vk n (List.mem_of_getElem? tv)
  have hnn:0≤n:=by rcases Gm with h|h<;>omega
  have hnp:n≤512:=by
   rcases Gm with h|h
   ·
    omega
   ·
    exact KB Mq.1 Mq.2 hd.2.1 h.2.2
  have bG:(bY (⟨cv xc,xa.xs,xg.toNat,xl⟩:VV) f t (xa.xs.drop i) i (cv d) zs)=(if n=0∨(n -1)/xc.ae≠f then(bY (⟨cv xc,xa.xs,xg.toNat,xl⟩:VV) f t (xa.xs.drop (i+1)) (i+1) (cv d) zs)else if(bU (cv d) xa.xs zs f t).2=false then(⟨cv d,zs,some 6⟩:MV)else if(dv (cv d) ((xg.toNat:Int)+1) i n).2≠0 then⟨cv d,zs,some (dv (cv d) ((xg.toNat:Int)+1) i n).2⟩else if(bw (cv d) (bU (cv d) xa.xs zs f t).1 (dv (cv d) ((xg.toNat:Int)+1) i n).1)≠0 then⟨(bH (cv d) (bU (cv d) xa.xs zs f t).1 (dv (cv d) ((xg.toNat:Int)+1) i n).1),zs,some (iV (bw (cv d) (bU (cv d) xa.xs zs f t).1 (dv (cv d) ((xg.toNat:Int)+1) i n).1))⟩else(bY (⟨cv xc,xa.xs,xg.toNat,xl⟩:VV) f t (xa.xs.drop (i+1)) (i+1) (bH (cv d) (bU (cv d) xa.xs zs f t).1 (dv (cv d) ((xg.toNat:Int)+1) i n).1) (zs.set i ((bU (cv d) xa.xs zs f t).1*xc.ae+(ak (cv d) (bU (cv d) xa.xs zs f t).1).used+1)))):=by
   rw[wL tv,bY];rfl
  refine Gc ?_
  refine Gs ?_
  refine ah (bl rfl rfl i rfl (by omega)) ?_
  refine ah (bO (j:=0) rfl i tv rfl (by decide)) ?_
  iterate 2 refine Gs ?_
  refine Gc ?_
  iterate 3 refine Gs ?_
  refine Gg ?_
  refine ca rfl rfl rfl (fun hg=>(Ry.yl (yd (aI hg rfl) rfl (by simp only[Z0,Z1,Z2,Z3,Z4,Z5,Z6,Z7,Z8,Z9]at hg;omega)))) ?_
  refine Gg ?_
  refine ca rfl rfl rfl (fun hg=>(Ry.yl (nR (aI hg rfl) (aI hg rfl) (by simp only[Z0,Z1,Z2,Z3,Z4,Z5,Z6,Z7,Z8,Z9]at hg;omega) (by simp only[Z0,Z1,Z2,Z3,Z4,Z5,Z6,Z7,Z8,Z9]at hg;omega)))) ?_
  iterate 2 refine Gg ?_
  refine Gs ?_
  refine Gc ?_
  refine av rfl (fun h1=> ?_) (fun h1=> ?_)
  ·
   replace h1:=bz h1
   refine Gc ?_
   iterate 2 refine Gs ?_
   refine Gi ?_
   exact bD (x:=(i,d,zs)) (i+1,d,zs) ⟨by simp only;omega,by rw[aG,bG,if_pos h1],bB,cV,zx,Cx⟩ (by simp only;omega) (Sub.cons rfl (Sub.cons rfl (Sub.cons rfl (Sub.cons rfl (Sub.cons rfl (Sub.cons rfl (Sub.cons rfl (Sub.cons rfl (Sub.nil _))))))))) (fun w hw=>ai.mem hw)
  ·
   replace h1:=bz h1
   have eo: ¬(n=0∨(n -1)/xc.ae≠f):=fun g=>g.elim h1.1 (fun g=>g h1.2)
   have Cz:1≤n∧n≤1000000∧2≤(n -1)/d.ae∧(n -1)/d.ae<((cv d).blocks.length:Int):=by
    rw[zy,Cy]
    rcases Gm with h|h
    ·
     exact absurd (.inl h) eo
    ·
     exact⟨h.1,by omega,h.2.1,h.2.2⟩
   refine Gc ?_
   iterate 2 refine Gs ?_
   iterate 2 refine Gi ?_
   refine yj (X:=Unit) (fun zz=>[(12, .int .i64 ((bU (cv d) xa.xs zs f t).1)),(0, .pointer (some ⟨k,0,none⟩)),(1, .int .i64 f),(2, .int .i64 t),(8, .int .i64 xc.ae),(9,az.val),(10, .int .i64 (i:Nat)),(37,xa.sv.val),(38, .int .i64 (xa.xs.length:Nat)),(39, .int .i64 (i:Nat))]) (fun zz=>ar k (aL (⟨⟨d,xa,xg,xl⟩,xy⟩:aQ)) 141::fz d::fz xa::own bP 1 az zs::L) (fun zz=>(bU (cv d) xa.xs zs f t).2=true∧2≤(bU (cv d) xa.xs zs f t).1∧(bU (cv d) xa.xs zs f t).1<(cv d).blocks.length) ?_ ?_
   ·
    refine Gc ?_
    iterate 2 refine Gs ?_
    refine Gc ?_
    refine av rfl (fun h2=> ?_) (fun h2=> ?_)
    ·
     replace h2:=bz h2
     refine Gi ?_
     have ez:aw [xa,(⟨az,zs⟩:Sl Int)]=xa.xs++zs:=Gb _ _
     have rf:=j7 (cv d) (aw [xa,(⟨az,zs⟩:Sl Int)])
     obtain⟨q,hq⟩:=get_some (xs:=(aB (cv d) (aw [xa,(⟨az,zs⟩:Sl Int)]))) (i:=(f -2).toNat) (by rw[j7];omega)
     have ow:pV (cv d) (aw [xa,(⟨az,zs⟩:Sl Int)]):=by
      rw[Gb]
      exact((vk.cx cV).append (Cx.cx cV)).kn bB (by omega) (by rw[List.length_append];omega)
     refine Gi ?_
     iterate 5 refine Gs ?_
     refine ah (Ry.to (v':=xa.sv.val) (bI rfl) rfl) ?_
     refine Gs ?_
     refine oK (enc:=cc) (vals:=[xa.sv.val,az.val]) [xa,(⟨az,zs⟩:Sl Int)] rfl (by simp only[List.map_cons,List.map_nil,Sv.iQ];rfl) rfl (by decide) (by decide) fun WH=> ?_
     refine br (hc:=Ga (l:=(⟨⟨false,WH,0,2,2,none⟩,[xa,⟨az,zs⟩]⟩:Sl (Sl Int)))) rfl ow fun WI aht=> ?_
     refine Gs ?_
     refine Gc ?_
     iterate 3 refine Gs ?_
     refine ah (cU (v:= .agg (bu bb)) rfl Cu) ?_
     refine ah (bl rfl rfl ((f -2).toNat) (by omega) (show(f -2).toNat<(aB (cv d) (aw [xa,(⟨az,zs⟩:Sl Int)])).length by omega)) ?_
     refine kJ (s:=WI) (n:=4) (k:=(f -2).toNat) (j:=0) (a:=q) (a':=bb) (xs:=(aB (cv d) (aw [xa,(⟨az,zs⟩:Sl Int)]))) (enc:=bu) (c:=4) (v:= .agg (bu bb)) (by kernel_rfl) rfl rfl rfl hq (bx.one (enc:=bu) (c:=4) _) rfl (by decide) (by rfl) ?_
     refine Gc ?_
     iterate 4 refine Gs ?_
     refine ah (aV (v:= .int .i64 ((eU ((aB (cv d) (aw [xa,(⟨az,zs⟩:Sl Int)])).set (f -2).toNat bb) xc.ae).1)) rfl rfl) ?_
     refine ah (aV (v:= .bool ((eU ((aB (cv d) (aw [xa,(⟨az,zs⟩:Sl Int)])).set (f -2).toNat bb) xc.ae).2)) rfl rfl) ?_
     iterate 2 refine Gs ?_
     refine Gc ?_
     iterate 2 refine Gs ?_
     refine Gc ?_
     refine av rfl (fun h3=> ?_) (fun h3=> ?_)
     ·
      replace h3:=bz h3
      have xn:(bU (cv d) xa.xs zs f t).2=false:=by rw[bU,if_pos h2,←ez,if_neg];rw[show(cv d).ae=xc.ae from zy,h3];simp
      have hE:=Fj (x:=(⟨⟨cv xc,xa.xs,xg.toNat,xl⟩,xy⟩:WV)) (src:=f) (to:=t) (show bY _ _ _ _ _ _ _=_ from(aG.trans (bG.trans ((if_neg eo).trans (if_pos xn)))))
      refine Gc ?_
      iterate 2 refine Gs ?_
      refine Gc ?_
      refine au (.inl rfl) (bo rfl (aq rfl) (aq rfl)) (fun w1 hw=> ?_)
      exact⟨(d,xa,xg,xl),by rw[hE],by rw[hE];rfl,ai.mem hw⟩
     ·
      replace h3:=bz h3
      have q9:=wJ (show(fB _ _ _ _).2=true from h3)
      have CA:(bU (cv d) xa.xs zs f t)=((eU ((aB (cv d) (aw [xa,(⟨az,zs⟩:Sl Int)])).set (f -2).toNat bb) xc.ae).1+2,true):=by rw[bU,if_pos h2,←ez,show(cv d).ae=xc.ae from zy,if_pos h3]
      have ahu:0≤(eU ((aB (cv d) (aw [xa,(⟨az,zs⟩:Sl Int)])).set (f -2).toNat bb) xc.ae).1:=q9.2.1
      have WJ:(eU ((aB (cv d) (aw [xa,(⟨az,zs⟩:Sl Int)])).set (f -2).toNat bb) xc.ae).1<(((aB (cv d) (aw [xa,(⟨az,zs⟩:Sl Int)])).set (f -2).toNat bb).length:Int):=q9.2.2.1
      rw[List.length_set,j7]at WJ
      refine Gc ?_
      iterate 3 refine Gs ?_
      refine Gi ?_
      exact qu () ⟨by rw[CA],by rw[CA];simp only;omega,by rw[CA];simp only;omega⟩ (Sub.cons (look_eq rfl (by rw[CA])) (Sub.cons rfl (Sub.cons rfl (Sub.cons rfl (Sub.cons rfl (Sub.cons rfl (Sub.cons rfl (Sub.cons rfl (Sub.cons rfl (Sub.cons rfl (Sub.nil _))))))))))) (fun w hw=>ai.mem hw)
    ·
     replace h2:=bz h2
     refine Gi ?_
     exact qu () ⟨by rw[bU,if_neg h2],by rw[bU,if_neg h2];exact(F2 (by first|omega|(simp only[];omega))).1,by rw[bU,if_neg h2,Cy];exact(F2 (by first|omega|(simp only[];omega))).2⟩ (Sub.cons (look_eq rfl (by rw[bU,if_neg h2])) (Sub.cons rfl (Sub.cons rfl (Sub.cons rfl (Sub.cons rfl (Sub.cons rfl (Sub.cons rfl (Sub.cons rfl (Sub.cons rfl (Sub.cons rfl (Sub.nil _))))))))))) (fun w hw=>ai.mem hw)
   ·
    rintro⟨⟩ ⟨oy,xz,Gn⟩
    obtain⟨B,hB⟩:=get_some (xs:=d.blocks.xs) (i:=(bU (cv d) xa.xs zs f t).1.toNat) (by omega)
    have pe:Mb B d.blocks:=⟨List.mem_of_getElem? hB⟩
    have eD:=qL hB
    have ox:(ak (cv d) (bU (cv d) xa.xs zs f t).1).used=B.used:=by rw[eD];rfl
    have fR:=eA.1 (qN bB (b:=(bU (cv d) xa.xs zs f t).1) (by omega) (by omega))
    rw[ox,show(cv d).ae=xc.ae from zy]at fR
    have l5:0≤(bU (cv d) xa.xs zs f t).1*xc.ae:=Int.mul_nonneg (by omega) (by omega)
    have nE:(bU (cv d) xa.xs zs f t).1*xc.ae≤32*16:=Int.mul_le_mul (by omega) (by omega) (by omega) (by omega)
    refine Gi ?_
    refine oO [12,14,15,2014,4012] [[],[],[],[],[],[],[],[],[],[],[],[],[],[12],[],[12,14]] [0,1,2,3,4,5,6,7,8,9,10,11,12,13,14,15] [ar k (aL (⟨⟨d,xa,xg,xl⟩,xy⟩:aQ)) 141,fz d,fz xa] [(14,jl Tryz.prog 110)] (by kernel_rfl) (fun _ hw=>ai.mem hw) (by kernel_rfl) (by kernel_rfl) ?_
    refine an rfl (aF rfl) ?_
    refine an rfl (aF rfl) ?_
    refine an rfl (jG rfl) ?_
    refine an rfl (aH (o':=0) rfl rfl) ?_
    refine an rfl (aH (o':=7) rfl rfl) ?_
    refine an rfl (Ry.to (v':= .int .u64 (xg.toNat:Nat)) (bI rfl) rfl) ?_
    refine an rfl (Ry.to (v':= .int .u64 ((xg+1).toNat:Int)) (yh (p:=xg.toNat) (q:=1) rfl rfl rfl rfl (by simp only[nb];omega)) (by rw[rh])) ?_
    refine an rfl (aF rfl) ?_
    refine an rfl (jG rfl) ?_
    refine an rfl (aH (o':=0) rfl rfl) ?_
    refine an rfl (Ry.to (v':= .agg (bL (⟨d,xa,xg,xl⟩:bT))) (jj rfl) rfl) ?_
    refine an rfl (aF rfl) ?_
    refine rI (hc:=Md (v:=(⟨d,xa,xg,xl⟩:bT)) (id:=((i:Nat):Int))) (En:=fun e_=>Md (v:=(⟨d,xa,xg,xl⟩:bT)) (id:=((i:Nat):Int))) rfl rfl ⟨bB,n,by rw[Int.toNat_natCast];exact tv,by omega,Cz.1,Cz.2.1,Cz.2.2.1,Cz.2.2.2⟩ (fun e x w hw=>ai.mem hw) (Cert.one (i:=14) rfl rfl rfl iR (Cert.none rfl)) fun zA ahv=>⟨fun _ hw=>ai.mem hw,?_⟩
    refine an rfl (cU (v:= .agg (cI (⟨1,((i:Nat):Int),xg+1,⟨zA,(ju (cv d) (xa.xs.getD ((i:Nat):Int).toNat 0))⟩⟩:dY))) rfl (WE ((i:Nat):Int) (xg+1) zA _)) ?_
    refine my (m:=jl Tryz.prog 110) rfl rfl iR (Cert.none rfl) fun zB=> ?_
    change Ln _ _ _ _ _ _ _ _ (cw _ _ (.pointer (some ⟨zB,0,none⟩))) (ar zB (cI mG) 110::_) _
    refine dy rfl (mw rfl rfl ⟨fun _ hw=>ai.mem hw,?_⟩)
    iterate 3 refine Gi ?_
    have k9:(dq (cD (⟨1,((i:Nat):Int),xg+1,⟨zA,(ju (cv d) (xa.xs.getD ((i:Nat):Int).toNat 0))⟩⟩:dY)) d.size)=(dv (cv d) ((xg.toNat:Int)+1) i n):=by
     have e1:xa.xs.getD ((i:Nat):Int).toNat 0=n:=by rw[Int.toNat_natCast];exact ob tv
     rw[dv,e1]
     simp only[cD,rh]
     congr 2
    refine jm [7] [[],[],[],[],[],[],[],[],[7],[7],[7],[7],[7]] [0,1,2,3,4,5,6,7,8,9,10,11,12] [ar k (aL (⟨⟨d,xa,xg,xl⟩,xy⟩:aQ)) 141,fz d,ar zB (cI (⟨1,((i:Nat):Int),xg+1,⟨zA,(ju (cv d) (xa.xs.getD ((i:Nat):Int).toNat 0))⟩⟩:dY)) 110] (fun _ hw=>ai.mem hw) (by kernel_rfl) (by kernel_rfl) ?_
    refine an rfl (fN rfl) ?_
    refine an rfl (aF rfl) ?_
    refine an rfl (jG rfl) ?_
    refine an rfl (aH (o':=0) rfl rfl) ?_
    refine an rfl (aH (o':=0) rfl rfl) ?_
    refine an rfl (aH (o':=1) rfl rfl) ?_
    refine an rfl (Ry.to (v':= .int .i64 d.size) (bI rfl) rfl) ?_
    refine dy rfl (nr rfl trivial fun WK ahw=>⟨fun _ hw=>ai.mem hw,?_⟩)
    refine an rfl (aF rfl) ?_
    refine an rfl (aV (v:=WK.val) rfl rfl) ?_
    refine an rfl (aV (v:= .int .i64 ((dq (cD (⟨1,((i:Nat):Int),xg+1,⟨zA,(ju (cv d) (xa.xs.getD ((i:Nat):Int).toNat 0))⟩⟩:dY)) d.size).2)) rfl rfl) ?_
    refine an rfl (bn rfl) ?_
    refine an rfl (bn rfl) ?_
    refine Gc ?_
    iterate 2 refine Gs ?_
    refine Gc ?_
    refine av rfl (fun h4=> ?_) (fun h4=> ?_)
    ·
     replace h4:=bz h4
     have jb:(dv (cv d) ((xg.toNat:Int)+1) i n).2≠0:=by rw[←k9];exact h4
     have hE:=Fj (x:=(⟨⟨cv xc,xa.xs,xg.toNat,xl⟩,xy⟩:WV)) (src:=f) (to:=t) (show bY _ _ _ _ _ _ _=_ from(aG.trans (bG.trans ((if_neg eo).trans ((if_neg (by rw[oy];simp)).trans (if_pos jb))))))
     refine Gc ?_
     iterate 3 refine Gs ?_
     refine Gc ?_
     refine au (.inl rfl) (bo rfl (aq rfl) (aq rfl)) (fun w1 hw=> ?_)
     exact⟨(d,xa,xg,xl),by rw[hE,k9],by rw[hE];rfl,ai.mem hw⟩
    ·
     replace h4:=bz h4
     have jb:(dv (cv d) ((xg.toNat:Int)+1) i n).2=0:=by rw[←k9];exact h4
     refine Gc ?_
     iterate 5 refine Gs ?_
     refine ah (Ry.to (v':=d.blocks.sv.val) (bI rfl) rfl) ?_
     refine Gs ?_
     refine ah (bl rfl rfl ((bU (cv d) xa.xs zs f t).1.toNat) (by omega) (by omega)) ?_
     refine ah (aH rfl rfl) ?_
     refine ah (bO (j:=1) rfl ((bU (cv d) xa.xs zs f t).1.toNat) hB rfl (by decide)) ?_
     refine Gs ?_
     refine Gc ?_
     iterate 3 refine Gs ?_
     refine br rfl ⟨bB,by omega,by omega⟩ fun Mr zC=> ?_
     rw[k9]at zC
     refine Gs ?_
     refine Gc ?_
     iterate 2 refine Gs ?_
     refine Gc ?_
     refine av rfl (fun h5=> ?_) (fun h5=> ?_)
     ·
      replace h5:=bz h5
      have m0:(bw (cv d) (bU (cv d) xa.xs zs f t).1 (dv (cv d) ((xg.toNat:Int)+1) i n).1)≠0:=by rw[←k9];exact h5
      have hE:=Fj (x:=(⟨⟨cv xc,xa.xs,xg.toNat,xl⟩,xy⟩:WV)) (src:=f) (to:=t) (show bY _ _ _ _ _ _ _=_ from(aG.trans (bG.trans ((if_neg eo).trans ((if_neg (by rw[oy];simp)).trans ((if_neg (fun h=>h jb)).trans (if_pos m0)))))))
      refine Gc ?_
      iterate 4 refine Gs ?_
      refine Gc ?_
      refine au (.inl rfl) (bo rfl (aq rfl) (aq rfl)) (fun w1 hw=> ?_)
      exact⟨(Mr,xa,xg,xl),by rw[hE,k9],by rw[hE,zC];rfl,ai.mem hw⟩
     ·
      replace h5:=bz h5
      have m0:(bw (cv d) (bU (cv d) xa.xs zs f t).1 (dv (cv d) ((xg.toNat:Int)+1) i n).1)=0:=by rw[←k9];exact h5
      have dZ:=iH.1 (od m0).1
      rw[ox,show(cv d).ae=xc.ae from zy]at dZ
      have CB:((bU (cv d) xa.xs zs f t).1*xc.ae+B.used+1)=0∨(1≤((bU (cv d) xa.xs zs f t).1*xc.ae+B.used+1)∧2≤(((bU (cv d) xa.xs zs f t).1*xc.ae+B.used+1) -1)/(cv xc).ae∧(((bU (cv d) xa.xs zs f t).1*xc.ae+B.used+1) -1)/(cv xc).ae<((cv xc).blocks.length:Int)):=by
       have hq:(((bU (cv d) xa.xs zs f t).1*xc.ae+B.used+1) -1)/xc.ae=(bU (cv d) xa.xs zs f t).1:=by
        rw[Int.add_sub_cancel,Int.add_comm,Int.add_mul_ediv_right _ _ (by omega),Int.ediv_eq_zero_of_lt dZ.2.1 dZ.2.2.1,Int.zero_add]
       exact .inr ⟨by omega,by rw[show(cv xc).ae=xc.ae from rfl,hq];exact xz,by rw[show(cv xc).ae=xc.ae from rfl,hq];omega⟩
      refine Gc ?_
      iterate 4 refine Gs ?_
      refine ah (ub rfl rfl (by omega)) ?_
      iterate 3 refine Gs ?_
      refine ah (bl rfl rfl i rfl (by omega)) ?_
      refine kJ (s:=az) (n:=1) (k:=i) (j:=0) (a:=zi) (a':=((bU (cv d) xa.xs zs f t).1*xc.ae+B.used+1)) (xs:=zs) (enc:=bP) (c:=1) (v:= .int .i64 ((bU (cv d) xa.xs zs f t).1*xc.ae+B.used+1)) (by kernel_rfl) rfl rfl rfl tr (by simp[Value.cells,Value.oneCell']) rfl (by decide) (by rfl) ?_
      refine Gc ?_
      iterate 2 refine Gs ?_
      refine Gi ?_
      exact bD (x:=(i,d,zs)) (i+1,Mr,zs.set i ((bU (cv d) xa.xs zs f t).1*xc.ae+B.used+1)) ⟨by simp only;omega,by rw[aG,bG,if_neg eo,if_neg (by rw[oy];simp),if_neg (fun h=>h jb),if_neg (fun h=>h m0),zC,ox],by rw[zC];exact iU bB _ _,by rw[zC];exact cV.trans (gD _ _ _),by rw[List.length_set];exact zx,fun y hy=>(List.mem_or_eq_of_mem_set hy).elim (Cx y) fun hy=>hy▸CB⟩ (by simp only;omega) (Sub.cons rfl (Sub.cons rfl (Sub.cons rfl (Sub.cons rfl (Sub.cons rfl (Sub.cons rfl (Sub.cons rfl (Sub.cons rfl (Sub.nil _))))))))) (fun w hw=>ai.mem hw)
 ·
  replace h0:=bz h0
  obtain rfl:i=xa.xs.length:=by omega
  have sf:(bY (⟨cv xc,xa.xs,xg.toNat,xl⟩:VV) f t xa.xs 0 (cv xc) xa.xs)=⟨cv d,zs,none⟩:=by rw[aG,List.drop_length];rfl
  have hE:=S4 (x:=(⟨⟨cv xc,xa.xs,xg.toNat,xl⟩,xy⟩:WV)) (src:=f) (to:=t) sf
  have Gp:cd (⟨⟨cv d,xa.xs,xg.toNat,xl⟩,xy⟩:WV):=gu.on bB cV
  refine Gc ?_
  iterate 2 refine Gs ?_
  refine br rfl Gp fun CC WL=> ?_
  refine Gs ?_
  refine Gc ?_
  iterate 5 refine Gs ?_
  refine Gc ?_
  refine au (.inl rfl) (bo rfl (aq rfl) (aq rfl)) (fun w1 hw=> ?_)
  exact⟨(CC.1,CC.2.1,CC.2.2.1,CC.2.2.2),by rw[hE];rfl,by rw[hE];exact WL,ai.mem hw⟩
instance ahx{w0:World}{L R1 R2 L2:List aj}{i0 i1 i2:Nat}{k:Nat}{xc:Cp}{xa:Sl Int}{xg:UInt64}{xl:Int}{xy:Bool}{f:Int}{t:Int}[q0:Has L k (aL (⟨⟨xc,xa,xg,xl⟩,xy⟩:aQ)) 141 i0][d0:dr L i0 R1][q1:At R1 (fz xc) i1][d1:dr R1 i1 R2][q2:At R2 (fz xa) i2][d2:dr R2 i2 L2]:cr Tryz.prog 183 w0 L [.pointer (some ⟨k,0,none⟩), .int .i64 f, .int .i64 t] (Cp×Sl Int×UInt64×Int) (fun zz=> .tuple #[.bool ((cX (⟨⟨cv xc,xa.xs,xg.toNat,xl⟩,xy⟩:WV) f t).2.1), .int .i64 ((cX (⟨⟨cv xc,xa.xs,xg.toNat,xl⟩,xy⟩:WV) f t).2.2)]) (fun zz=>ar k (aL (⟨⟨zz.1,zz.2.1,zz.2.2.1,zz.2.2.2⟩,xy⟩:aQ)) 141::fz zz.1::fz zz.2.1::L2) (fun zz=>(⟨⟨cv zz.1,zz.2.1.xs,zz.2.2.1.toNat,zz.2.2.2⟩,xy⟩:WV)=(cX (⟨⟨cv xc,xa.xs,xg.toNat,xl⟩,xy⟩:WV) f t).1) (cd (⟨⟨cv xc,xa.xs,xg.toNat,xl⟩,xy⟩:WV)∧2≤f∧f<(cv xc).blocks.length∧(0≤t→2≤t∧t<(cv xc).blocks.length)):=⟨fun hp w hw=>WG w0 w L2 k xc xa xg xl xy f t (xj q0.h d0.h q1.h d1.h q2.h d2.h hw) hp⟩
open Go.ay Go.Kb
open Go.RowKit
theorem WM(w:World)(xb:Nat)(xc:Cp)(xa:Sl Int)(xg:UInt64)(xl:Int)(xy:Bool)(l:Sv)(ls:List aA)(eM:w.heap[xb]? =Option.some (.cells (aL (⟨⟨xc,xa,xg,xl⟩,xy⟩:aQ)) 141 (0,0)))(dQ:Deep.bh (hp w) xc)(hl:bV bu 4 (hp w) l ls)(bc:ls.length≤1000000∧ ∀x∈ls,0≤x.live∧x.live≤1000000∧0≤x.used∧x.used≤1000000):Calls Tryz.prog 166 #[.pointer (some ⟨xb,0,none⟩),l.val] w fun e w'=>e= .returned (.tuple #[.int .i64 ((iW ls xc.ae).1), .bool ((iW ls xc.ae).2)])∧Mem w [] w':=by
 have r9:ph w xb (aL (⟨⟨xc,xa,xg,xl⟩,xy⟩:aQ)) 141:=⟨eM⟩
 have sa:cC w xc:=⟨dQ⟩
 have ov:Gv w l bu 4 ls:=⟨hl⟩
 obtain⟨lf,ka⟩:=bc
 have mN:cK=1099511627776:=rfl
 refine bf (args:=[_,_]) Tryz.func166 rfl Tryz.ntmps166 rfl ?_
 change Cw _ _ _ _ _ [(0, .pointer (some ⟨xb,0,none⟩)),(1,l.val)] []
 refine Gc ?_
 iterate 2 refine Gs ?_
 refine Gc ?_
 iterate 6 refine Gs ?_
 refine ah (Ry.to (v':= .int .i64 xc.ae) (l8 rfl) rfl) ?_
 iterate 2 refine Gs ?_
 refine ah (aV (v:= .int .i64 ((kz ls xc.ae).1)) rfl rfl) ?_
 refine ah (aV (v:= .bool ((kz ls xc.ae).2)) rfl rfl) ?_
 iterate 2 refine Gs ?_
 refine Gc ?_
 refine Gs ?_
 refine Gc ?_
 refine av rfl (fun h0=> ?_) (fun h0=> ?_)
 ·
  replace h0:=bz h0
  have hE:iW ls xc.ae=((kz ls xc.ae).1,true):=by rw[iW,if_pos h0]
  refine Gc ?_
  iterate 3 refine Gs ?_
  refine Gc ?_
  refine au (.inl rfl) (bo rfl (aq rfl) (aq rfl)) (fun w1 hw=> ?_)
  exact⟨by rw[hE],ai.mem hw⟩
 ·
  replace h0:=bz h0
  have hE:iW ls xc.ae=((fY ls ls.length).1,decide (0<(fY ls ls.length).2)):=by rw[iW,if_neg (by rw[h0];simp)]
  refine Gc ?_
  iterate 2 refine Gs ?_
  refine Gc ?_
  iterate 3 refine Gs ?_
  refine Gc ?_
  refine cg (X:=Nat) (fun zz=>[(28, .int .i64 (zz:Nat)),(8, .int .i64 ((fY ls zz).1)),(9, .int .i64 ((fY ls zz).2)),(26,l.val),(27, .int .i64 (ls.length:Nat))]) (fun zz=>[]) (fun zz=>zz≤ls.length) (fun zz=>ls.length -zz) 0 (Nat.zero_le _) (Sub.cons rfl (Sub.cons rfl (Sub.cons rfl (Sub.cons rfl (Sub.cons rfl (Sub.nil _)))))) (fun w hw=>ai.mem hw) ?_
  rintro i bk
  refine Gc ?_
  refine Gs ?_
  refine Gc ?_
  refine av rfl (fun h1=> ?_) (fun h1=> ?_)
  ·
   replace h1:=bz h1
   obtain⟨z,hz⟩:=get_some (xs:=ls) (i:=i) (by omega)
   have vm:ls.getD i dm=z:=by simp[List.getD,hz]
   have Ms:=ka z (List.mem_of_getElem? hz)
   have xo:=Fg ls i
   have eL:(fY ls (i+1))=uW (fY ls i) i z:=by rw[fY,vm]
   refine Gc ?_
   refine Gs ?_
   refine ah (bl rfl rfl i rfl (by omega)) ?_
   refine ah (hH rfl i hz rfl) ?_
   refine bN fun pn=> ?_
   iterate 2 refine Gs ?_
   refine Gc ?_
   iterate 3 refine Gs ?_
   iterate 3 refine Gg ?_
   iterate 2 refine Gs ?_
   iterate 3 refine Gg ?_
   refine Gs ?_
   refine Gc ?_
   refine av rfl (fun h2=> ?_) (fun h2=> ?_)
   ·
    replace h2:=bz h2
    have bG:(fY ls (i+1))=(fY ls i):=by rw[eL,uW,if_pos (h2.elim (fun h=>h.elim (fun h=> .inl h) fun h=> .inr (.inl h)) fun h=> .inr (.inr (by omega)))]
    refine Gc ?_
    iterate 2 refine Gs ?_
    refine Gi ?_
    exact bD (x:=(i)) (i+1) (by first|omega|(simp only[];omega)) (by first|omega|(simp only[];omega)) (Sub.cons rfl (Sub.cons (look_eq rfl (by rw[bG])) (Sub.cons (look_eq rfl (by rw[bG])) (Sub.cons rfl (Sub.cons rfl (Sub.nil _)))))) (fun w hw=>ai.mem hw)
   ·
    replace h2:=bz h2
    have ff: ¬(z.bad=true∨z.live=0∨cK≤z.aT):=fun g=>g.elim (fun g=>absurd (h2.1.1.symm.trans g) (by simp)) (fun g=>g.elim h2.1.2 (fun g=>h2.2 (by omega)))
    refine Gc ?_
    iterate 6 refine Gs ?_
    refine Gc ?_
    iterate 3 refine Gs ?_
    refine Gc ?_
    refine av rfl (fun h3=> ?_) (fun h3=> ?_)
    ·
     replace h3:=bz h3
     have bG:(fY ls (i+1))=((i:Int),z.used -z.live):=by rw[eL,uW,if_neg ff,if_pos h3]
     refine Gi ?_
     iterate 4 refine Gs ?_
     refine Gc ?_
     iterate 2 refine Gs ?_
     refine Gi ?_
     exact bD (x:=(i)) (i+1) (by first|omega|(simp only[];omega)) (by first|omega|(simp only[];omega)) (Sub.cons rfl (Sub.cons (look_eq rfl (by rw[bG])) (Sub.cons (look_eq rfl (by rw[bG])) (Sub.cons rfl (Sub.cons rfl (Sub.nil _)))))) (fun w hw=>ai.mem hw)
    ·
     replace h3:=bz h3
     have bG:(fY ls (i+1))=(fY ls i):=by rw[eL,uW,if_neg ff,if_neg h3]
     refine Gc ?_
     iterate 2 refine Gs ?_
     refine Gi ?_
     exact bD (x:=(i)) (i+1) (by first|omega|(simp only[];omega)) (by first|omega|(simp only[];omega)) (Sub.cons rfl (Sub.cons (look_eq rfl (by rw[bG])) (Sub.cons (look_eq rfl (by rw[bG])) (Sub.cons rfl (Sub.cons rfl (Sub.nil _)))))) (fun w hw=>ai.mem hw)
  ·
   replace h1:=bz h1
   obtain rfl:i=ls.length:=by omega
   refine Gc ?_
   iterate 5 refine Gs ?_
   refine Gc ?_
   refine au (.inl rfl) (bo rfl (aq rfl) (aq rfl)) (fun w1 hw=> ?_)
   exact⟨by rw[hE],ai.mem hw⟩
instance ahy{w0:World}{L:List aj}{xb:Nat}{xc:Cp}{xa:Sl Int}{xg:UInt64}{xl:Int}{xy:Bool}{l:Sv}{ls:List aA}[eM:lg w0 L xb (aL (⟨⟨xc,xa,xg,xl⟩,xy⟩:aQ)) 141][dQ:aW w0 L xc][hl:c6 w0 L bu 4 l ls]:cL Tryz.prog 166 w0 L [.pointer (some ⟨xb,0,none⟩),l.val] (.tuple #[.int .i64 ((iW ls xc.ae).1), .bool ((iW ls xc.ae).2)]) (ls.length≤1000000∧ ∀x∈ls,0≤x.live∧x.live≤1000000∧0≤x.used∧x.used≤1000000):=⟨fun hp w hw=>WM w xb xc xa xg xl xy l ls (eM.h w hw) (dQ.h w hw) (hl.h w hw) hp⟩
theorem WN(w:World)(x:aA):Calls Tryz.prog 192 #[.agg (bu x)] w fun e w'=>e= .returned (.bool (oZ x))∧Mem w [] w':=by
 refine bf (args:=[_]) Tryz.func192 rfl Tryz.ntmps192 rfl ?_
 change Cw _ _ _ _ _ [(0, .agg (bu x))] []
 refine Gc ?_
 refine cq rfl fun b1=> ?_
 refine Gs ?_
 refine Gc ?_
 iterate 4 refine Gs ?_
 refine Gc ?_
 refine au (.inl rfl) (aM rfl (aq rfl)) (fun w1 hw=> ?_)
 exact⟨congrArg (fun b=>Ending.returned (Value.bool b)) (rfl),ai.mem hw⟩
instance {w0:World}{L:List aj}:qe Tryz.prog w0 L 192 #[] bu oZ:=⟨inferInstance,fun w _ x=>WN w x⟩
theorem WO(w:World)(x:aA):Calls Tryz.prog 194 #[.agg (bu x)] w fun e w'=>e= .returned (.bool (p6 x))∧Mem w [] w':=by
 refine bf (args:=[_]) Tryz.func194 rfl Tryz.ntmps194 rfl ?_
 change Cw _ _ _ _ _ [(0, .agg (bu x))] []
 refine Gc ?_
 refine cq rfl fun b1=> ?_
 refine Gs ?_
 refine Gc ?_
 iterate 4 refine Gs ?_
 refine Gc ?_
 refine au (.inl rfl) (aM rfl (aq rfl)) (fun w1 hw=> ?_)
 exact⟨congrArg (fun b=>Ending.returned (Value.bool b)) (rfl),ai.mem hw⟩
instance {w0:World}{L:List aj}:qe Tryz.prog w0 L 194 #[] bu p6:=⟨inferInstance,fun w _ x=>WO w x⟩
theorem WQ(w:World)(cb:Nat)(cp:Int)(oq:w.cell? ⟨cb,0,none⟩=Option.some (.int .i64 cp))(x:aA):Calls Tryz.prog 193 #[.agg (bu x), .pointer (some ⟨cb,0,none⟩)] w fun e w'=>e= .returned (.bool (uX cp x))∧Mem w [] w':=by
 refine bf (args:=[_,_]) Tryz.func193 rfl Tryz.ntmps193 rfl ?_
 change Cw _ _ _ _ _ [(0, .agg (bu x)),(1, .pointer (some ⟨cb,0,none⟩))] []
 refine Gc ?_
 refine cq rfl fun b2=> ?_
 refine Gs ?_
 refine Gc ?_
 iterate 2 refine Gs ?_
 refine ah (LH rfl oq) ?_
 iterate 2 refine Gs ?_
 refine Gc ?_
 refine au (.inl rfl) (aM rfl (aq rfl)) (fun w1 hw=> ?_)
 exact⟨congrArg (fun b=>Ending.returned (Value.bool b)) (rfl),ai.mem hw⟩
instance {w0:World}{L:List aj}{cb i:Nat}{cp:Int}{T:TypeId}[q:Has L cb #[.int .i64 cp] T i]:qe Tryz.prog w0 L 193 #[.pointer (some ⟨cb,0,none⟩)] bu (uX cp):=⟨inferInstance,fun w hw x=>WQ w cb cp (by rw[hw.cell q.h];rfl) x⟩
theorem WR(w0 w:World)(L:List aj)(k:Nat)(xc:Cp)(xa:Sl Int)(xg:UInt64)(xl:Int)(xy:Bool)(l:Sv)(ls:List aA)[hl:Hd w0 L l bu 4 ls](hw:Mem w0 (ar k (aL (⟨⟨xc,xa,xg,xl⟩,xy⟩:aQ)) 141::fz xc::L) w)(bc:aS (cv xc)=true∧kb (cv xc) ls):Calls Tryz.prog 181 #[.pointer (some ⟨k,0,none⟩),l.val] w fun e w'=> ∃zz:Cp,e= .returned (.tuple #[.int .i64 ((bJ (cv xc) ls).2.1), .int .i64 ((bJ (cv xc) ls).2.2)])∧(cv zz=(bJ (cv xc) ls).1)∧Mem w0 (ar k (aL (⟨⟨zz,xa,xg,xl⟩,xy⟩:aQ)) 141::fz zz::L) w':=by
 have hk:=bc.1
 have iM:=bc.2.1
 have hd:=fa hk
 refine kt (args:=[_,_]) Tryz.func181 rfl Tryz.ntmps181 rfl hw ?_
 change Cw _ _ _ _ _ [(0, .pointer (some ⟨k,0,none⟩)),(1,l.val)] (ar k (aL (⟨⟨xc,xa,xg,xl⟩,xy⟩:aQ)) 141::fz xc::L)
 refine Gc ?_
 iterate 2 refine Gs ?_
 refine Gc ?_
 iterate 5 refine Gs ?_
 refine ah (Ry.to (v':= .int .i64 xc.ae) (bI rfl) rfl) ?_
 refine T9 (z:= .int .i64 0) rfl fun b6=> ?_
 refine Ua (by first|rfl|exact Sv.one _) rfl rfl ?_
 refine Gc ?_
 refine Gs ?_
 refine br rfl (by omega) fun lY Cd=> ?_
 refine Gs ?_
 refine Gc ?_
 iterate 4 refine Gs ?_
 refine ah (aV (v:= .int .i64 ((eU (bX oZ ls) xc.ae).1)) rfl rfl) ?_
 refine ah (aV (v:= .bool ((eU (bX oZ ls) xc.ae).2)) rfl rfl) ?_
 iterate 2 refine Gs ?_
 refine Gc ?_
 refine Gs ?_
 refine Gc ?_
 refine av rfl (fun h0=> ?_) (fun h0=> ?_)
 ·
  replace h0:=bz h0
  have nI:(kQ (cv xc) ls).2=true:=h0
  have hE:(bJ (cv xc) ls)=(cv xc,(kQ (cv xc) ls).1+2,0):=by rw[bJ,if_pos nI]
  have mW:=td bc.2 (fun x h=>(uT h).1) nI
  change 0≤(eU (bX oZ ls) xc.ae).1∧(eU (bX oZ ls) xc.ae).1<_∧_ at mW
  refine Gc ?_
  iterate 4 refine Gs ?_
  refine Gc ?_
  refine au (.inl rfl) (bo rfl (aq rfl) (aq rfl)) (fun w1 hw=> ?_)
  exact⟨xc,by rw[hE];rfl,by rw[hE],ai.mem hw⟩
 ·
  replace h0:=bz h0
  have nI: ¬(kQ (cv xc) ls).2=true:=fun h=>by rw[show(kQ (cv xc) ls).2=false from h0]at h;cases h
  refine Gc ?_
  refine Gs ?_
  refine ah (FN rfl) ?_
  refine br rfl (by omega) fun zD Mt=> ?_
  refine Gs ?_
  refine Gc ?_
  iterate 4 refine Gs ?_
  refine ah (aV (v:= .int .i64 ((eV (bX (uX xc.ae) ls) xc.ae).1)) rfl rfl) ?_
  refine ah (aV (v:= .bool ((eV (bX (uX xc.ae) ls) xc.ae).2)) rfl rfl) ?_
  iterate 2 refine Gs ?_
  refine Gc ?_
  refine Gs ?_
  refine Gc ?_
  refine av rfl (fun h1=> ?_) (fun h1=> ?_)
  ·
   replace h1:=bz h1
   have eo:(jw (cv xc) ls).2=true:=h1
   have hE:(bJ (cv xc) ls)=((cE (cv xc) ((jw (cv xc) ls).1+2)).1,(jw (cv xc) ls).1+2,(cE (cv xc) ((jw (cv xc) ls).1+2)).2):=by rw[bJ,if_neg nI,if_pos eo]
   have mW:=td bc.2 (fun x h=>(kA h).1) eo
   change 0≤(eV (bX (uX xc.ae) ls) xc.ae).1∧(eV (bX (uX xc.ae) ls) xc.ae).1<_∧_ at mW
   refine Gc ?_
   iterate 5 refine Gs ?_
   refine br rfl ⟨hk,by omega,by omega⟩ fun tD Mu=> ?_
   iterate 2 refine Gs ?_
   refine Gc ?_
   refine au (.inl rfl) (bo rfl (aq rfl) (aq rfl)) (fun w1 hw=> ?_)
   exact⟨tD,by rw[hE];rfl,by rw[Mu,hE];rfl,ai.mem hw⟩
  ·
   replace h1:=bz h1
   have eo: ¬(jw (cv xc) ls).2=true:=fun h=>by rw[show(jw (cv xc) ls).2=false from h1]at h;cases h
   refine Gc ?_
   refine Gs ?_
   refine br rfl (by omega) fun nG vg=> ?_
   refine Gs ?_
   refine Gc ?_
   iterate 4 refine Gs ?_
   refine ah (aV (v:= .int .i64 ((eV (bX p6 ls) xc.ae).1)) rfl rfl) ?_
   refine ah (aV (v:= .bool ((eV (bX p6 ls) xc.ae).2)) rfl rfl) ?_
   iterate 2 refine Gs ?_
   refine Gc ?_
   refine Gs ?_
   refine Gc ?_
   refine av rfl (fun h2=> ?_) (fun h2=> ?_)
   ·
    replace h2:=bz h2
    have ff:(iX (cv xc) ls).2=true:=h2
    have hE:(bJ (cv xc) ls)=((cE (cv xc) ((iX (cv xc) ls).1+2)).1,(iX (cv xc) ls).1+2,(cE (cv xc) ((iX (cv xc) ls).1+2)).2):=by rw[bJ,if_neg nI,if_neg eo,if_pos ff]
    have mW:=td bc.2 (fun x h=>(kA h).1) ff
    change 0≤(eV (bX p6 ls) xc.ae).1∧(eV (bX p6 ls) xc.ae).1<_∧_ at mW
    refine Gc ?_
    iterate 5 refine Gs ?_
    refine br rfl ⟨hk,by omega,by omega⟩ fun eN Gr=> ?_
    iterate 2 refine Gs ?_
    refine Gc ?_
    refine au (.inl rfl) (bo rfl (aq rfl) (aq rfl)) (fun w1 hw=> ?_)
    exact⟨eN,by rw[hE];rfl,by rw[Gr,hE];rfl,ai.mem hw⟩
   ·
    replace h2:=bz h2
    have ff: ¬(iX (cv xc) ls).2=true:=fun h=>by rw[show(iX (cv xc) ls).2=false from h2]at h;cases h
    refine Gc ?_
    iterate 2 refine Gs ?_
    refine Gc ?_
    refine au (.inl rfl) (bo rfl (aq rfl) (aq rfl)) (fun w1 hw=> ?_)
    exact⟨xc,by rw[bJ,if_neg nI,if_neg eo,if_neg ff],by rw[bJ,if_neg nI,if_neg eo,if_neg ff],ai.mem hw⟩
instance ahz{w0:World}{L R1 L2:List aj}{i0 i1:Nat}{k:Nat}{xc:Cp}{xa:Sl Int}{xg:UInt64}{xl:Int}{xy:Bool}{l:Sv}{ls:List aA}[q0:Has L k (aL (⟨⟨xc,xa,xg,xl⟩,xy⟩:aQ)) 141 i0][d0:dr L i0 R1][q1:At R1 (fz xc) i1][d1:dr R1 i1 L2][hl:Hd w0 L2 l bu 4 ls]:cr Tryz.prog 181 w0 L [.pointer (some ⟨k,0,none⟩),l.val] (Cp) (fun zz=> .tuple #[.int .i64 ((bJ (cv xc) ls).2.1), .int .i64 ((bJ (cv xc) ls).2.2)]) (fun zz=>ar k (aL (⟨⟨zz,xa,xg,xl⟩,xy⟩:aQ)) 141::fz zz::L2) (fun zz=>cv zz=(bJ (cv xc) ls).1) (aS (cv xc)=true∧kb (cv xc) ls):=⟨fun hp w hw=>WR w0 w L2 k xc xa xg xl xy l ls (rW q0.h d0.h q1.h d1.h hw) hp⟩
open Go.ay Go.Kb
open Go.RowKit
theorem WS(w0 w:World)(L:List aj)(k:Nat)(xc:Cp)(xa:Sl Int)(xg:UInt64)(xl:Int)(xy:Bool)(l:Sv)(ls:List aA)(i:Int)[hl:Hd w0 L l bu 4 ls](hw:Mem w0 (ar k (aL (⟨⟨xc,xa,xg,xl⟩,xy⟩:aQ)) 141::fz xc::fz xa::L) w)(bc:cd (⟨⟨cv xc,xa.xs,xg.toNat,xl⟩,xy⟩:WV)∧kb (cv xc) ls∧0≤i∧i<ls.length):Calls Tryz.prog 168 #[.pointer (some ⟨k,0,none⟩),l.val, .int .i64 i] w fun e w'=> ∃zz:Cp×Sl Int×UInt64×Int,e= .returned (.int .i64 ((ei (⟨⟨cv xc,xa.xs,xg.toNat,xl⟩,xy⟩:WV) ls i).2))∧((⟨⟨cv zz.1,zz.2.1.xs,zz.2.2.1.toNat,zz.2.2.2⟩,xy⟩:WV)=(ei (⟨⟨cv xc,xa.xs,xg.toNat,xl⟩,xy⟩:WV) ls i).1)∧Mem w0 (ar k (aL (⟨⟨zz.1,zz.2.1,zz.2.2.1,zz.2.2.2⟩,xy⟩:aQ)) 141::fz zz.1::fz zz.2.1::L) w':=by
 obtain⟨gu,qg,xY,bk⟩:=bc
 have hk:aS (cv xc)=true:=gu.ag
 have xw:4≤(cv xc).blocks.length:=gu.oh
 have hd:=fa hk
 have iM:=qg.1
 obtain⟨z,hz⟩:=get_some (xs:=ls) (i:=i.toNat) (by omega)
 have vm:ls.getD i.toNat dm=z:=by simp[List.getD,hz]
 have xd:(ls.set i.toNat bb).length=ls.length:=List.length_set
 refine kt (args:=[_,_,_]) Tryz.func168 rfl Tryz.ntmps168 rfl hw ?_
 change Cw _ _ _ _ _ [(0, .pointer (some ⟨k,0,none⟩)),(1,l.val),(2, .int .i64 i)] (ar k (aL (⟨⟨xc,xa,xg,xl⟩,xy⟩:aQ)) 141::fz xc::fz xa::L)
 refine Gc ?_
 refine Gs ?_
 refine Gc ?_
 refine Gs ?_
 refine br rfl (by omega) fun pt Gt=> ?_
 refine Gs ?_
 refine Gc ?_
 iterate 2 refine Gs ?_
 refine ah (cU (v:= .agg (bu bb)) rfl Cu) ?_
 refine ah (bl rfl rfl i.toNat (by omega) (by omega)) ?_
 refine kJ (s:=pt) (n:=4) (k:=i.toNat) (j:=0) (a:=z) (a':=bb) (xs:=ls) (enc:=bu) (c:=4) (v:= .agg (bu bb)) (by kernel_rfl) rfl rfl rfl hz (bx.one (enc:=bu) (c:=4) _) rfl (by decide) (by rfl) ?_
 refine Gc ?_
 iterate 2 refine Gs ?_
 refine br rfl ⟨hk,qg.set i.toNat⟩ fun gN vd=> ?_
 obtain⟨t1,t2,t3,t4,t5,t6⟩:=Fi hk (qg.set i.toNat)
 rw[←vd]at t1 t2 t3 t4 t5 t6
 have nP:cd (⟨⟨cv gN,xa.xs,xg.toNat,xl⟩,xy⟩:WV):=gu.on t1 t2
 refine Gs ?_
 refine ah (aV (v:= .int .i64 ((bJ (cv xc) (ls.set i.toNat bb)).2.1)) rfl rfl) ?_
 refine ah (aV (v:= .int .i64 ((bJ (cv xc) (ls.set i.toNat bb)).2.2)) rfl rfl) ?_
 iterate 2 refine Gs ?_
 iterate 2 refine Gi ?_
 refine yj (X:=Unit) (fun zz=>[(8, .int .i64 ((bZ (cv xc) ls i).1)),(9, .int .i64 ((bZ (cv xc) ls i).2)),(0, .pointer (some ⟨k,0,none⟩)),(1,l.val),(2, .int .i64 i)]) (fun zz=>ar k (aL (⟨⟨gN,xa,xg,xl⟩,xy⟩:aQ)) 141::fz gN::fz xa::L) (fun zz=>True) ?_ ?_
 ·
  refine Gi ?_
  refine iF (by kernel_rfl) (by kernel_rfl) ?_
  iterate 3 refine Gq ?_
  iterate 2 refine Gh ?_
  refine fF rfl rfl rfl (fun hg=>(Ry.yl (jG (aI hg rfl)))) ?_
  refine fF rfl rfl rfl (fun hg=>(Ry.yl (aH (o':=0) (aI hg rfl) rfl))) ?_
  refine fF rfl rfl rfl (fun hg=>(Ry.yl (aH (o':=0) (aI hg rfl) rfl))) ?_
  refine fF rfl rfl rfl (fun hg=>(Ry.yl (aH (o':=0) (aI hg rfl) rfl))) ?_
  refine fF rfl rfl rfl (fun hg=>(Ry.yl (Ry.to (v':= .int .i64 gN.ae) (bI (aI hg rfl)) rfl))) ?_
  refine fF rfl rfl rfl (fun hg=>cM (dP (aI hg rfl) (dP (aI hg rfl) gP)) trivial) ?_
  iterate 2 refine Gh ?_
  refine fF rfl rfl rfl (fun hg=>(Ry.yl (bl (aI hg rfl) (aI hg rfl) i.toNat (by omega) (by omega)))) ?_
  refine fF rfl rfl rfl (fun hg=>(Ry.yl (aH (aI hg rfl) rfl))) ?_
  refine fF rfl rfl rfl (fun hg=>(Ry.yl (bO (j:=0) (aI hg rfl) i.toNat hz rfl (by decide)))) ?_
  refine Gh ?_
  refine Gq ?_
  refine Gc ?_
  refine av rfl (fun h0=> ?_) (fun h0=> ?_)
  ·
   replace h0:=bz h0
   have hA:o8 (cv xc) ls i=true:=by
    rw[o8,vm,Bool.and_eq_true,decide_eq_true_eq,decide_eq_true_eq,←show gN.ae=(cv xc).ae from t2.ae];exact h0
   refine Gi ?_
   iterate 2 refine Gs ?_
   refine Gi ?_
   exact qu () trivial (Sub.cons (look_eq rfl (by rw[bZ,if_pos hA])) (Sub.cons (look_eq rfl (by rw[bZ,if_pos hA])) (Sub.cons rfl (Sub.cons rfl (Sub.cons rfl (Sub.nil _)))))) (fun w hw=>ai.mem hw)
  ·
   replace h0:=bz h0
   have hA: ¬o8 (cv xc) ls i=true:=by
    rw[o8,vm,Bool.and_eq_true,decide_eq_true_eq,decide_eq_true_eq,←show gN.ae=(cv xc).ae from t2.ae]
    rintro⟨ga,gb⟩
    rcases h0 with h|h
    ·
     exact h ga
    ·
     exact h gb
   refine Gi ?_
   exact qu () trivial (Sub.cons (look_eq rfl (by rw[bZ,if_neg hA])) (Sub.cons (look_eq rfl (by rw[bZ,if_neg hA])) (Sub.cons rfl (Sub.cons rfl (Sub.cons rfl (Sub.nil _)))))) (fun w hw=>ai.mem hw)
 ·
  rintro⟨⟩ _
  refine Gc ?_
  iterate 2 refine Gs ?_
  refine Gc ?_
  refine av rfl (fun h1=> ?_) (fun h1=> ?_)
  ·
   replace h1:=bz h1
   have hE:(ei (⟨⟨cv xc,xa.xs,xg.toNat,xl⟩,xy⟩:WV) ls i)=(((⟨⟨cv xc,xa.xs,xg.toNat,xl⟩,xy⟩:WV).on (cv gN)),iV (bZ (cv xc) ls i).2):=by rw[ei,if_pos h1,show((⟨⟨cv xc,xa.xs,xg.toNat,xl⟩,xy⟩:WV)).v.ag=cv xc from rfl,←vd]
   refine Gc ?_
   iterate 3 refine Gs ?_
   refine Gc ?_
   refine au (.inl rfl) (aM rfl (aq rfl)) (fun w1 hw=> ?_)
   exact⟨(gN,xa,xg,xl),by rw[hE],by rw[hE];rfl,ai.mem hw⟩
  ·
   replace h1:=bz h1
   have eo: ¬(bZ (cv xc) ls i).2≠0:=fun h=>h h1
   have bG:(ei (⟨⟨cv xc,xa.xs,xg.toNat,xl⟩,xy⟩:WV) ls i)=(if(cX (⟨⟨cv gN,xa.xs,xg.toNat,xl⟩,xy⟩:WV) (i+2) (bZ (cv xc) ls i).1).2.1=false∨z.used=xc.ae then((cX (⟨⟨cv gN,xa.xs,xg.toNat,xl⟩,xy⟩:WV) (i+2) (bZ (cv xc) ls i).1).1,(cX (⟨⟨cv gN,xa.xs,xg.toNat,xl⟩,xy⟩:WV) (i+2) (bZ (cv xc) ls i).1).2.2)else((cX (⟨⟨cv gN,xa.xs,xg.toNat,xl⟩,xy⟩:WV) (i+2) (bZ (cv xc) ls i).1).1.on (cE (cX (⟨⟨cv gN,xa.xs,xg.toNat,xl⟩,xy⟩:WV) (i+2) (bZ (cv xc) ls i).1).1.v.ag (i+2)).1,iV (cE (cX (⟨⟨cv gN,xa.xs,xg.toNat,xl⟩,xy⟩:WV) (i+2) (bZ (cv xc) ls i).1).1.v.ag (i+2)).2)):=by
    rw[ei]
    refine(if_neg eo).trans ?_
    rw[vm,show((⟨⟨cv xc,xa.xs,xg.toNat,xl⟩,xy⟩:WV)).v.ag=cv xc from rfl,←vd];rfl
   refine Gc ?_
   iterate 4 refine Gs ?_
   refine br rfl ⟨nP,by omega,by rw[t2.len];omega,fun h=>by rw[t2.len];have:=wV (i:=i) hk qg h1 h;exact⟨this.1,this.2.1⟩⟩ fun nG vg=> ?_
   have hm:=S6 (x:=(⟨⟨cv gN,xa.xs,xg.toNat,xl⟩,xy⟩:WV)) (src:=i+2) (to:=(bZ (cv xc) ls i).1) nP (fun h=>by
    have:=wV (i:=i) hk qg h1 h
    exact⟨this.1,by rw[show((⟨⟨cv gN,xa.xs,xg.toNat,xl⟩,xy⟩:WV)).v.ag.blocks.length=(cv xc).blocks.length from t2.len];exact this.2.1,by rw[show((⟨⟨cv gN,xa.xs,xg.toNat,xl⟩,xy⟩:WV)).v.ag=(bJ (cv xc) (ls.set i.toNat bb)).1 from vd];exact this.2.2⟩)
   rw[←vg]at hm
   obtain⟨WT,Mv⟩:=hm
   have mY:nG.1.ae=xc.ae:=Mv.ae.trans t2.ae
   refine Gs ?_
   refine ah (aV (v:= .bool ((cX (⟨⟨cv gN,xa.xs,xg.toNat,xl⟩,xy⟩:WV) (i+2) ((bZ (cv xc) ls i).1)).2.1)) rfl rfl) ?_
   refine ah (aV (v:= .int .i64 ((cX (⟨⟨cv gN,xa.xs,xg.toNat,xl⟩,xy⟩:WV) (i+2) ((bZ (cv xc) ls i).1)).2.2)) rfl rfl) ?_
   iterate 2 refine Gs ?_
   refine Gc ?_
   refine iF (by kernel_rfl) (by kernel_rfl) ?_
   iterate 3 refine Gq ?_
   iterate 2 refine Gh ?_
   refine iE rfl rfl rfl (fun hg=>(Ry.yl (bl (aI hg rfl) (aI hg rfl) i.toNat (by omega) (by omega)))) ?_
   refine iE rfl rfl rfl (fun hg=>(Ry.yl (aH (aI hg rfl) rfl))) ?_
   refine iE rfl rfl rfl (fun hg=>(Ry.yl (bO (j:=1) (aI hg rfl) i.toNat hz rfl (by decide)))) ?_
   refine Gh ?_
   refine iE rfl rfl rfl (fun hg=>(Ry.yl (jG (aI hg rfl)))) ?_
   refine iE rfl rfl rfl (fun hg=>(Ry.yl (aH (o':=0) (aI hg rfl) rfl))) ?_
   refine iE rfl rfl rfl (fun hg=>(Ry.yl (aH (o':=0) (aI hg rfl) rfl))) ?_
   refine iE rfl rfl rfl (fun hg=>(Ry.yl (aH (o':=0) (aI hg rfl) rfl))) ?_
   refine iE rfl rfl rfl (fun hg=>(Ry.yl (Ry.to (v':= .int .i64 nG.1.ae) (bI (aI hg rfl)) rfl))) ?_
   refine Gh ?_
   refine Gq ?_
   refine Gc ?_
   refine av rfl (fun h2=> ?_) (fun h2=> ?_)
   ·
    replace h2:=bz h2
    have hE:=bG
    rw[if_pos (by rw[←mY];exact h2),←vg]at hE
    refine Gc ?_
    iterate 2 refine Gs ?_
    refine Gc ?_
    refine au (.inl rfl) (aM rfl (aq rfl)) (fun w1 hw=> ?_)
    exact⟨(nG.1,nG.2.1,nG.2.2.1,nG.2.2.2),by rw[hE],by rw[hE],ai.mem hw⟩
   ·
    replace h2:=bz h2
    have hE:=bG
    rw[if_neg (by rw[←mY];rintro(g|g)
                  ·exact absurd (h2.1.symm.trans g) (by simp)
                  ·exact h2.2 g),←vg]at hE
    refine Gc ?_
    iterate 3 refine Gs ?_
    refine br rfl ⟨WT.ag,by omega,by rw[Mv.len,t2.len];omega⟩ fun WU WW=> ?_
    iterate 2 refine Gs ?_
    refine Gc ?_
    refine au (.inl rfl) (aM rfl (aq rfl)) (fun w1 hw=> ?_)
    exact⟨(WU,nG.2.1,nG.2.2.1,nG.2.2.2),by rw[hE],by rw[hE,WW];rfl,ai.mem hw⟩
instance ahA{w0:World}{L R1 R2 L2:List aj}{i0 i1 i2:Nat}{k:Nat}{xc:Cp}{xa:Sl Int}{xg:UInt64}{xl:Int}{xy:Bool}{l:Sv}{ls:List aA}{i:Int}[q0:Has L k (aL (⟨⟨xc,xa,xg,xl⟩,xy⟩:aQ)) 141 i0][d0:dr L i0 R1][q1:At R1 (fz xc) i1][d1:dr R1 i1 R2][q2:At R2 (fz xa) i2][d2:dr R2 i2 L2][hl:Hd w0 L2 l bu 4 ls]:cr Tryz.prog 168 w0 L [.pointer (some ⟨k,0,none⟩),l.val, .int .i64 i] (Cp×Sl Int×UInt64×Int) (fun zz=> .int .i64 ((ei (⟨⟨cv xc,xa.xs,xg.toNat,xl⟩,xy⟩:WV) ls i).2)) (fun zz=>ar k (aL (⟨⟨zz.1,zz.2.1,zz.2.2.1,zz.2.2.2⟩,xy⟩:aQ)) 141::fz zz.1::fz zz.2.1::L2) (fun zz=>(⟨⟨cv zz.1,zz.2.1.xs,zz.2.2.1.toNat,zz.2.2.2⟩,xy⟩:WV)=(ei (⟨⟨cv xc,xa.xs,xg.toNat,xl⟩,xy⟩:WV) ls i).1) (cd (⟨⟨cv xc,xa.xs,xg.toNat,xl⟩,xy⟩:WV)∧kb (cv xc) ls∧0≤i∧i<ls.length):=⟨fun hp w hw=>WS w0 w L2 k xc xa xg xl xy l ls i (xj q0.h d0.h q1.h d1.h q2.h d2.h hw) hp⟩
theorem WX(w:World)(cb k:Nat)(xc:Cp)(xa:Sl Int)(xg:UInt64)(xl:Int)(xy:Bool)(oq:w.cell? ⟨cb,0,none⟩=Option.some (.pointer (some ⟨k,0,none⟩)))(ri:w.heap[k]? =Option.some (.cells (aL (⟨⟨xc,xa,xg,xl⟩,xy⟩:aQ)) 141 (0,0)))(x:aA):Calls Tryz.prog 170 #[.agg (bu x), .pointer (some ⟨cb,0,none⟩)] w fun e w'=>e= .returned (.bool (mT xc.ae x))∧Mem w [] w':=by
 have gkb:ph w k (aL (⟨⟨xc,xa,xg,xl⟩,xy⟩:aQ)) 141:=⟨ri⟩
 have mN:cK=1099511627776:=rfl
 refine bf (args:=[_,_]) Tryz.func170 rfl Tryz.ntmps170 rfl ?_
 change Cw _ _ _ _ _ [(0, .agg (bu x)),(1, .pointer (some ⟨cb,0,none⟩))] []
 refine Gc ?_
 refine cq rfl fun b2=> ?_
 refine Gs ?_
 refine Gc ?_
 refine iF (by kernel_rfl) (by kernel_rfl) ?_
 iterate 2 refine Gq ?_
 refine bm (LH rfl oq) ?_
 iterate 4 refine Gq ?_
 refine bm (Ry.to (v':= .int .i64 xc.ae) (l8 rfl) rfl) ?_
 iterate 2 refine Gq ?_
 iterate 3 refine Gh ?_
 iterate 2 refine Gq ?_
 refine Gc ?_
 refine au (.inl rfl) (aM rfl (aq rfl)) (fun w1 hw=> ?_)
 exact⟨congrArg (fun b=>Ending.returned (Value.bool b)) (rfl),ai.mem hw⟩
instance {w0:World}{L:List aj}{cb k i j:Nat}{xc:Cp}{xa:Sl Int}{xg:UInt64}{xl:Int}{xy:Bool}{T:TypeId}[q:Has L cb #[.pointer (some ⟨k,0,none⟩)] T i][q2:Has L k (aL (⟨⟨xc,xa,xg,xl⟩,xy⟩:aQ)) 141 j]:qe Tryz.prog w0 L 170 #[.pointer (some ⟨cb,0,none⟩)] bu (mT xc.ae):=⟨inferInstance,fun w hw x=>WX w cb k xc xa xg xl xy (by rw[hw.cell q.h];rfl) (hw.block q2.h) x⟩
theorem WY(w0 w:World)(L:List aj)(k:Nat)(xc:Cp)(xa:Sl Int)(xg:UInt64)(xl:Int)(xy:Bool)(hw:Mem w0 (ar k (aL (⟨⟨xc,xa,xg,xl⟩,xy⟩:aQ)) 141::fz xc::fz xa::L) w)(bc:cd (⟨⟨cv xc,xa.xs,xg.toNat,xl⟩,xy⟩:WV)):Calls Tryz.prog 152 #[.pointer (some ⟨k,0,none⟩)] w fun e w'=> ∃zz:Cp×Sl Int×UInt64×Int,e= .returned (.int .i64 ((eI (⟨⟨cv xc,xa.xs,xg.toNat,xl⟩,xy⟩:WV)).2))∧((⟨⟨cv zz.1,zz.2.1.xs,zz.2.2.1.toNat,zz.2.2.2⟩,xy⟩:WV)=(eI (⟨⟨cv xc,xa.xs,xg.toNat,xl⟩,xy⟩:WV)).1)∧Mem w0 (ar k (aL (⟨⟨zz.1,zz.2.1,zz.2.2.1,zz.2.2.2⟩,xy⟩:aQ)) 141::fz zz.1::fz zz.2.1::L) w':=by
 have gu:=bc
 have hk:aS (cv xc)=true:=gu.ag
 have xw:4≤(cv xc).blocks.length:=gu.oh
 have hd:=fa hk
 have zw:xg.toNat<281474976710656:=gu.gen
 have ow:pV (cv xc) (aw [xa]):=by rw[zt];exact(show hU (cv xc) xa.xs from gu.qQ).kn hk (by omega) (by have:xa.xs.length≤64:=gu.nA;omega)
 have qg:kb (cv xc) (aB (cv xc) (aw [xa])):=ta _ _
 have iM:=qg.1
 have ez:(aw [xa]).length≤64:=by rw[zt];exact gu.nA
 have jn: ∀x∈(aB (cv xc) (aw [xa])),0≤x.live∧x.live≤1000000∧0≤x.used∧x.used≤1000000:=fun x hx=>by
  have t:=s8 hk hx
  have:=t.E7;have:=t.SW;have:=t.y0;have:=t.wO
  exact⟨by omega,by omega,by omega,by omega⟩
 have Gu:(eI (⟨⟨cv xc,xa.xs,xg.toNat,xl⟩,xy⟩:WV))=(if(iW (aB (cv xc) (aw [xa])) xc.ae).2=true∧uS xg.toNat=false then(if(ei (⟨⟨cv xc,xa.xs,xg.toNat,xl⟩,xy⟩:WV) (aB (cv xc) (aw [xa])) (iW (aB (cv xc) (aw [xa])) xc.ae).1).2≠6 then(ei (⟨⟨cv xc,xa.xs,xg.toNat,xl⟩,xy⟩:WV) (aB (cv xc) (aw [xa])) (iW (aB (cv xc) (aw [xa])) xc.ae).1)else jx (ei (⟨⟨cv xc,xa.xs,xg.toNat,xl⟩,xy⟩:WV) (aB (cv xc) (aw [xa])) (iW (aB (cv xc) (aw [xa])) xc.ae).1).1 (aB (cv xc) (aw [xa])))else jx (⟨⟨cv xc,xa.xs,xg.toNat,xl⟩,xy⟩:WV) (aB (cv xc) (aw [xa]))):=by
  have e:(aB (cv xc) (aw [xa]))=ba (⟨⟨cv xc,xa.xs,xg.toNat,xl⟩,xy⟩:WV):=by rw[zt];rfl
  rw[e];rfl
 refine kt (args:=[_]) Tryz.func152 rfl Tryz.ntmps152 rfl hw ?_
 change Cw _ _ _ _ _ [(0, .pointer (some ⟨k,0,none⟩))] (ar k (aL (⟨⟨xc,xa,xg,xl⟩,xy⟩:aQ)) 141::fz xc::fz xa::L)
 refine Gc ?_
 refine T8 (by first|rfl|exact Sv.iQ _) rfl fun b1=> ?_
 refine Gs ?_
 refine Gc ?_
 refine jm [6,7] [[],[],[],[],[],[],[],[6],[6,7]] [0,1,2,3,4,5,6,7,8] [ar b1 #[.pointer (some ⟨k,0,none⟩)] 139,ar k (aL (⟨⟨xc,xa,xg,xl⟩,xy⟩:aQ)) 141,fz xa] (fun _ hw=>ai.mem hw) (by kernel_rfl) (by kernel_rfl) ?_
 refine an rfl (bI rfl) ?_
 refine an rfl (bI rfl) ?_
 refine an rfl (jG rfl) ?_
 refine an rfl (aH (o':=0) rfl rfl) ?_
 refine an rfl (aH (o':=6) rfl rfl) ?_
 refine an rfl (Ry.to (v':=xa.sv.val) (bI rfl) rfl) ?_
 refine dy rfl (Jd (enc:=cc) (vals:=[xa.sv.val]) [xa] rfl (by simp only[List.map_cons,List.map_nil,Sv.iQ];rfl) rfl (by decide) (by decide) fun zB=>⟨fun _ hw=>ai.mem hw,?_⟩)
 refine dy rfl (nr (hc:=Ga (l:=(⟨⟨false,zB,0,1,1,none⟩,[xa]⟩:Sl (Sl Int)))) rfl ow fun fL zE=>⟨fun _ hw=>ai.mem hw,?_⟩)
 refine an rfl (bn rfl) ?_
 iterate 2 refine Gi ?_
 refine yj (X:=Cp×Sl Int×UInt64×Int) (fun zz=>[(1, .pointer (some ⟨b1,0,none⟩)),(3,fL.val)]) (fun zz=>ar b1 #[.pointer (some ⟨k,0,none⟩)] 139::ar k (aL (⟨⟨zz.1,zz.2.1,zz.2.2.1,zz.2.2.2⟩,xy⟩:aQ)) 141::fz zz.1::fz zz.2.1::own bu 4 fL (aB (cv xc) (aw [xa]))::L) (fun zz=>(eI (⟨⟨cv xc,xa.xs,xg.toNat,xl⟩,xy⟩:WV))=jx (⟨⟨cv zz.1,zz.2.1.xs,zz.2.2.1.toNat,zz.2.2.2⟩,xy⟩:WV) (aB (cv xc) (aw [xa]))∧cd (⟨⟨cv zz.1,zz.2.1.xs,zz.2.2.1.toNat,zz.2.2.2⟩,xy⟩:WV)∧kb (cv zz.1) (aB (cv xc) (aw [xa]))) ?_ ?_
 ·
  refine Gc ?_
  iterate 2 refine Gs ?_
  refine fE (cM rfl ⟨show(aB (cv xc) (aw [xa])).length≤1000000 by omega,jn⟩) ?_
  refine Gs ?_
  refine ah (aV (v:= .int .i64 ((iW (aB (cv xc) (aw [xa])) xc.ae).1)) rfl rfl) ?_
  refine ah (aV (v:= .bool ((iW (aB (cv xc) (aw [xa])) xc.ae).2)) rfl rfl) ?_
  iterate 2 refine Gs ?_
  refine Gc ?_
  iterate 2 refine Gs ?_
  refine fU rfl rfl rfl (fun hg=>(Ry.yl (bI rfl))) ?_
  refine fU rfl rfl rfl (fun hg=>cM (dP (aI hg rfl) gP) zw) ?_
  refine fU rfl rfl rfl (fun hg=>(Ry.yl (iu (aI hg rfl)))) ?_
  refine Gs ?_
  refine Gc ?_
  refine av rfl (fun h0=> ?_) (fun h0=> ?_)
  ·
   replace h0:=bz h0
   have hv:=Fh h0.1
   refine Gc ?_
   iterate 3 refine Gs ?_
   refine br rfl ⟨gu,qg,hv.1,hv.2⟩ fun jR tA=> ?_
   refine Gs ?_
   refine Gc ?_
   iterate 2 refine Gs ?_
   refine Gc ?_
   refine av rfl (fun h1=> ?_) (fun h1=> ?_)
   ·
    replace h1:=bz h1
    have hE:(eI (⟨⟨cv xc,xa.xs,xg.toNat,xl⟩,xy⟩:WV))=(ei (⟨⟨cv xc,xa.xs,xg.toNat,xl⟩,xy⟩:WV) (aB (cv xc) (aw [xa])) (iW (aB (cv xc) (aw [xa])) xc.ae).1):=by rw[Gu,if_pos h0,if_pos h1]
    refine Gc ?_
    iterate 2 refine Gs ?_
    refine Gc ?_
    refine au (.inl rfl) (aM rfl (aq rfl)) (fun w1 hw=> ?_)
    exact⟨(jR.1,jR.2.1,jR.2.2.1,jR.2.2.2),by rw[hE],by rw[hE];exact tA,ai.mem hw⟩
   ·
    replace h1:=bz h1
    have eo:(ei (⟨⟨cv xc,xa.xs,xg.toNat,xl⟩,xy⟩:WV) (aB (cv xc) (aw [xa])) (iW (aB (cv xc) (aw [xa])) xc.ae).1).2=6:=h1
    obtain⟨r1,r2,r3⟩:=BR (i:=(iW (aB (cv xc) (aw [xa])) xc.ae).1) gu qg
    refine Gi ?_
    exact qu (jR.1,jR.2.1,jR.2.2.1,jR.2.2.2) ⟨by rw[Gu,if_pos h0,if_neg (fun h=>h eo),←tA],by rw[tA];exact r1.ok,qg.cx (by have:=r1.cx;rw[←tA]at this;exact this) (by have:=r3 eo;rw[←tA]at this;exact this)⟩ (Sub.cons rfl (Sub.cons rfl (Sub.nil _))) (fun w hw=>ai.mem hw)
  ·
   replace h0:=bz h0
   have tz: ¬((iW (aB (cv xc) (aw [xa])) xc.ae).2=true∧uS xg.toNat=false):=fun g=>h0.elim (fun h=>absurd (h.symm.trans g.1) (by simp)) (fun h=>absurd (h.symm.trans g.2) (by simp))
   refine Gi ?_
   exact qu (xc,xa,xg,xl) ⟨by rw[Gu,if_neg tz],gu,qg⟩ (Sub.cons rfl (Sub.cons rfl (Sub.nil _))) (fun w hw=>ai.mem hw)
 ·
  rintro⟨c,a,g,m⟩ ⟨oy,xz,Gn⟩
  dsimp only
  simp only at oy xz Gn
  have hc4:4≤(cv c).blocks.length:=xz.oh
  have hdc:=fa (show aS (cv c)=true from xz.ag)
  refine Gc ?_
  refine Gs ?_
  refine ah (FN rfl) ?_
  refine br rfl (by omega) fun x39 ahB=> ?_
  refine Gs ?_
  refine Gc ?_
  iterate 6 refine Gs ?_
  refine ah (Ry.to (v':= .int .i64 c.ae) (bI rfl) rfl) ?_
  iterate 2 refine Gs ?_
  refine ah (aV (v:= .int .i64 ((eV (bX (mT c.ae) (aB (cv xc) (aw [xa]))) c.ae).1)) rfl rfl) ?_
  refine ah (aV (v:= .bool ((eV (bX (mT c.ae) (aB (cv xc) (aw [xa]))) c.ae).2)) rfl rfl) ?_
  iterate 2 refine Gs ?_
  refine Gc ?_
  iterate 2 refine Gs ?_
  refine Gc ?_
  refine av rfl (fun h2=> ?_) (fun h2=> ?_)
  ·
   replace h2:=bz h2
   have hE:jx (⟨⟨cv c,a.xs,g.toNat,m⟩,xy⟩:WV) (aB (cv xc) (aw [xa]))=((⟨⟨cv c,a.xs,g.toNat,m⟩,xy⟩:WV),6):=by
    rw[jx]
    exact if_pos (show(eV (bX (mT c.ae) (aB (cv xc) (aw [xa]))) c.ae).2=false from h2)
   refine Gc ?_
   refine Gs ?_
   refine Gc ?_
   refine au (.inl rfl) (aM rfl (aq rfl)) (fun w1 hw=> ?_)
   exact⟨(c,a,g,m),by rw[oy,hE],by rw[oy,hE],ai.mem hw⟩
  ·
   replace h2:=bz h2
   have mW:=td Gn (fun x h=>(kA h).1) (show(eV (bX (mT c.ae) (aB (cv xc) (aw [xa]))) c.ae).2=true from h2)
   change 0≤(eV (bX (mT c.ae) (aB (cv xc) (aw [xa]))) c.ae).1∧(eV (bX (mT c.ae) (aB (cv xc) (aw [xa]))) c.ae).1<_∧_ at mW
   have hE:jx (⟨⟨cv c,a.xs,g.toNat,m⟩,xy⟩:WV) (aB (cv xc) (aw [xa]))=((⟨⟨cv c,a.xs,g.toNat,m⟩,xy⟩:WV).on (cE (cv c) ((eV (bX (mT c.ae) (aB (cv xc) (aw [xa]))) c.ae).1+2)).1,iV (cE (cv c) ((eV (bX (mT c.ae) (aB (cv xc) (aw [xa]))) c.ae).1+2)).2):=by
    rw[jx]
    exact if_neg (fun g=>absurd ((show(eV (bX (mT c.ae) (aB (cv xc) (aw [xa]))) c.ae).2=true from h2).symm.trans g) (by simp))
   refine Gc ?_
   iterate 3 refine Gs ?_
   refine br rfl ⟨xz.ag,by omega,by omega⟩ fun CD Gw=> ?_
   iterate 2 refine Gs ?_
   refine Gc ?_
   refine au (.inl rfl) (aM rfl (aq rfl)) (fun w1 hw=> ?_)
   exact⟨(CD,a,g,m),by rw[oy,hE],by rw[oy,hE,Gw];rfl,ai.mem hw⟩
instance ahC{w0:World}{L R1 R2 L2:List aj}{i0 i1 i2:Nat}{k:Nat}{xc:Cp}{xa:Sl Int}{xg:UInt64}{xl:Int}{xy:Bool}[q0:Has L k (aL (⟨⟨xc,xa,xg,xl⟩,xy⟩:aQ)) 141 i0][d0:dr L i0 R1][q1:At R1 (fz xc) i1][d1:dr R1 i1 R2][q2:At R2 (fz xa) i2][d2:dr R2 i2 L2]:cr Tryz.prog 152 w0 L [.pointer (some ⟨k,0,none⟩)] (Cp×Sl Int×UInt64×Int) (fun zz=> .int .i64 ((eI (⟨⟨cv xc,xa.xs,xg.toNat,xl⟩,xy⟩:WV)).2)) (fun zz=>ar k (aL (⟨⟨zz.1,zz.2.1,zz.2.2.1,zz.2.2.2⟩,xy⟩:aQ)) 141::fz zz.1::fz zz.2.1::L2) (fun zz=>(⟨⟨cv zz.1,zz.2.1.xs,zz.2.2.1.toNat,zz.2.2.2⟩,xy⟩:WV)=(eI (⟨⟨cv xc,xa.xs,xg.toNat,xl⟩,xy⟩:WV)).1) (cd (⟨⟨cv xc,xa.xs,xg.toNat,xl⟩,xy⟩:WV)):=⟨fun hp w hw=>WY w0 w L2 k xc xa xg xl xy (xj q0.h d0.h q1.h d1.h q2.h d2.h hw) hp⟩
open Go.ay Go.Kb
open Go.RowKit
theorem WZ(w0 w:World)(L:List aj)(k:Nat)(xc:Cp)(xa:Sl Int)(xg:UInt64)(xl:Int)(xy:Bool)(n:Int)(hw:Mem w0 (ar k (aL (⟨⟨xc,xa,xg,xl⟩,xy⟩:aQ)) 141::fz xc::fz xa::L) w)(bc:cd (⟨⟨cv xc,xa.xs,xg.toNat,xl⟩,xy⟩:WV)):Calls Tryz.prog 126 #[.pointer (some ⟨k,0,none⟩), .int .i64 n] w fun e w'=> ∃zz:Cp×Sl Int×UInt64×Int×Bool,e= .returned (.int .i64 ((mU (⟨⟨cv xc,xa.xs,xg.toNat,xl⟩,xy⟩:WV) n).2))∧((⟨⟨cv zz.1,zz.2.1.xs,zz.2.2.1.toNat,zz.2.2.2.1⟩,zz.2.2.2.2⟩:WV)=(mU (⟨⟨cv xc,xa.xs,xg.toNat,xl⟩,xy⟩:WV) n).1)∧Mem w0 (ar k (aL (⟨⟨zz.1,zz.2.1,zz.2.2.1,zz.2.2.2.1⟩,zz.2.2.2.2⟩:aQ)) 141::fz zz.1::fz zz.2.1::L) w':=by
 refine kt (args:=[_,_]) Tryz.func126 rfl Tryz.ntmps126 rfl hw ?_
 change Cw _ _ _ _ _ [(0, .pointer (some ⟨k,0,none⟩)),(1, .int .i64 n)] (ar k (aL (⟨⟨xc,xa,xg,xl⟩,xy⟩:aQ)) 141::fz xc::fz xa::L)
 refine Gc ?_
 refine Gs ?_
 refine Gc ?_
 refine cg (X:=Nat×Cp×Sl Int×UInt64×Int) (fun zz=>[(0, .pointer (some ⟨k,0,none⟩)),(1, .int .i64 n)]) (fun zz=>ar k (aL (⟨⟨zz.2.1,zz.2.2.1,zz.2.2.2.1,zz.2.2.2.2⟩,xy⟩:aQ)) 141::fz zz.2.1::fz zz.2.2.1::L) (fun zz=>(mU (⟨⟨cv xc,xa.xs,xg.toNat,xl⟩,xy⟩:WV) n)=pa zz.1 (⟨⟨cv zz.2.1,zz.2.2.1.xs,zz.2.2.2.1.toNat,zz.2.2.2.2⟩,xy⟩:WV) n∧cd (⟨⟨cv zz.2.1,zz.2.2.1.xs,zz.2.2.2.1.toNat,zz.2.2.2.2⟩,xy⟩:WV)∧(cK -(cv zz.2.1).ops).toNat<zz.1) (fun zz=>zz.1) ((cK -(cv xc).ops).toNat+1,xc,xa,xg,xl) ⟨rfl,bc,by simp only;omega⟩ (Sub.cons rfl (Sub.cons rfl (Sub.nil _))) (fun w hw=>ai.mem hw) ?_
 rintro⟨m,c,a,g,q⟩ ⟨bk,aG,bB⟩
 dsimp only
 simp only at bk aG bB
 obtain⟨r,rfl⟩: ∃r,m=r+1:=⟨m -1,by omega⟩
 have hk:aS (cv c)=true:=aG.ag
 have xw:4≤(cv c).blocks.length:=aG.oh
 have ow:pV (cv c) a.xs:=(show hU (cv c) a.xs from aG.qQ).kn hk (by omega) (by have:a.xs.length≤64:=aG.nA;omega)
 have Cv:q=0∨q=1:=aG.last
 have bG:(mU (⟨⟨cv xc,xa.xs,xg.toNat,xl⟩,xy⟩:WV) n)=(if n≤(mR (cv c) a.xs).1 then((⟨⟨cv c,a.xs,g.toNat,q⟩,xy⟩:WV),0)else if n≤(mR (cv c) a.xs).2∧sY (cv c) q<2 then({(⟨⟨cv c,a.xs,g.toNat,q⟩,xy⟩:WV)with beyond:=true},0)else if(eI (⟨⟨cv c,a.xs,g.toNat,q⟩,xy⟩:WV)).2=0 then pa r (eI (⟨⟨cv c,a.xs,g.toNat,q⟩,xy⟩:WV)).1 n else if(eI (⟨⟨cv c,a.xs,g.toNat,q⟩,xy⟩:WV)).2≠6 then(eI (⟨⟨cv c,a.xs,g.toNat,q⟩,xy⟩:WV))else if n≤(mR (cv c) a.xs).2 then({(eI (⟨⟨cv c,a.xs,g.toNat,q⟩,xy⟩:WV)).1 with beyond:=true},0)else((eI (⟨⟨cv c,a.xs,g.toNat,q⟩,xy⟩:WV)).1,5)):=by rw[bk,pa]
 refine Gc ?_
 refine Gs ?_
 refine fE (cM rfl ow) ?_
 refine Gs ?_
 refine ah (aV (v:= .int .i64 ((mR (cv c) a.xs).1)) rfl rfl) ?_
 refine ah (aV (v:= .int .i64 ((mR (cv c) a.xs).2)) rfl rfl) ?_
 iterate 2 refine Gs ?_
 refine Gc ?_
 iterate 3 refine Gs ?_
 refine Gc ?_
 refine av rfl (fun h0=> ?_) (fun h0=> ?_)
 ·
  replace h0:=bz h0
  have hE:(mU (⟨⟨cv xc,xa.xs,xg.toNat,xl⟩,xy⟩:WV) n)=((⟨⟨cv c,a.xs,g.toNat,q⟩,xy⟩:WV),0):=by rw[bG,if_pos h0]
  refine Gc ?_
  refine Gs ?_
  refine Gc ?_
  refine au (.inl rfl) (aM rfl (aq rfl)) (fun w1 hw=> ?_)
  exact⟨(c,a,g,q,xy),by rw[hE],by rw[hE],ai.mem hw⟩
 ·
  replace h0:=bz h0
  refine Gc ?_
  iterate 4 refine Gs ?_
  refine Gg ?_
  refine fU rfl rfl rfl (fun hg=>cM (dP (aI hg rfl) gP) ⟨hk,by omega,Cv⟩) ?_
  refine Gg ?_
  refine Gs ?_
  refine Gc ?_
  refine av rfl (fun h1=> ?_) (fun h1=> ?_)
  ·
   replace h1:=bz h1
   have hE:(mU (⟨⟨cv xc,xa.xs,xg.toNat,xl⟩,xy⟩:WV) n)=({(⟨⟨cv c,a.xs,g.toNat,q⟩,xy⟩:WV)with beyond:=true},0):=by rw[bG,if_neg h0,if_pos h1]
   refine Gc ?_
   iterate 3 refine Gs ?_
   refine eO (cs':=aL (⟨⟨c,a,g,q⟩,true⟩:aQ)) rfl rfl (by show 9<10;decide) (by first|rfl|exact Sv.one _) rfl ?_
   refine Gc ?_
   refine Gs ?_
   refine Gc ?_
   refine au (.inl rfl) (aM rfl (aq rfl)) (fun w1 hw=> ?_)
   exact⟨(c,a,g,q,true),by rw[hE],by rw[hE],ai.mem hw⟩
  ·
   replace h1:=bz h1
   have eo: ¬(n≤(mR (cv c) a.xs).2∧sY (cv c) q<2):=fun g=>h1.elim (fun h=>h g.1) (fun h=>h g.2)
   refine Gc ?_
   refine Gs ?_
   refine br rfl aG fun dw mc=> ?_
   obtain⟨k1,k2⟩:=BS aG
   refine Gs ?_
   refine Gc ?_
   iterate 3 refine Gs ?_
   refine Gc ?_
   refine av rfl (fun h2=> ?_) (fun h2=> ?_)
   ·
    replace h2:=bz h2
    refine Gi ?_
    refine PU rfl ?_
    iterate 2 refine Gi ?_
    have ff:(eI (⟨⟨cv c,a.xs,g.toNat,q⟩,xy⟩:WV)).2=0:=h2
    have ho:(cv c).ops<(eI (⟨⟨cv c,a.xs,g.toNat,q⟩,xy⟩:WV)).1.v.ag.ops:=k2 ff
    rw[←mc]at ho
    have hle:=pZ (show aS (cv dw.1)=true by have:=k1.ok.ag;rw[←mc]at this;exact this)
    change(cv c).ops<(cv dw.1).ops at ho
    exact bD (x:=(r+1,c,a,g,q)) (r,dw.1,dw.2.1,dw.2.2.1,dw.2.2.2) ⟨by rw[bG,if_neg h0,if_neg eo,if_pos ff,←mc],by have:=k1.ok;rw[←mc]at this;exact this,by simp only;omega⟩ (by simp only;omega) (Sub.cons rfl (Sub.cons rfl (Sub.nil _))) (fun w hw=>ai.mem hw)
   ·
    replace h2:=bz h2
    have ff: ¬(eI (⟨⟨cv c,a.xs,g.toNat,q⟩,xy⟩:WV)).2=0:=h2
    refine Gc ?_
    iterate 3 refine Gs ?_
    refine Gc ?_
    refine av rfl (fun h3=> ?_) (fun h3=> ?_)
    ·
     replace h3:=bz h3
     have hE:(mU (⟨⟨cv xc,xa.xs,xg.toNat,xl⟩,xy⟩:WV) n)=(eI (⟨⟨cv c,a.xs,g.toNat,q⟩,xy⟩:WV)):=by rw[bG,if_neg h0,if_neg eo,if_neg ff,if_pos h3]
     refine Gc ?_
     iterate 2 refine Gs ?_
     refine Gc ?_
     refine au (.inl rfl) (aM rfl (aq rfl)) (fun w1 hw=> ?_)
     exact⟨(dw.1,dw.2.1,dw.2.2.1,dw.2.2.2,xy),by rw[hE],by rw[hE];exact mc,ai.mem hw⟩
    ·
     replace h3:=bz h3
     have nJ: ¬(eI (⟨⟨cv c,a.xs,g.toNat,q⟩,xy⟩:WV)).2≠6:=fun h=>h h3
     refine Gc ?_
     iterate 4 refine Gs ?_
     refine Gc ?_
     refine av rfl (fun h4=> ?_) (fun h4=> ?_)
     ·
      replace h4:=bz h4
      have hE:(mU (⟨⟨cv xc,xa.xs,xg.toNat,xl⟩,xy⟩:WV) n)=({(eI (⟨⟨cv c,a.xs,g.toNat,q⟩,xy⟩:WV)).1 with beyond:=true},0):=by rw[bG,if_neg h0,if_neg eo,if_neg ff,if_neg nJ,if_pos h4]
      refine Gc ?_
      iterate 3 refine Gs ?_
      refine eO (cs':=aL (⟨⟨dw.1,dw.2.1,dw.2.2.1,dw.2.2.2⟩,true⟩:aQ)) rfl rfl (by show 9<10;decide) (by first|rfl|exact Sv.one _) rfl ?_
      refine Gc ?_
      refine Gs ?_
      refine Gc ?_
      refine au (.inl rfl) (aM rfl (aq rfl)) (fun w1 hw=> ?_)
      exact⟨(dw.1,dw.2.1,dw.2.2.1,dw.2.2.2,true),by rw[hE],by rw[hE,←mc],ai.mem hw⟩
     ·
      replace h4:=bz h4
      have hE:(mU (⟨⟨cv xc,xa.xs,xg.toNat,xl⟩,xy⟩:WV) n)=((eI (⟨⟨cv c,a.xs,g.toNat,q⟩,xy⟩:WV)).1,5):=by rw[bG,if_neg h0,if_neg eo,if_neg ff,if_neg nJ,if_neg h4]
      refine Gc ?_
      refine Gs ?_
      refine Gc ?_
      refine au (.inl rfl) (aM rfl (aq rfl)) (fun w1 hw=> ?_)
      exact⟨(dw.1,dw.2.1,dw.2.2.1,dw.2.2.2,xy),by rw[hE],by rw[hE];exact mc,ai.mem hw⟩
instance ahD{w0:World}{L R1 R2 L2:List aj}{i0 i1 i2:Nat}{k:Nat}{xc:Cp}{xa:Sl Int}{xg:UInt64}{xl:Int}{xy:Bool}{n:Int}[q0:Has L k (aL (⟨⟨xc,xa,xg,xl⟩,xy⟩:aQ)) 141 i0][d0:dr L i0 R1][q1:At R1 (fz xc) i1][d1:dr R1 i1 R2][q2:At R2 (fz xa) i2][d2:dr R2 i2 L2]:cr Tryz.prog 126 w0 L [.pointer (some ⟨k,0,none⟩), .int .i64 n] (Cp×Sl Int×UInt64×Int×Bool) (fun zz=> .int .i64 ((mU (⟨⟨cv xc,xa.xs,xg.toNat,xl⟩,xy⟩:WV) n).2)) (fun zz=>ar k (aL (⟨⟨zz.1,zz.2.1,zz.2.2.1,zz.2.2.2.1⟩,zz.2.2.2.2⟩:aQ)) 141::fz zz.1::fz zz.2.1::L2) (fun zz=>(⟨⟨cv zz.1,zz.2.1.xs,zz.2.2.1.toNat,zz.2.2.2.1⟩,zz.2.2.2.2⟩:WV)=(mU (⟨⟨cv xc,xa.xs,xg.toNat,xl⟩,xy⟩:WV) n).1) (cd (⟨⟨cv xc,xa.xs,xg.toNat,xl⟩,xy⟩:WV)):=⟨fun hp w hw=>WZ w0 w L2 k xc xa xg xl xy n (xj q0.h d0.h q1.h d1.h q2.h d2.h hw) hp⟩
open Go.ay Go.Kb
open Go.RowKit
theorem W0(i:Int)(g:UInt64)(b:Sl UInt8)(w:World):(Instr.build 110 #[(0, .int .i64 1),(1, .int .i64 i),(2, .int .u64 (g.toNat:Int)),(3,b.sv.val)]).run Tryz.prog w= .ok (.agg (cI ⟨1,i,g,b⟩)) w:=by
 obtain⟨⟨e,b,o,l,c,p⟩,xs⟩:=b
 unfold cI
 cases e<;>kernel_rfl
instance (x:It):fZ (ni x) 2:=⟨rfl,bx.one x⟩
def CE(k:Nat)(a:Sl Int)(g:UInt64)(T:TypeId):aj:=⟨fun b=>b=k,fun h=> ∃(c:Cp) (l:Int) (y:Bool),h k=Option.some (.cells (aL ⟨⟨c,a,g,l⟩,y⟩) T (0,0)),fun h h' e s=>by obtain⟨c,l,y,hs⟩:=s;exact⟨c,l,y,by rw[e k rfl];exact hs⟩⟩
theorem Gx{w0 w:World}{L:List aj}{k:Nat}{a:Sl Int}{g:UInt64}{T:TypeId}{c:Cp}{l:Int}{y:Bool}(h:Mem w0 (ar k (aL ⟨⟨c,a,g,l⟩,y⟩) T::L) w):Mem w0 (CE k a g T::L) w:=by
 have hs:w.heap[k]? =Option.some (.cells (aL ⟨⟨c,a,g,l⟩,y⟩) T (0,0)):=h.block (i:=0) rfl
 refine⟨h.below,fun e he=> ?_,fun e he b hb=> ?_,List.pairwise_cons.2 ⟨fun x hx b hb=>(List.pairwise_cons.1 h.na).1 x hx b hb,(List.pairwise_cons.1 h.na).2⟩⟩
 ·
  rcases List.mem_cons.1 he with rfl|he
  ·
   exact⟨c,l,y,hs⟩
  ·
   exact h.sat e (List.mem_cons_of_mem _ he)
 ·
  rcases List.mem_cons.1 he with rfl|he
  ·
   exact h.je _ List.mem_cons_self b hb
  ·
   exact h.je e (List.mem_cons_of_mem _ he) b hb
section
variable {P:Program} {N:cB} {w0:World} {env:Env} {L:List aj} {d:Option Tmp} {ty:TypeId} {ps:String} {af:Array Edge} {gd:Option (Nat×Bool)}
theorem W1{t:TypeId}{x:Operand}{k i:Nat}{a:Sl Int}{g:UInt64}{T:TypeId}(hx:ev env x=some (.pointer (some ⟨k,6,none⟩)))[ht:gQ P t](q:At L (CE k a g T) i):Ry P N w0 env L ⟨d, .load t x,ty,ps,af,gd⟩ a.sv.val:=vM ht hx fun w hw=>by
 obtain⟨c,l,y,hs⟩:=hw.get q.h
 simp[World.cell?,show w.heap[k]? =_ from hs,aL]
theorem W2{t:TypeId}{x:Operand}{k i:Nat}{a:Sl Int}{g:UInt64}{T:TypeId}(hx:ev env x=some (.pointer (some ⟨k,7,none⟩)))[ht:gQ P t](q:At L (CE k a g T) i):Ry P N w0 env L ⟨d, .load t x,ty,ps,af,gd⟩ (.int .u64 g.toNat):=vM ht hx fun w hw=>by
 obtain⟨c,l,y,hs⟩:=hw.get q.h
 simp[World.cell?,show w.heap[k]? =_ from hs,aL]
end
instance:fh Tryz.prog 102 (.agg (ni ⟨0,⟨Sv.none,[]⟩⟩)):=⟨by kernel_rfl⟩
theorem W3(w0 w:World)(L:List aj)(k:Nat)(xc:Cp)(xa:Sl Int)(xg:UInt64)(xl:Int)(xy:Bool)(it:Sl It)[pR:aW w0 L it](hw:Mem w0 (ar k (aL (⟨⟨xc,xa,xg,xl⟩,xy⟩:aQ)) 141::fz xc::fz xa::L) w)(bc:cd (⟨⟨cv xc,xa.xs,xg.toNat,xl⟩,xy⟩:WV)∧it.xs.length≤1000000∧ ∀x∈it.xs,0≤x.id∧x.id<xa.xs.length∧x.id<64):Calls Tryz.prog 88 #[.pointer (some ⟨k,0,none⟩),it.sv.val] w fun e w'=> ∃zz:Cp×Sl Int×UInt64×Int×Bool,e= .returned (.int .i64 ((iA (⟨⟨cv xc,xa.xs,xg.toNat,xl⟩,xy⟩:WV) (it.xs.map bq)).2))∧((⟨⟨cv zz.1,zz.2.1.xs,zz.2.2.1.toNat,zz.2.2.2.1⟩,zz.2.2.2.2⟩:WV)=(iA (⟨⟨cv xc,xa.xs,xg.toNat,xl⟩,xy⟩:WV) (it.xs.map bq)).1)∧Mem w0 (ar k (aL (⟨⟨zz.1,zz.2.1,zz.2.2.1,zz.2.2.2.1⟩,zz.2.2.2.2⟩:aQ)) 141::fz zz.1::fz zz.2.1::L) w':=by
 obtain⟨gu,nw,Gy⟩:=bc
 have W4:cd (⟨⟨cv xc,xa.xs,xg.toNat,xl⟩,false⟩:WV):=gu.by false
 have ft:(it.xs.map bq).length=it.xs.length:=List.length_map _
 refine kt (args:=[_,_]) Tryz.func88 rfl Tryz.ntmps88 rfl hw ?_
 change Cw _ _ _ _ _ [(0, .pointer (some ⟨k,0,none⟩)),(1,it.sv.val)] (ar k (aL (⟨⟨xc,xa,xg,xl⟩,xy⟩:aQ)) 141::fz xc::fz xa::L)
 refine Gc ?_
 refine Gs ?_
 refine Gc ?_
 refine Gs ?_
 refine Gc ?_
 iterate 3 refine Gs ?_
 refine Gc ?_
 refine cg (X:=Nat) (fun zz=>[(16, .int .i64 (zz:Nat)),(5, .int .i64 ((((it.xs.map bq).take zz).filter fun x=>decide (0<x.2.length)).length:Nat)),(0, .pointer (some ⟨k,0,none⟩)),(1,it.sv.val),(14,it.sv.val),(15, .int .i64 (it.xs.length:Nat))]) (fun zz=>ar k (aL (⟨⟨xc,xa,xg,xl⟩,xy⟩:aQ)) 141::fz xc::fz xa::L) (fun zz=>zz≤it.xs.length) (fun zz=>it.xs.length -zz) 0 (Nat.zero_le _) (Sub.cons rfl (Sub.cons rfl (Sub.cons rfl (Sub.cons rfl (Sub.cons rfl (Sub.cons rfl (Sub.nil _))))))) (fun w hw=>ai.mem hw) ?_
 rintro i bk
 refine Gc ?_
 refine Gs ?_
 refine Gc ?_
 refine av rfl (fun h0=> ?_) (fun h0=> ?_)
 ·
  replace h0:=bz h0
  obtain⟨z,hz⟩:=get_some (xs:=it.xs) (i:=i) (by omega)
  have tt:Mb z it:=⟨List.mem_of_getElem? hz⟩
  have tE:(it.xs.map bq)[i]? =Option.some (bq z):=by rw[List.getElem?_map,hz];rfl
  have eL:=S9 tE
  have L4:(((it.xs.map bq).take i).filter fun x=>decide (0<x.2.length)).length≤i:=Nat.le_trans (List.length_filter_le _ _) (by rw[List.length_take];omega)
  refine Gc ?_
  refine ah (bl rfl rfl i rfl (by omega)) ?_
  refine ah (hH rfl i hz rfl) ?_
  have ahE:Mb z it:=⟨List.mem_of_getElem? hz⟩
  refine bN fun b7=> ?_
  refine Gs ?_
  refine Gc ?_
  iterate 4 refine Gs ?_
  refine Gc ?_
  refine av rfl (fun h1=> ?_) (fun h1=> ?_)
  ·
   replace h1:=bz h1
   rw[if_pos (show 0<(bq z).2.length from by simp only[bq];omega)]at eL
   refine Gi ?_
   iterate 3 refine Gs ?_
   refine Gc ?_
   iterate 2 refine Gs ?_
   refine Gi ?_
   exact bD (x:=(i)) (i+1) (by first|omega|(simp only[];omega)) (by first|omega|(simp only[];omega)) (Sub.cons rfl (Sub.cons (look_eq rfl (by rw[eL];rfl)) (Sub.cons rfl (Sub.cons rfl (Sub.cons rfl (Sub.cons rfl (Sub.nil _))))))) (fun w hw=>ai.mem hw)
  ·
   replace h1:=bz h1
   rw[if_neg (show ¬0<(bq z).2.length from by simp only[bq];omega)]at eL
   refine Gc ?_
   iterate 2 refine Gs ?_
   refine Gi ?_
   exact bD (x:=(i)) (i+1) (by first|omega|(simp only[];omega)) (by first|omega|(simp only[];omega)) (Sub.cons rfl (Sub.cons (look_eq rfl (by rw[eL,Nat.add_zero])) (Sub.cons rfl (Sub.cons rfl (Sub.cons rfl (Sub.cons rfl (Sub.nil _))))))) (fun w hw=>ai.mem hw)
 ·
  replace h0:=bz h0
  obtain rfl:i=it.xs.length:=by omega
  refine Gc ?_
  iterate 3 refine Gs ?_
  refine eO (cs':=aL (⟨⟨xc,xa,xg,xl⟩,false⟩:aQ)) rfl rfl (by show 9<10;decide) (by first|rfl|exact Sv.one _) rfl ?_
  iterate 4 refine Gi ?_
  have Gz:(((it.xs.map bq).take it.xs.length).filter fun x=>decide (0<x.2.length)).length=((it.xs.map bq).filter fun x=>decide (0<x.2.length)).length:=by rw[←ft,List.take_length]
  refine Gi ?_
  iterate 2 refine Gs ?_
  refine br rfl W4 fun az se=> ?_
  have hb:=BT (l:=(it.xs.map bq)) gu
  have zF:(⟨(⟨cv az.1,az.2.1.xs,az.2.2.1.toNat,az.2.2.2.1⟩:VV),az.2.2.2.2⟩:WV)=(dz (⟨⟨cv xc,xa.xs,xg.toNat,xl⟩,xy⟩:WV) (it.xs.map bq)).1:=by rw[se,dz,rP,←ft,List.take_length]
  rw[←zF]at hb
  have vn:=hb.ok
  have W5:aS (cv az.1)=true:=vn.ag
  have xw:4≤(cv az.1).blocks.length:=vn.oh
  have fx:az.2.1.xs.length≤64:=vn.nA
  have ahF:az.2.1.xs.length=xa.xs.length:=hb.wR
  have W6:az.2.2.1.toNat<281474976710656:=vn.gen
  have rh:=Gk W6
  refine Gs ?_
  refine Gc ?_
  iterate 2 refine Gs ?_
  refine Gc ?_
  refine av rfl (fun h2=> ?_) (fun h2=> ?_)
  ·
   replace h2:=bz h2
   have ff:(dz (⟨⟨cv xc,xa.xs,xg.toNat,xl⟩,xy⟩:WV) (it.xs.map bq)).2≠0:=by rw[dz,rP,←Gz];exact h2
   have hE:(iA (⟨⟨cv xc,xa.xs,xg.toNat,xl⟩,xy⟩:WV) (it.xs.map bq))=(dz (⟨⟨cv xc,xa.xs,xg.toNat,xl⟩,xy⟩:WV) (it.xs.map bq)):=by rw[iA,if_pos ff]
   refine Gc ?_
   iterate 2 refine Gs ?_
   refine Gc ?_
   refine au (.inl rfl) (aM rfl (aq rfl)) (fun w1 hw=> ?_)
   exact⟨(az.1,az.2.1,az.2.2.1,az.2.2.2.1,az.2.2.2.2),by rw[hE,dz,rP,←Gz],by rw[hE];exact zF,ai.mem hw⟩
  ·
   replace h2:=bz h2
   have ff: ¬(dz (⟨⟨cv xc,xa.xs,xg.toNat,xl⟩,xy⟩:WV) (it.xs.map bq)).2≠0:=by rw[dz,rP,←Gz];exact fun h=>h h2
   refine Gc ?_
   iterate 4 refine Gs ?_
   refine ah (Ry.to (v':=az.2.1.sv.val) (bI rfl) rfl) ?_
   refine br rfl (by omega) fun kE VY=> ?_
   refine Gs ?_
   refine Gc ?_
   iterate 3 refine Gs ?_
   refine Gc ?_
   refine cg (X:=Nat×Cp×List Int) (fun zz=>[(44, .int .i64 (zz.1:Nat)),(0, .pointer (some ⟨k,0,none⟩)),(9,kE.val),(42,it.sv.val),(43, .int .i64 (it.xs.length:Nat))]) (fun zz=>ar k (aL (⟨⟨zz.2.1,az.2.1,az.2.2.1,az.2.2.2.1⟩,az.2.2.2.2⟩:aQ)) 141::fz zz.2.1::fz az.2.1::own bP 1 kE zz.2.2::L) (fun zz=>zz.1≤it.xs.length∧(iz (⟨⟨cv xc,xa.xs,xg.toNat,xl⟩,xy⟩:WV) (it.xs.map bq))=(gW (⟨cv az.1,az.2.1.xs,az.2.2.1.toNat,az.2.2.2.1⟩:VV) az.2.2.2.2 ((it.xs.map bq).drop zz.1) (cv zz.2.1) zz.2.2)∧aS (cv zz.2.1)=true∧dB (cv az.1) (cv zz.2.1)∧hU (cv zz.2.1) zz.2.2∧zz.2.2.length=az.2.1.xs.length) (fun zz=>it.xs.length -zz.1) (0,az.1,az.2.1.xs) ⟨Nat.zero_le _,by rw[iz,←zF];rfl,W5, .bW _,vn.qQ,rfl⟩ (Sub.cons rfl (Sub.cons rfl (Sub.cons rfl (Sub.cons rfl (Sub.cons rfl (Sub.nil _)))))) (fun w hw=>ai.mem hw) ?_
   rintro⟨j,d,zs⟩ ⟨iC,dF,iN,lj,xA,GA⟩
   dsimp only
   simp only at iC dF iN lj xA GA
   refine Gc ?_
   refine Gs ?_
   refine Gc ?_
   refine av rfl (fun h3=> ?_) (fun h3=> ?_)
   ·
    replace h3:=bz h3
    obtain⟨z,hz⟩:=get_some (xs:=it.xs) (i:=j) (by omega)
    have tt:Mb z it:=⟨List.mem_of_getElem? hz⟩
    have ahG:=Gy z (List.mem_of_getElem? hz)
    obtain⟨zi,tr⟩:=get_some (xs:=zs) (i:=z.id.toNat) (by omega)
    have tE:(it.xs.map bq)[j]? =Option.some (bq z):=by rw[List.getElem?_map,hz];rfl
    have bG:(gW (⟨cv az.1,az.2.1.xs,az.2.2.1.toNat,az.2.2.2.1⟩:VV) az.2.2.2.2 ((it.xs.map bq).drop j) (cv d) zs)=(if(bq z).2.length=0 then(gW (⟨cv az.1,az.2.1.xs,az.2.2.1.toNat,az.2.2.2.1⟩:VV) az.2.2.2.2 ((it.xs.map bq).drop (j+1)) (cv d) (zs.set z.id.toNat 0))else if(c8 (cv d) (az.2.1.xs++zs) az.2.2.2.2 (gV (⟨cv az.1,az.2.1.xs,az.2.2.1.toNat,az.2.2.2.1⟩:VV) (bq z))).2.2≠0 then((c8 (cv d) (az.2.1.xs++zs) az.2.2.2.2 (gV (⟨cv az.1,az.2.1.xs,az.2.2.1.toNat,az.2.2.2.1⟩:VV) (bq z))).1,zs,(c8 (cv d) (az.2.1.xs++zs) az.2.2.2.2 (gV (⟨cv az.1,az.2.1.xs,az.2.2.1.toNat,az.2.2.2.1⟩:VV) (bq z))).2.2)else(gW (⟨cv az.1,az.2.1.xs,az.2.2.1.toNat,az.2.2.2.1⟩:VV) az.2.2.2.2 ((it.xs.map bq).drop (j+1)) (c8 (cv d) (az.2.1.xs++zs) az.2.2.2.2 (gV (⟨cv az.1,az.2.1.xs,az.2.2.1.toNat,az.2.2.2.1⟩:VV) (bq z))).1 (zs.set z.id.toNat (c8 (cv d) (az.2.1.xs++zs) az.2.2.2.2 (gV (⟨cv az.1,az.2.1.xs,az.2.2.1.toNat,az.2.2.2.1⟩:VV) (bq z))).2.1))):=by
     rw[wL tE,gW];rfl
    have ez:(aw [az.2.1,(⟨kE,zs⟩:Sl Int)])=az.2.1.xs++zs:=Gb _ _
    have W7:cD (⟨1,z.id,az.2.2.1+1,z.body⟩:dY)=gV (⟨cv az.1,az.2.1.xs,az.2.2.1.toNat,az.2.2.2.1⟩:VV) (bq z):=by simp only[cD,gV,bq,rh]
    have vo:(c8 (cv d) (aw [az.2.1,(⟨kE,zs⟩:Sl Int)]) az.2.2.2.2 (cD (⟨1,z.id,az.2.2.1+1,z.body⟩:dY)))=(c8 (cv d) (az.2.1.xs++zs) az.2.2.2.2 (gV (⟨cv az.1,az.2.1.xs,az.2.2.1.toNat,az.2.2.2.1⟩:VV) (bq z))):=by rw[ez,W7]
    have W8:hU (cv d) (aw [az.2.1,(⟨kE,zs⟩:Sl Int)]):=by rw[ez];exact((show hU (cv az.1) az.2.1.xs from vn.qQ).cx lj).append xA
    have W9:(aw [az.2.1,(⟨kE,zs⟩:Sl Int)]).length≤1000:=by rw[ez,List.length_append];omega
    refine Gc ?_
    refine ah (bl rfl rfl j rfl (by omega)) ?_
    refine ah (hH rfl j hz rfl) ?_
    have ahH:Mb z it:=⟨List.mem_of_getElem? hz⟩
    refine bN fun pn=> ?_
    refine Gs ?_
    refine Gc ?_
    iterate 4 refine Gs ?_
    refine Gc ?_
    refine av rfl (fun h4=> ?_) (fun h4=> ?_)
    ·
     replace h4:=bz h4
     have jb:(bq z).2.length=0:=by simp only[bq];omega
     refine Gc ?_
     iterate 3 refine Gs ?_
     refine ah (bl rfl rfl z.id.toNat (by omega) (by omega)) ?_
     refine kJ (s:=kE) (n:=1) (k:=z.id.toNat) (j:=0) (a:=zi) (a':=0) (xs:=zs) (enc:=bP) (c:=1) (v:= .int .i64 0) (by kernel_rfl) rfl rfl rfl tr (by simp[Value.cells,Value.oneCell']) rfl (by decide) (by rfl) ?_
     refine Gc ?_
     iterate 2 refine Gs ?_
     refine Gi ?_
     exact bD (x:=(j,d,zs)) (j+1,d,zs.set z.id.toNat 0) ⟨by simp only;omega,by rw[dF,bG,if_pos jb],iN,lj,fun y hy=>(List.mem_or_eq_of_mem_set hy).elim (xA y) fun hy=> .inl hy,by rw[List.length_set];exact GA⟩ (by simp only;omega) (Sub.cons rfl (Sub.cons rfl (Sub.cons rfl (Sub.cons rfl (Sub.cons rfl (Sub.nil _)))))) (fun w hw=>ai.mem hw)
    ·
     replace h4:=bz h4
     have jb: ¬(bq z).2.length=0:=by simp only[bq];omega
     refine Gc ?_
     refine jm [18,19] [[],[],[],[],[],[],[],[],[],[],[],[],[],[],[],[],[],[],[],[18],[18,19],[18,19],[18,19],[18,19],[18,19]] [0,1,2,3,4,5,6,7,8,9,10,11,12,13,14,15,16,17,18,19,20,21,22,23,24] [CE k az.2.1 az.2.2.1 141,ar pn (ni z) 102] (fun _ hw=>(Gx (ai.mem hw:Mem w0 [ar k (aL (⟨⟨d,az.2.1,az.2.2.1,az.2.2.2.1⟩,az.2.2.2.2⟩:aQ)) 141,ar pn (ni z) 102] _))) (by kernel_rfl) (by kernel_rfl) ?_
     refine an rfl (aF rfl) ?_
     refine an rfl (aH (o':=0) rfl rfl) ?_
     refine an rfl (bI rfl) ?_
     refine an rfl (aF rfl) ?_
     refine an rfl (jG rfl) ?_
     refine an rfl (aH (o':=0) rfl rfl) ?_
     refine an rfl (aH (o':=7) rfl rfl) ?_
     refine an rfl (W2 (a:=az.2.1) (g:=az.2.2.1) (T:=141) rfl inferInstance) ?_
     refine an rfl (Ry.to (v':= .int .u64 ((az.2.2.1+1).toNat:Int)) (yh (p:=az.2.2.1.toNat) (q:=1) rfl rfl rfl rfl (by simp only[nb];omega)) (by rw[rh])) ?_
     refine an rfl (aH (o':=1) rfl rfl) ?_
     refine an rfl (bI rfl) ?_
     refine an rfl (cU (v:= .agg (cI (⟨1,z.id,az.2.2.1+1,z.body⟩:dY))) rfl (W0 z.id (az.2.2.1+1) z.body)) ?_
     refine an rfl (aF rfl) ?_
     refine an rfl (jG rfl) ?_
     refine an rfl (aH (o':=0) rfl rfl) ?_
     refine an rfl (aH (o':=6) rfl rfl) ?_
     refine an rfl (W1 (a:=az.2.1) (g:=az.2.2.1) (T:=141) rfl inferInstance) ?_
     refine an rfl (aF rfl) ?_
     refine dy rfl (Jd (enc:=cc) (vals:=[az.2.1.sv.val,kE.val]) [az.2.1,(⟨kE,zs⟩:Sl Int)] rfl (by simp only[List.map_cons,List.map_nil,Sv.iQ];rfl) rfl (by decide) (by decide) fun Xa=>⟨fun _ hw=>(Gx (ai.mem hw:Mem w0 [ar k (aL (⟨⟨d,az.2.1,az.2.2.1,az.2.2.2.1⟩,az.2.2.2.2⟩:aQ)) 141,ar pn (ni z) 102] _)),?_⟩)
     refine dy rfl (nr (hc:=Wx (q:=(⟨1,z.id,az.2.2.1+1,z.body⟩:dY)) (l:=(⟨⟨false,Xa,0,2,2,none⟩,[az.2.1,(⟨kE,zs⟩:Sl Int)]⟩:Sl (Sl Int)))) rfl ⟨iN,by rw[lj.len];omega,W8,W9⟩ fun GB GC=>⟨fun _ hw=>(Gx (ai.mem hw:Mem w0 [ar k (aL (⟨⟨GB,az.2.1,az.2.2.1,az.2.2.2.1⟩,az.2.2.2.2⟩:aQ)) 141,ar pn (ni z) 102] _)),?_⟩)
     refine an rfl (aF rfl) ?_
     refine an rfl (aV (v:= .int .i64 ((c8 (cv d) (aw [az.2.1,(⟨kE,zs⟩:Sl Int)]) az.2.2.2.2 (cD (⟨1,z.id,az.2.2.1+1,z.body⟩:dY))).2.1)) rfl rfl) ?_
     refine an rfl (aV (v:= .int .i64 ((c8 (cv d) (aw [az.2.1,(⟨kE,zs⟩:Sl Int)]) az.2.2.2.2 (cD (⟨1,z.id,az.2.2.1+1,z.body⟩:dY))).2.2)) rfl rfl) ?_
     refine an rfl (bn rfl) ?_
     refine an rfl (bn rfl) ?_
     refine Gc ?_
     iterate 2 refine Gs ?_
     refine Gc ?_
     refine av rfl (fun h5=> ?_) (fun h5=> ?_)
     ·
      replace h5:=bz h5
      have m0:(c8 (cv d) (az.2.1.xs++zs) az.2.2.2.2 (gV (⟨cv az.1,az.2.1.xs,az.2.2.1.toNat,az.2.2.2.1⟩:VV) (bq z))).2.2≠0:=by rw[←vo];exact h5
      have sf:(iz (⟨⟨cv xc,xa.xs,xg.toNat,xl⟩,xy⟩:WV) (it.xs.map bq))=((c8 (cv d) (az.2.1.xs++zs) az.2.2.2.2 (gV (⟨cv az.1,az.2.1.xs,az.2.2.1.toNat,az.2.2.2.1⟩:VV) (bq z))).1,zs,(c8 (cv d) (az.2.1.xs++zs) az.2.2.2.2 (gV (⟨cv az.1,az.2.1.xs,az.2.2.1.toNat,az.2.2.2.1⟩:VV) (bq z))).2.2):=by rw[dF,bG,if_neg jb,if_pos m0]
      have hE:(iA (⟨⟨cv xc,xa.xs,xg.toNat,xl⟩,xy⟩:WV) (it.xs.map bq))=((⟨(⟨cv az.1,az.2.1.xs,az.2.2.1.toNat,az.2.2.2.1⟩:VV),az.2.2.2.2⟩:WV).on (c8 (cv d) (az.2.1.xs++zs) az.2.2.2.2 (gV (⟨cv az.1,az.2.1.xs,az.2.2.1.toNat,az.2.2.2.1⟩:VV) (bq z))).1,(c8 (cv d) (az.2.1.xs++zs) az.2.2.2.2 (gV (⟨cv az.1,az.2.1.xs,az.2.2.1.toNat,az.2.2.2.1⟩:VV) (bq z))).2.2):=by rw[iA,if_neg ff,sf,←zF];exact if_pos m0
      refine Gc ?_
      iterate 2 refine Gs ?_
      refine Gc ?_
      refine au (.inl rfl) (aM rfl (aq rfl)) (fun w1 hw=> ?_)
      exact⟨(GB,az.2.1,az.2.2.1,az.2.2.2.1,az.2.2.2.2),by rw[hE,vo],by rw[hE,GC,vo];rfl,ai.mem hw⟩
     ·
      replace h5:=bz h5
      have m0:(c8 (cv d) (az.2.1.xs++zs) az.2.2.2.2 (gV (⟨cv az.1,az.2.1.xs,az.2.2.1.toNat,az.2.2.2.1⟩:VV) (bq z))).2.2=0:=by rw[←vo];exact h5
      obtain⟨p1,p2,p3,p4⟩:=KH (fl:=az.2.1.xs++zs) (aC:=az.2.2.2.2) (p:=gV (⟨cv az.1,az.2.1.xs,az.2.2.1.toNat,az.2.2.2.1⟩:VV) (bq z)) iN (by rw[lj.len];omega)
      have p5:=p4 m0
      rw[←vo,←GC]at p1 p2
      refine Gc ?_
      iterate 4 refine Gs ?_
      refine ah (bl rfl rfl z.id.toNat (by omega) (by omega)) ?_
      refine kJ (s:=kE) (n:=1) (k:=z.id.toNat) (j:=0) (a:=zi) (a':=(c8 (cv d) (aw [az.2.1,(⟨kE,zs⟩:Sl Int)]) az.2.2.2.2 (cD (⟨1,z.id,az.2.2.1+1,z.body⟩:dY))).2.1) (xs:=zs) (enc:=bP) (c:=1) (v:= .int .i64 (c8 (cv d) (aw [az.2.1,(⟨kE,zs⟩:Sl Int)]) az.2.2.2.2 (cD (⟨1,z.id,az.2.2.1+1,z.body⟩:dY))).2.1) (by kernel_rfl) rfl rfl rfl tr (by simp[Value.cells,Value.oneCell']) rfl (by decide) (by rfl) ?_
      refine Gc ?_
      iterate 2 refine Gs ?_
      refine Gi ?_
      exact bD (x:=(j,d,zs)) (j+1,GB,zs.set z.id.toNat (c8 (cv d) (aw [az.2.1,(⟨kE,zs⟩:Sl Int)]) az.2.2.2.2 (cD (⟨1,z.id,az.2.2.1+1,z.body⟩:dY))).2.1) ⟨by simp only;omega,by rw[dF,bG,if_neg jb,if_neg (fun h=>h m0),GC,vo],p1,lj.trans p2,fun y hy=>by
                 rw[p2.ae,p2.len]
                 exact(List.mem_or_eq_of_mem_set hy).elim (xA y) fun hy=>hy▸ .inr (by rw[vo];exact p5),by rw[List.length_set];exact GA⟩ (by simp only;omega) (Sub.cons rfl (Sub.cons rfl (Sub.cons rfl (Sub.cons rfl (Sub.cons rfl (Sub.nil _)))))) (fun w hw=>ai.mem hw)
   ·
    replace h3:=bz h3
    obtain rfl:j=it.xs.length:=by omega
    have sf:(iz (⟨⟨cv xc,xa.xs,xg.toNat,xl⟩,xy⟩:WV) (it.xs.map bq))=(cv d,zs,0):=by rw[dF,←ft,List.drop_length];rfl
    have hE:(iA (⟨⟨cv xc,xa.xs,xg.toNat,xl⟩,xy⟩:WV) (it.xs.map bq))=dV ((⟨(⟨cv az.1,az.2.1.xs,az.2.2.1.toNat,az.2.2.2.1⟩:VV),az.2.2.2.2⟩:WV).on (cv d)) zs:=by rw[iA,if_neg ff,sf,←zF];simp only[ne_eq,not_true_eq_false,if_false]
    have Gp:cd ((⟨(⟨cv az.1,az.2.1.xs,az.2.2.1.toNat,az.2.2.2.1⟩:VV),az.2.2.2.2⟩:WV).on (cv d)):=vn.on iN lj
    refine Gc ?_
    iterate 2 refine Gs ?_
    refine br rfl Gp fun CF Xb=> ?_
    refine Gs ?_
    refine Gc ?_
    refine au (.inl rfl) (aM rfl (aq rfl)) (fun w1 hw=> ?_)
    exact⟨(CF.1,CF.2.1,CF.2.2.1,CF.2.2.2,az.2.2.2.2),by rw[hE];rfl,by rw[hE];exact Xb,ai.mem hw⟩
instance ahI{w0:World}{L R1 R2 L2:List aj}{i0 i1 i2:Nat}{k:Nat}{xc:Cp}{xa:Sl Int}{xg:UInt64}{xl:Int}{xy:Bool}{it:Sl It}[q0:Has L k (aL (⟨⟨xc,xa,xg,xl⟩,xy⟩:aQ)) 141 i0][d0:dr L i0 R1][q1:At R1 (fz xc) i1][d1:dr R1 i1 R2][q2:At R2 (fz xa) i2][d2:dr R2 i2 L2][pR:aW w0 L2 it]:cr Tryz.prog 88 w0 L [.pointer (some ⟨k,0,none⟩),it.sv.val] (Cp×Sl Int×UInt64×Int×Bool) (fun zz=> .int .i64 ((iA (⟨⟨cv xc,xa.xs,xg.toNat,xl⟩,xy⟩:WV) (it.xs.map bq)).2)) (fun zz=>ar k (aL (⟨⟨zz.1,zz.2.1,zz.2.2.1,zz.2.2.2.1⟩,zz.2.2.2.2⟩:aQ)) 141::fz zz.1::fz zz.2.1::L2) (fun zz=>(⟨⟨cv zz.1,zz.2.1.xs,zz.2.2.1.toNat,zz.2.2.2.1⟩,zz.2.2.2.2⟩:WV)=(iA (⟨⟨cv xc,xa.xs,xg.toNat,xl⟩,xy⟩:WV) (it.xs.map bq)).1) (cd (⟨⟨cv xc,xa.xs,xg.toNat,xl⟩,xy⟩:WV)∧it.xs.length≤1000000∧ ∀x∈it.xs,0≤x.id∧x.id<xa.xs.length∧x.id<64):=⟨fun hp w hw=>W3 w0 w L2 k xc xa xg xl xy it (xj q0.h d0.h q1.h d1.h q2.h d2.h hw) hp⟩
open Go.ay Go.Kb
open Go.RowKit
theorem Xc(w0 w:World)(L:List aj)(k:Nat)(xc:Cp)(xa:Sl Int)(xg:UInt64)(xl:Int)(xy:Bool)(n:Int)(hw:Mem w0 (ar k (aL (⟨⟨xc,xa,xg,xl⟩,xy⟩:aQ)) 141::fz xc::fz xa::L) w)(bc:cd (⟨⟨cv xc,xa.xs,xg.toNat,xl⟩,xy⟩:WV)∧0≤n∧n≤64):Calls Tryz.prog 85 #[.pointer (some ⟨k,0,none⟩), .int .i64 n] w fun e w'=> ∃zz:Cp×Sl Int×UInt64×Int,e= .returned (.int .i64 ((oY (⟨⟨cv xc,xa.xs,xg.toNat,xl⟩,xy⟩:WV) n.toNat).2))∧((⟨⟨cv zz.1,zz.2.1.xs,zz.2.2.1.toNat,zz.2.2.2⟩,xy⟩:WV)=(oY (⟨⟨cv xc,xa.xs,xg.toNat,xl⟩,xy⟩:WV) n.toNat).1)∧Mem w0 (ar k (aL (⟨⟨zz.1,zz.2.1,zz.2.2.1,zz.2.2.2⟩,xy⟩:aQ)) 141::fz zz.1::fz zz.2.1::L) w':=by
 obtain⟨gu,tz,vf⟩:=bc
 have hk:aS (cv xc)=true:=gu.ag
 have xw:4≤(cv xc).blocks.length:=gu.oh
 have hd:=fa hk
 have du:(cv xc).blocks.length=xc.blocks.xs.length:=gg _
 refine kt (args:=[_,_]) Tryz.func85 rfl Tryz.ntmps85 rfl hw ?_
 change Cw _ _ _ _ _ [(0, .pointer (some ⟨k,0,none⟩)),(1, .int .i64 n)] (ar k (aL (⟨⟨xc,xa,xg,xl⟩,xy⟩:aQ)) 141::fz xc::fz xa::L)
 refine Gc ?_
 refine Gs ?_
 refine Gc ?_
 iterate 5 refine Gs ?_
 refine ah (Ry.to (v':=xc.blocks.sv.val) (bI rfl) rfl) ?_
 iterate 2 refine Gs ?_
 refine Gc ?_
 refine cg (X:=Nat×Cp) (fun zz=>[(18, .int .i64 (zz.1:Nat)),(0, .pointer (some ⟨k,0,none⟩)),(1, .int .i64 n),(17, .int .i64 (xc.blocks.xs.length:Nat))]) (fun zz=>ar k (aL (⟨⟨zz.2,xa,xg,xl⟩,xy⟩:aQ)) 141::fz zz.2::fz xa::L) (fun zz=>zz.1≤(cv xc).blocks.length∧(lD (cv xc).blocks.length 0 (cv xc))=lD ((cv xc).blocks.length -zz.1) (zz.1:Int) (cv zz.2)∧aS (cv zz.2)=true∧dB (cv xc) (cv zz.2)) (fun zz=>(cv xc).blocks.length -zz.1) (0,xc) ⟨Nat.zero_le _,rfl,hk, .bW _⟩ (Sub.cons rfl (Sub.cons rfl (Sub.cons rfl (Sub.cons rfl (Sub.nil _))))) (fun w hw=>ai.mem hw) ?_
 rintro⟨i,d⟩ ⟨bk,aG,bB,cV⟩
 dsimp only
 simp only at bk aG bB cV
 have Cy:=cV.len
 have gX:(⟨i,d⟩:Nat×Cp)=(i,d):=rfl
 refine Gc ?_
 refine Gs ?_
 refine Gc ?_
 refine av rfl (fun h0=> ?_) (fun h0=> ?_)
 ·
  replace h0:=bz h0
  have bG:lD ((cv xc).blocks.length -i) (i:Int) (cv d)=(if wN (cv d) i=false then lD ((cv xc).blocks.length -(i+1)) ((i:Int)+1) (cv d)else if dL (cv d) i≠0∧dL (cv d) i≠9 then(df (cv d) i,dL (cv d) i)else lD ((cv xc).blocks.length -(i+1)) ((i:Int)+1) (df (cv d) i)):=by
   rw[show(cv xc).blocks.length -i=((cv xc).blocks.length -(i+1))+1 by omega,lD]
  refine Gc ?_
  iterate 2 refine Gs ?_
  refine Gc ?_
  iterate 2 refine Gs ?_
  refine fE (cM rfl ⟨bB,by omega,by omega⟩) ?_
  refine Gs ?_
  refine Gc ?_
  refine av rfl (fun h1=> ?_) (fun h1=> ?_)
  ·
   replace h1:=bz h1
   refine Gc ?_
   iterate 2 refine Gs ?_
   refine Gi ?_
   exact bD (x:=(i,d)) (i+1,d) ⟨by simp only;omega,by rw[aG,bG,if_pos h1];rfl,bB,cV⟩ (by simp only;omega) (Sub.cons rfl (Sub.cons rfl (Sub.cons rfl (Sub.cons rfl (Sub.nil _))))) (fun w hw=>ai.mem hw)
  ·
   replace h1:=bz h1
   have eo: ¬wN (cv d) i=false:=by rw[h1];simp
   refine Gc ?_
   iterate 2 refine Gs ?_
   refine br rfl ⟨bB,by omega,by omega⟩ fun po rb=> ?_
   refine Gs ?_
   refine Gc ?_
   iterate 3 refine Gs ?_
   iterate 2 refine Gg ?_
   refine Gs ?_
   refine Gc ?_
   refine av rfl (fun h2=> ?_) (fun h2=> ?_)
   ·
    replace h2:=bz h2
    have hE:(oY (⟨⟨cv xc,xa.xs,xg.toNat,xl⟩,xy⟩:WV) n.toNat)=((⟨⟨cv xc,xa.xs,xg.toNat,xl⟩,xy⟩:WV).on (df (cv d) i),dL (cv d) i):=by
     have hz:(lD (cv xc).blocks.length 0 (cv xc))=(df (cv d) i,dL (cv d) i):=by rw[aG,bG,if_neg eo,if_pos h2]
     rw[oY,if_pos (show(lD (cv xc).blocks.length 0 (cv xc)).2≠0 by rw[hz];exact h2.1),hz]
    refine Gc ?_
    iterate 2 refine Gs ?_
    refine Gc ?_
    refine au (.inl rfl) (aM rfl (aq rfl)) (fun w1 hw=> ?_)
    exact⟨(po,xa,xg,xl),by rw[hE],by rw[hE,rb];rfl,ai.mem hw⟩
   ·
    replace h2:=bz h2
    have ff:dL (cv d) i≠0→dL (cv d) i≠9→False:=fun ga gb=>by omega
    refine Gc ?_
    iterate 2 refine Gs ?_
    refine Gi ?_
    exact bD (x:=(i,d)) (i+1,po) ⟨by simp only;omega,by rw[aG,bG,if_neg eo,if_neg (fun h=>ff h.1 h.2),rb];rfl,by rw[rb];exact BG bB _,by rw[rb];exact cV.trans (uP _ _)⟩ (by simp only;omega) (Sub.cons rfl (Sub.cons rfl (Sub.cons rfl (Sub.cons rfl (Sub.nil _))))) (fun w hw=>ai.mem hw)
 ·
  replace h0:=bz h0
  obtain rfl:i=(cv xc).blocks.length:=by omega
  have hz:(lD (cv xc).blocks.length 0 (cv xc))=(cv d,0):=by rw[aG,Nat.sub_self];rfl
  refine Gc ?_
  refine Gs ?_
  refine Gc ?_
  refine cg (X:=Nat×Cp) (fun zz=>[(36, .int .i64 (zz.1:Nat)),(0, .pointer (some ⟨k,0,none⟩)),(1, .int .i64 n)]) (fun zz=>ar k (aL (⟨⟨zz.2,xa,xg,xl⟩,xy⟩:aQ)) 141::fz zz.2::fz xa::L) (fun zz=>zz.1≤2∧(oY (⟨⟨cv xc,xa.xs,xg.toNat,xl⟩,xy⟩:WV) n.toNat)=s9 (2 -zz.1) (zz.1:Int) ((⟨⟨cv xc,xa.xs,xg.toNat,xl⟩,xy⟩:WV).on (cv zz.2)) n.toNat∧aS (cv zz.2)=true∧dB (cv xc) (cv zz.2)) (fun zz=>2 -zz.1) (0,d) ⟨Nat.zero_le _,by rw[oY,if_neg (show ¬(lD (cv xc).blocks.length 0 (cv xc)).2≠0 by rw[hz];simp),show(lD (cv xc).blocks.length 0 (cv xc)).1=cv d by rw[hz]];rfl,bB,cV⟩ (Sub.cons rfl (Sub.cons rfl (Sub.cons rfl (Sub.nil _)))) (fun w hw=>ai.mem hw) ?_
  rintro⟨j,e⟩ ⟨iC,dF,iN,lj⟩
  dsimp only
  simp only at iC dF iN lj
  have Cy:=lj.len
  have zk:=E5 (ak (cv e) (1 -(j:Int))).ae
  change j9 (cv e) (1 -(j:Int))<_ at zk
  have ez:fP (cv e) j<281474976710656+2∨ ¬j<2:=by
   by_cases Xd:j<2
   ·
    left;rw[fP];omega
   ·
    exact .inr Xd
  refine Gc ?_
  refine Gs ?_
  refine Gc ?_
  refine av rfl (fun h3=> ?_) (fun h3=> ?_)
  ·
   replace h3:=bz h3
   have ahJ:fP (cv e) j<281474976710656+2:=ez.resolve_right (fun h=>h (by omega))
   have GD:(UInt64.ofNat (fP (cv e) j)).toNat=fP (cv e) j:=by rw[UInt64.toNat_ofNat'];omega
   refine Gc ?_
   iterate 2 refine Gs ?_
   refine Gc ?_
   refine oO [4,6,7,2004,2006] [[],[],[],[],[],[4],[],[4,6]] [0,1,2,3,4,5,6,7] [ar k (aL (⟨⟨e,xa,xg,xl⟩,xy⟩:aQ)) 141,fz e] [(4,qF bP 1 n.toNat (List.replicate n.toNat 0)),(6,jl Tryz.prog 147)] (by kernel_rfl) (fun _ hw=>ai.mem hw) (by kernel_rfl) (by kernel_rfl) ?_
   refine an rfl (aF rfl) ?_
   refine an rfl (aF rfl) ?_
   refine uD rfl (cM rfl ⟨iN,by omega,by omega⟩) ?_
   refine an rfl (aF rfl) ?_
   refine my (m:=qF bP 1 n.toNat (List.replicate n.toNat 0)) rfl rfl (Vc (enc:=bP) (c:=1) (n:=n.toNat) 0 rfl rfl rfl (by omega) (by omega) (by omega) (by omega)) (Cert.one (i:=6) rfl rfl rfl iR (Cert.none rfl)) fun jD=> ?_
   change Ln _ _ _ _ _ _ _ _ (cw _ _ (Sv.val ⟨false,jD,0,n.toNat,n.toNat,none⟩)) (own bP 1 ⟨false,jD,0,n.toNat,n.toNat,none⟩ (List.replicate n.toNat 0)::_) _
   refine an rfl (cU (v:= .agg (dA (⟨UInt64.ofNat (fP (cv e) j),⟨⟨false,jD,0,n.toNat,n.toNat,none⟩,(List.replicate n.toNat 0)⟩⟩:db))) rfl (by rw[show(.int .u64 ((fP (cv e) j:Nat):Int):Value)= .int .u64 ((UInt64.ofNat (fP (cv e) j)).toNat:Int) by rw[GD]];exact Mp _ _ _)) ?_
   refine my (m:=jl Tryz.prog 147) rfl rfl iR (Cert.none rfl) fun b8=> ?_
   change Ln _ _ _ _ _ _ _ _ (cw _ _ (.pointer (some ⟨b8,0,none⟩))) (ar b8 (dA kM) 147::_) _
   refine dy rfl (mw rfl rfl ⟨fun _ hw=>ai.mem hw,?_⟩)
   iterate 3 refine Gi ?_
   have xx:dd (⟨UInt64.ofNat (fP (cv e) j),⟨⟨false,jD,0,n.toNat,n.toNat,none⟩,(List.replicate n.toNat 0)⟩⟩:db)=⟨fP (cv e) j,(List.replicate n.toNat 0)⟩:=by simp only[dd,GD]
   have Xe:mS (cv e) j n.toNat=(cZ (dd (⟨UInt64.ofNat (fP (cv e) j),⟨⟨false,jD,0,n.toNat,n.toNat,none⟩,(List.replicate n.toNat 0)⟩⟩:db)) e.size):=by rw[xx];rfl
   have Xf:2 -j=(2 -(j+1))+1:=by omega
   have bG:(s9 (2 -j) (j:Int) ((⟨⟨cv xc,xa.xs,xg.toNat,xl⟩,xy⟩:WV).on (cv e)) n.toNat)=(if(mS (cv e) j n.toNat).2≠0∨eH (cv e) j=0 then s9 (2 -(j+1)) ((j:Int)+1) ((⟨⟨cv xc,xa.xs,xg.toNat,xl⟩,xy⟩:WV).on (cv e)) n.toNat else if(bw (cv e) j (mS (cv e) j n.toNat).1)=0 then((⟨BM (bH (cv e) j (mS (cv e) j n.toNat).1) j n.toNat (fP (cv e) j),xy⟩:WV),(0:Int))else if(bw (cv e) j (mS (cv e) j n.toNat).1)≠9 then((⟨⟨cv xc,xa.xs,xg.toNat,xl⟩,xy⟩:WV).on (bH (cv e) j (mS (cv e) j n.toNat).1),(bw (cv e) j (mS (cv e) j n.toNat).1))else s9 (2 -(j+1)) ((j:Int)+1) ((⟨⟨cv xc,xa.xs,xg.toNat,xl⟩,xy⟩:WV).on (bH (cv e) j (mS (cv e) j n.toNat).1)) n.toNat):=by
    rw[Xf,s9]
    rfl
   rw[Xe]at bG
   refine jm [7] [[],[],[],[],[],[],[],[],[7],[7],[7],[7],[7]] [0,1,2,3,4,5,6,7,8,9,10,11,12] [ar k (aL (⟨⟨e,xa,xg,xl⟩,xy⟩:aQ)) 141,fz e,ar b8 (dA (⟨UInt64.ofNat (fP (cv e) j),⟨⟨false,jD,0,n.toNat,n.toNat,none⟩,(List.replicate n.toNat 0)⟩⟩:db)) 147] (fun _ hw=>ai.mem hw) (by kernel_rfl) (by kernel_rfl) ?_
   refine an rfl (fN rfl) ?_
   refine an rfl (aF rfl) ?_
   refine an rfl (jG rfl) ?_
   refine an rfl (aH (o':=0) rfl rfl) ?_
   refine an rfl (aH (o':=0) rfl rfl) ?_
   refine an rfl (aH (o':=1) rfl rfl) ?_
   refine an rfl (Ry.to (v':= .int .i64 e.size) (bI rfl) rfl) ?_
   refine dy rfl (nr rfl trivial fun Xg ahK=>⟨fun _ hw=>ai.mem hw,?_⟩)
   refine an rfl (aF rfl) ?_
   refine an rfl (aV (v:=Xg.val) rfl rfl) ?_
   refine an rfl (aV (v:= .int .i64 ((cZ (dd (⟨UInt64.ofNat (fP (cv e) j),⟨⟨false,jD,0,n.toNat,n.toNat,none⟩,(List.replicate n.toNat 0)⟩⟩:db)) e.size).2)) rfl rfl) ?_
   refine an rfl (bn rfl) ?_
   refine an rfl (bn rfl) ?_
   refine Gc ?_
   iterate 3 refine Gs ?_
   iterate 2 refine Gg ?_
   refine ca rfl rfl rfl (fun hg=>cM (dP (aI hg rfl) (dP (aI hg rfl) gP)) ⟨iN,by omega,by omega⟩) ?_
   refine Gg ?_
   refine Gs ?_
   refine Gc ?_
   refine av rfl (fun h4=> ?_) (fun h4=> ?_)
   ·
    replace h4:=bz h4
    have jb:(cZ (dd (⟨UInt64.ofNat (fP (cv e) j),⟨⟨false,jD,0,n.toNat,n.toNat,none⟩,(List.replicate n.toNat 0)⟩⟩:db)) e.size).2≠0∨eH (cv e) j=0:=h4
    refine Gc ?_
    iterate 2 refine Gs ?_
    refine Gi ?_
    exact bD (x:=(j,e)) (j+1,e) ⟨by simp only;omega,by rw[dF,bG,if_pos jb];rfl,iN,lj⟩ (by simp only;omega) (Sub.cons rfl (Sub.cons rfl (Sub.cons rfl (Sub.nil _)))) (fun w hw=>ai.mem hw)
   ·
    replace h4:=bz h4
    have jb: ¬((cZ (dd (⟨UInt64.ofNat (fP (cv e) j),⟨⟨false,jD,0,n.toNat,n.toNat,none⟩,(List.replicate n.toNat 0)⟩⟩:db)) e.size).2≠0∨eH (cv e) j=0):=fun h=>h.elim (fun g=>g h4.1) h4.2
    refine Gc ?_
    iterate 3 refine Gs ?_
    refine br rfl ⟨iN,by omega,by omega⟩ fun tF zG=> ?_
    refine Gs ?_
    refine Gc ?_
    iterate 2 refine Gs ?_
    refine Gc ?_
    refine av rfl (fun h5=> ?_) (fun h5=> ?_)
    ·
     replace h5:=bz h5
     have m0:(bw (cv e) j (cZ (dd (⟨UInt64.ofNat (fP (cv e) j),⟨⟨false,jD,0,n.toNat,n.toNat,none⟩,(List.replicate n.toNat 0)⟩⟩:db)) e.size).1)=0:=h5
     have hE:(oY (⟨⟨cv xc,xa.xs,xg.toNat,xl⟩,xy⟩:WV) n.toNat)=((⟨BM (bH (cv e) j (cZ (dd (⟨UInt64.ofNat (fP (cv e) j),⟨⟨false,jD,0,n.toNat,n.toNat,none⟩,(List.replicate n.toNat 0)⟩⟩:db)) e.size).1) j n.toNat (fP (cv e) j),xy⟩:WV),0):=by rw[dF,bG,if_neg jb,if_pos m0]
     refine Gi ?_
     refine jm [11,15,19,1003,1004,1009,1010,1013,1014,1017,1018] [[],[],[],[],[3],[],[],[],[3,4],[3,4],[3,4,9],[3,4,9,10],[3,4,9,10,11],[3,4,9,10,11],[3,4,9,10,11,13],[3,4,9,10,11,13,14],[3,4,9,10,11,13,14,15],[3,4,9,10,11,13,14,15],[3,4,9,10,11,13,14,15,17],[3,4,9,10,11,13,14,15,17,18]] [0,1,2,3,4,5,6,7,8,9,10,11,12,13,14,15,16,17,18,19] [ar b8 (dA (⟨UInt64.ofNat (fP (cv e) j),⟨⟨false,jD,0,n.toNat,n.toNat,none⟩,(List.replicate n.toNat 0)⟩⟩:db)) 147] (fun _ hw=>ai.mem hw) (by kernel_rfl) (by kernel_rfl) ?_
     refine an rfl (aF rfl) ?_
     refine an rfl (aF rfl) ?_
     refine an rfl (aF rfl) ?_
     refine kv rfl (aH (o':=1) rfl rfl) ?_
     refine kv rfl (bI rfl) ?_
     refine an rfl (aH (o':=0) rfl rfl) ?_
     refine an rfl (bI rfl) ?_
     refine an rfl (aF rfl) ?_
     refine an rfl (jG rfl) ?_
     refine kv rfl (aH (o':=0) rfl rfl) ?_
     refine kv rfl (aH (o':=6) rfl rfl) ?_
     refine dy rfl (wj (cs':=aL (⟨⟨tF,⟨⟨false,jD,0,n.toNat,n.toNat,none⟩,(List.replicate n.toNat 0)⟩,xg,xl⟩,xy⟩:aQ)) rfl rfl (by show 6<10;decide) (by first|rfl|exact Sv.one _) rfl ⟨fun _ hw=>ai.mem hw,?_⟩)
     refine an rfl (jG rfl) ?_
     refine kv rfl (aH (o':=0) rfl rfl) ?_
     refine kv rfl (aH (o':=7) rfl rfl) ?_
     refine dy rfl (wj (cs':=aL (⟨⟨tF,⟨⟨false,jD,0,n.toNat,n.toNat,none⟩,(List.replicate n.toNat 0)⟩,(UInt64.ofNat (fP (cv e) j)),xl⟩,xy⟩:aQ)) rfl rfl (by show 7<10;decide) (by first|rfl|exact Sv.one _) rfl ⟨fun _ hw=>ai.mem hw,?_⟩)
     refine an rfl (jG rfl) ?_
     refine kv rfl (aH (o':=0) rfl rfl) ?_
     refine kv rfl (aH (o':=8) rfl rfl) ?_
     refine dy rfl (wj (cs':=aL (⟨⟨tF,⟨⟨false,jD,0,n.toNat,n.toNat,none⟩,(List.replicate n.toNat 0)⟩,(UInt64.ofNat (fP (cv e) j)),((j:Nat):Int)⟩,xy⟩:aQ)) rfl rfl (by show 8<10;decide) (by first|rfl|exact Sv.one _) rfl ⟨fun _ hw=>ai.mem hw,?_⟩)
     refine Gc ?_
     refine Gs ?_
     refine Gc ?_
     refine au (.inl rfl) (aM rfl (aq rfl)) (fun w1 hw=> ?_)
     exact⟨(tF,⟨⟨false,jD,0,n.toNat,n.toNat,none⟩,(List.replicate n.toNat 0)⟩,UInt64.ofNat (fP (cv e) j),(j:Int)),by rw[hE],by rw[hE,zG,BM];simp only[GD],ai.mem (uG (a:=⟨⟨false,jD,0,n.toNat,n.toNat,none⟩,(List.replicate n.toNat 0)⟩) (ai.mem hw:Mem w0 (own bP 1 ⟨false,jD,0,n.toNat,n.toNat,none⟩ (List.replicate n.toNat 0)::ar k (aL (⟨⟨tF,⟨⟨false,jD,0,n.toNat,n.toNat,none⟩,(List.replicate n.toNat 0)⟩,(UInt64.ofNat (fP (cv e) j)),(j:Int)⟩,xy⟩:aQ)) 141::fz tF::L) _))⟩
    ·
     replace h5:=bz h5
     have m0: ¬(bw (cv e) j (cZ (dd (⟨UInt64.ofNat (fP (cv e) j),⟨⟨false,jD,0,n.toNat,n.toNat,none⟩,(List.replicate n.toNat 0)⟩⟩:db)) e.size).1)=0:=h5
     refine Gc ?_
     iterate 2 refine Gs ?_
     refine Gc ?_
     refine av rfl (fun h6=> ?_) (fun h6=> ?_)
     ·
      replace h6:=bz h6
      have hE:(oY (⟨⟨cv xc,xa.xs,xg.toNat,xl⟩,xy⟩:WV) n.toNat)=((⟨⟨cv xc,xa.xs,xg.toNat,xl⟩,xy⟩:WV).on (bH (cv e) j (cZ (dd (⟨UInt64.ofNat (fP (cv e) j),⟨⟨false,jD,0,n.toNat,n.toNat,none⟩,(List.replicate n.toNat 0)⟩⟩:db)) e.size).1),(bw (cv e) j (cZ (dd (⟨UInt64.ofNat (fP (cv e) j),⟨⟨false,jD,0,n.toNat,n.toNat,none⟩,(List.replicate n.toNat 0)⟩⟩:db)) e.size).1)):=by rw[dF,bG,if_neg jb,if_neg m0,if_pos (show(bw (cv e) j (cZ (dd (⟨UInt64.ofNat (fP (cv e) j),⟨⟨false,jD,0,n.toNat,n.toNat,none⟩,(List.replicate n.toNat 0)⟩⟩:db)) e.size).1)≠9 from h6)]
      refine Gc ?_
      iterate 2 refine Gs ?_
      refine Gc ?_
      refine au (.inl rfl) (aM rfl (aq rfl)) (fun w1 hw=> ?_)
      exact⟨(tF,xa,xg,xl),by rw[hE],by rw[hE,zG];rfl,ai.mem hw⟩
     ·
      replace h6:=bz h6
      refine Gc ?_
      iterate 2 refine Gs ?_
      refine Gi ?_
      exact bD (x:=(j,e)) (j+1,tF) ⟨by simp only;omega,by rw[dF,bG,if_neg jb,if_neg m0,if_neg (fun h=>h h6),zG];rfl,by rw[zG];exact iU iN _ _,by rw[zG];exact lj.trans (gD _ _ _)⟩ (by simp only;omega) (Sub.cons rfl (Sub.cons rfl (Sub.cons rfl (Sub.nil _)))) (fun w hw=>ai.mem hw)
  ·
   replace h3:=bz h3
   obtain rfl:j=2:=by omega
   have hE:(oY (⟨⟨cv xc,xa.xs,xg.toNat,xl⟩,xy⟩:WV) n.toNat)=((⟨⟨cv xc,xa.xs,xg.toNat,xl⟩,xy⟩:WV).on (cv e),9):=by rw[dF];rfl
   refine Gc ?_
   refine Gs ?_
   refine Gc ?_
   refine au (.inl rfl) (aM rfl (aq rfl)) (fun w1 hw=> ?_)
   exact⟨(e,xa,xg,xl),by rw[hE],by rw[hE];rfl,ai.mem hw⟩
instance ahL{w0:World}{L R1 R2 L2:List aj}{i0 i1 i2:Nat}{k:Nat}{xc:Cp}{xa:Sl Int}{xg:UInt64}{xl:Int}{xy:Bool}{n:Int}[q0:Has L k (aL (⟨⟨xc,xa,xg,xl⟩,xy⟩:aQ)) 141 i0][d0:dr L i0 R1][q1:At R1 (fz xc) i1][d1:dr R1 i1 R2][q2:At R2 (fz xa) i2][d2:dr R2 i2 L2]:cr Tryz.prog 85 w0 L [.pointer (some ⟨k,0,none⟩), .int .i64 n] (Cp×Sl Int×UInt64×Int) (fun zz=> .int .i64 ((oY (⟨⟨cv xc,xa.xs,xg.toNat,xl⟩,xy⟩:WV) n.toNat).2)) (fun zz=>ar k (aL (⟨⟨zz.1,zz.2.1,zz.2.2.1,zz.2.2.2⟩,xy⟩:aQ)) 141::fz zz.1::fz zz.2.1::L2) (fun zz=>(⟨⟨cv zz.1,zz.2.1.xs,zz.2.2.1.toNat,zz.2.2.2⟩,xy⟩:WV)=(oY (⟨⟨cv xc,xa.xs,xg.toNat,xl⟩,xy⟩:WV) n.toNat).1) (cd (⟨⟨cv xc,xa.xs,xg.toNat,xl⟩,xy⟩:WV)∧0≤n∧n≤64):=⟨fun hp w hw=>Xc w0 w L2 k xc xa xg xl xy n (xj q0.h d0.h q1.h d1.h q2.h d2.h hw) hp⟩
open Go.ay Go.Kb
open Go.RowKit
theorem Xh(w:World)(b:Int)(p:Int):Calls Tryz.prog 42 #[.int .i64 b, .int .i64 p] w fun e w'=>e= .returned (.int .i64 (qa b p))∧Mem w [] w':=by
 refine bf (args:=[_,_]) Tryz.func42 rfl Tryz.ntmps42 rfl ?_
 change Cw _ _ _ _ _ [(0, .int .i64 b),(1, .int .i64 p)] []
 refine Gc ?_
 refine Gs ?_
 refine Gc ?_
 iterate 3 refine Gs ?_
 iterate 2 refine Gg ?_
 iterate 2 refine Gs ?_
 iterate 2 refine Gg ?_
 iterate 2 refine Gs ?_
 iterate 2 refine Gg ?_
 refine Gs ?_
 refine Gc ?_
 refine av rfl (fun h0=> ?_) (fun h0=> ?_)
 ·
  replace h0:=bz h0
  have hE:qa b p=0:=if_pos (by omega)
  refine Gc ?_
  refine Gs ?_
  refine Gc ?_
  refine au (.inl rfl) (aM rfl (aq rfl)) (fun w1 hw=> ?_)
  exact⟨congrArg (fun b=>Ending.returned (Value.int .i64 b)) (hE.symm),ai.mem hw⟩
 ·
  replace h0:=bz h0
  have hE:qa b p=(b -4)*p:=if_neg (by omega)
  have l5:0≤(b -4)*p:=Int.mul_nonneg (by omega) (by omega)
  have nE:(b -4)*p≤28*16:=Int.mul_le_mul (by omega) (by omega) (by omega) (by omega)
  refine Gc ?_
  iterate 3 refine Gs ?_
  refine ah (ub rfl rfl (by omega)) ?_
  refine Gs ?_
  refine Gc ?_
  refine au (.inl rfl) (aM rfl (aq rfl)) (fun w1 hw=> ?_)
  exact⟨congrArg (fun b=>Ending.returned (Value.int .i64 b)) (hE.symm),ai.mem hw⟩
instance ahM{w0:World}{L:List aj}{b:Int}{p:Int}:cL Tryz.prog 42 w0 L [.int .i64 b, .int .i64 p] (.int .i64 (qa b p)) (True):=⟨fun hp w hw=>Xh w b p⟩
theorem Xi(w:World)(v:bT)(it:Sl It)(hv:Deep.bh (hp w) v)(pR:Deep.bh (hp w) it):Calls Tryz.prog 86 #[.agg (bL v),it.sv.val] w fun e w'=>e= .returned (.bool (p8 (vv v) (it.xs.map bq)))∧Mem w [] w':=by
 have zj:cC w v:=⟨hv⟩
 have Xj:cC w it:=⟨pR⟩
 have jn:=pR.1.bd
 have CG:=hv.2.1.bd
 have ft:(it.xs.map bq).length=it.xs.length:=List.length_map _
 refine bf (args:=[_,_]) Tryz.func86 rfl Tryz.ntmps86 rfl ?_
 change Cw _ _ _ _ _ [(0, .agg (bL v)),(1,it.sv.val)] []
 refine Gc ?_
 refine cq rfl fun b2=> ?_
 refine Gs ?_
 refine Gc ?_
 refine LM l6 ou fun kT=> ?_
 refine Gs ?_
 refine Gc ?_
 iterate 3 refine Gs ?_
 refine Gc ?_
 refine cg (X:=Nat) (fun zz=>[(13, .int .i64 (zz:Nat)),(5, .map (some kT)),(2, .pointer (some ⟨b2,0,none⟩)),(11,it.sv.val),(12, .int .i64 (it.xs.length:Nat))]) (fun zz=>[omap Tryz.prog 3 l6 ou kT (qU ((it.xs.map bq).map Prod.fst) zz),ar b2 (bL v) 29]) (fun zz=>zz≤it.xs.length∧ ∀j,j<zz→qT (vv v) (it.xs.map bq) j=true) (fun zz=>it.xs.length -zz) 0 ⟨Nat.zero_le _,fun j hj=>by first|omega|(simp only[];omega)⟩ (Sub.cons rfl (Sub.cons rfl (Sub.cons rfl (Sub.cons rfl (Sub.cons rfl (Sub.nil _)))))) (fun w hw=>by
  rw[←Ta];exact ai.mem hw) ?_
 rintro i ⟨bk,aG⟩
 refine Gc ?_
 refine Gs ?_
 refine Gc ?_
 refine av rfl (fun h0=> ?_) (fun h0=> ?_)
 ·
  replace h0:=bz h0
  obtain⟨z,hz⟩:=get_some (xs:=it.xs) (i:=i) (by omega)
  have tt:Mb z it:=⟨List.mem_of_getElem? hz⟩
  have tE:(it.xs.map bq)[i]? =Option.some (bq z):=by rw[List.getElem?_map,hz];rfl
  have vm:(it.xs.map bq).getD i (0,[])=bq z:=by simp[List.getD,tE]
  have Xk:((it.xs.map bq).map Prod.fst)[i]? =Option.some z.id:=by rw[List.getElem?_map,tE];rfl
  have yJ:(qT (vv v) (it.xs.map bq) i)=(qS (vv v) (bq z)&& !(((it.xs.map bq).map Prod.fst).take i).contains z.id):=by rw[qT,vm,List.map_take];rfl
  have ja:(qT (vv v) (it.xs.map bq) i)=false→p8 (vv v) (it.xs.map bq)=false:=fun h=>by
   cases qZ:p8 (vv v) (it.xs.map bq)with
   |false=>rfl
   |true=>have:=y7.1 qZ i (by omega);rw[h]at this;cases this
  have ji:qS (vv v) (bq z)=true↔0≤z.id∧z.id<v.at_.xs.length∧(z.body.xs.length:Int)≤dR v.ag.size:=by
   rw[qS,Bool.and_eq_true,Bool.and_eq_true,decide_eq_true_eq,decide_eq_true_eq,decide_eq_true_eq,and_assoc];rfl
  refine Gc ?_
  refine ah (bl rfl rfl i rfl (by omega)) ?_
  refine ah (hH rfl i hz rfl) ?_
  have V0:Mb z it:=⟨List.mem_of_getElem? hz⟩
  refine bN fun b7=> ?_
  refine Gs ?_
  refine Gc ?_
  refine iF (by kernel_rfl) (by kernel_rfl) ?_
  iterate 4 refine Gq ?_
  iterate 6 refine Gh ?_
  iterate 2 refine Gq ?_
  iterate 4 refine Gh ?_
  refine iE rfl rfl rfl (fun hg=>(Ry.yl (aH (o':=1) (aI hg rfl) rfl))) ?_
  refine Gh ?_
  refine iE rfl rfl rfl (fun hg=>cM (dP (aI hg rfl) gP) trivial) ?_
  refine Gh ?_
  refine Gq ?_
  refine Gc ?_
  refine av rfl (fun h1=> ?_) (fun h1=> ?_)
  ·
   replace h1:=bz h1
   have hE:p8 (vv v) (it.xs.map bq)=false:=ja (by
    have: ¬qS (vv v) (bq z)=true:=fun h=>by have:=ji.1 h;omega
    rw[yJ,show qS (vv v) (bq z)=false by simpa using this];rfl)
   refine Gc ?_
   refine Gs ?_
   refine Gc ?_
   refine au (.inl rfl) (aM rfl (aq rfl)) (fun w1 hw=> ?_)
   exact⟨congrArg (fun b=>Ending.returned (Value.bool b)) (hE.symm),ai.mem hw⟩
  ·
   replace h1:=bz h1
   have ly:qS (vv v) (bq z)=true:=ji.2 ⟨by omega,by omega,by omega⟩
   have tw:=FY (n:=z.id) (by omega)
   refine Gc ?_
   iterate 3 refine Gs ?_
   refine ah (FJ (c0:=l6) (dU:=ou) (f:=qU ((it.xs.map bq).map Prod.fst) i) (v:=z.id) (z:=()) rfl rfl tw) ?_
   refine Gs ?_
   refine ah (aV (v:= .agg #[]) rfl rfl) ?_
   refine ah (aV (v:= .bool ((qU ((it.xs.map bq).map Prod.fst) i z.id).isSome)) rfl rfl) ?_
   refine bN fun b8=> ?_
   iterate 2 refine Gs ?_
   refine Gc ?_
   refine Gs ?_
   refine Gc ?_
   refine av rfl (fun h2=> ?_) (fun h2=> ?_)
   ·
    replace h2:=bz h2
    have hE:p8 (vv v) (it.xs.map bq)=false:=ja (by
     rw[KQ]at h2
     rw[yJ,ly,List.contains_eq_mem,h2];rfl)
    refine Gc ?_
    refine Gs ?_
    refine Gc ?_
    refine au (.inl rfl) (aM rfl (aq rfl)) (fun w1 hw=> ?_)
    exact⟨congrArg (fun b=>Ending.returned (Value.bool b)) (hE.symm),ai.mem hw⟩
   ·
    replace h2:=bz h2
    have bM:(qT (vv v) (it.xs.map bq) i)=true:=by
     rw[KQ]at h2
     rw[yJ,ly,List.contains_eq_mem,h2];rfl
    have eL:=Tb Xk
    refine Gc ?_
    iterate 3 refine Gs ?_
    refine ah (cU (v:= .agg #[]) rfl (fun w=>by kernel_rfl)) ?_
    refine FL (c0:=l6) (dU:=ou) (v:=z.id) (u:=()) rfl rfl rfl tw ?_
    refine Gc ?_
    iterate 2 refine Gs ?_
    refine Gi ?_
    exact bD (x:=(i)) (i+1) ⟨by first|omega|(simp only[];omega),fun j hj=>if e:j=i then e▸bM else aG j (by first|omega|(simp only[];omega))⟩ (by first|omega|(simp only[];omega)) (Sub.cons rfl (Sub.cons rfl (Sub.cons rfl (Sub.cons rfl (Sub.cons rfl (Sub.nil _)))))) (fun w hw=>by
     rw[←eL];exact ai.mem hw)
 ·
  replace h0:=bz h0
  obtain rfl:i=it.xs.length:=by omega
  have hE:p8 (vv v) (it.xs.map bq)=true:=y7.2 fun j hj=>aG j (by omega)
  refine Gc ?_
  refine Gs ?_
  refine Gc ?_
  refine au (.inl rfl) (aM rfl (aq rfl)) (fun w1 hw=> ?_)
  exact⟨congrArg (fun b=>Ending.returned (Value.bool b)) (hE.symm),ai.mem hw⟩
instance ahN{w0:World}{L:List aj}{v:bT}{it:Sl It}[hv:aW w0 L v][pR:aW w0 L it]:cL Tryz.prog 86 w0 L [.agg (bL v),it.sv.val] (.bool (p8 (vv v) (it.xs.map bq))) (True):=⟨fun hp w hw=>Xi w v it (hv.h w hw) (pR.h w hw)⟩
theorem Mw(v:bT)(w:World):(Instr.build 141 #[(0, .agg (bL v))]).run Tryz.prog w= .ok (.agg (aL ⟨v,false⟩)) w:=by
 obtain⟨⟨a1,a2,⟨a3,a4⟩,a5,a6,⟨a7,a8⟩⟩,⟨s,xs⟩,g,l⟩:=v
 unfold bL aL
 obtain⟨e,b,o,l,c,p⟩:=s
 obtain⟨e3,b3,o3,l3,c3,p3⟩:=a3
 obtain⟨e7,b7,o7,l7,c7,p7⟩:=a7
 cases e<;>cases e3<;>cases e7<;>kernel_rfl
theorem zH(c:Cp)(w:World):(Instr.build 29 #[(0, .agg (aE c))]).run Tryz.prog w= .ok (.agg (bL ⟨c,⟨Sv.none,[]⟩,0,0⟩)) w:=by
 obtain⟨a1,a2,⟨a3,a4⟩,a5,a6,⟨a7,a8⟩⟩:=c
 unfold bL aE
 obtain⟨e3,b3,o3,l3,c3,p3⟩:=a3
 obtain⟨e7,b7,o7,l7,c7,p7⟩:=a7
 cases e3<;>cases e7<;>kernel_rfl
theorem zI{w0 w:World}{L:List aj}(h:Mem w0 L w):Mem w0 (fz (⟨Sv.none,[]⟩:Sl Int)::L) w:=uG (a:=⟨Sv.none,[]⟩) (Mem.dI bP 1 h)
theorem Mx{w0 w:World}{c:Cp}{a:Sl Int}(h:Mem w0 [fz c,own bP 1 a.sv a.xs] w):Mem w0 [fz c,fz a] w:=ai.mem (uG (ai.mem h:Mem w0 [own bP 1 a.sv a.xs,fz c] w))
theorem Xl(w:World)(v:bT)(it:Sl It)(hv:Deep.bh (hp w) v)(pR:Deep.bh (hp w) it)(bc:dM v.ag∧v.at_.xs.length≤1000000∧it.xs.length≤1000000):Calls Tryz.prog 41 #[.agg (bL v),it.sv.val] w fun e w'=> ∃zz:Cp×Sl Int×UInt64×Int,e= .returned (.tuple #[.agg (bL (⟨zz.1,zz.2.1,zz.2.2.1,zz.2.2.2⟩:bT)), .int .i64 ((fJ (vv v) (it.xs.map bq)).2)])∧((⟨cv zz.1,zz.2.1.xs,zz.2.2.1.toNat,zz.2.2.2⟩:VV)=(fJ (vv v) (it.xs.map bq)).1)∧Mem w [fz zz.1,fz zz.2.1] w':=by
 have zj:cC w v:=⟨hv⟩
 have Xj:cC w it:=⟨pR⟩
 obtain⟨kg,fx,ft⟩:=bc
 refine bf (args:=[_,_]) Tryz.func41 rfl Tryz.ntmps41 rfl ?_
 change Cw _ _ _ _ _ [(0, .agg (bL v)),(1,it.sv.val)] []
 refine Gc ?_
 refine cq rfl fun b2=> ?_
 refine bN fun b4=> ?_
 refine Gs ?_
 refine Gc ?_
 iterate 4 refine Gs ?_
 iterate 3 refine Gg ?_
 iterate 2 refine Gs ?_
 refine ca rfl rfl rfl (fun hg=>(Ry.yl (fN rfl))) ?_
 refine Gg ?_
 refine ca rfl rfl rfl (fun hg=>cM (dP (aI hg rfl) (dP (aI hg rfl) gP)) trivial) ?_
 refine ca rfl rfl rfl (fun hg=>(Ry.yl (iu (aI hg rfl)))) ?_
 refine Gs ?_
 refine Gc ?_
 refine av rfl (fun h0=> ?_) (fun h0=> ?_)
 ·
  replace h0:=bz h0
  have hE:(fJ (vv v) (it.xs.map bq))=(vv v,1):=by
   rw[fJ,if_pos]
   rintro⟨g1,g2,g3⟩
   rcases h0 with(h|h)|h
   ·
    rw[g1]at h;cases h
   ·
    change v.gen.toNat<_ at g2;omega
   ·
    rw[g3]at h;cases h
  refine Gc ?_
  refine Gs ?_
  refine br rfl ⟨kg,fx⟩ fun tu FQ=> ?_
  iterate 2 refine Gs ?_
  refine Gc ?_
  refine au (.inl rfl) (bo rfl (cj rfl) (aq rfl)) (fun w1 hw=> ?_)
  exact⟨(tu.1,⟨tu.2,v.at_.xs⟩,v.gen,v.last),by rw[hE],by rw[hE,FQ];rfl,Mx (ai.mem hw)⟩
 ·
  replace h0:=bz h0
  have hq:kO (vv v)=true∧(vv v).gen<281474976710655∧p8 (vv v) (it.xs.map bq)=true:=⟨h0.1.1,by show v.gen.toNat<_;omega,h0.2⟩
  have xB:cd (⟨vv v,false⟩:WV):=uY hq.1
  have Gy: ∀x∈it.xs,0≤x.id∧x.id<v.at_.xs.length:=fun x hx=>by
   obtain⟨j,hj⟩:=List.getElem?_of_mem hx
   have tE:(it.xs.map bq)[j]? =Option.some (bq x):=by rw[List.getElem?_map,hj];rfl
   have hg:=y7.1 hq.2.2 j (by rw[List.length_map];exact(List.getElem?_eq_some_iff.1 hj).1)
   rw[qT,show(it.xs.map bq).getD j (0,[])=bq x by simp[List.getD,tE],Bool.and_eq_true,qS,Bool.and_eq_true,Bool.and_eq_true,decide_eq_true_eq,decide_eq_true_eq]at hg
   exact⟨hg.1.1.1,hg.1.1.2⟩
  have du:(cv v.ag).blocks.length=v.ag.blocks.xs.length:=gg _
  refine Gc ?_
  iterate 3 refine Gs ?_
  refine Gc ?_
  refine av rfl (fun h1=> ?_) (fun h1=> ?_)
  ·
   replace h1:=bz h1
   have hE:(fJ (vv v) (it.xs.map bq))=(vv v,7):=by rw[fJ,if_neg (fun h=>h hq),if_pos (show(vv v).ag.off=true from h1)]
   refine Gc ?_
   refine Gs ?_
   refine br rfl ⟨kg,fx⟩ fun w9 FO=> ?_
   iterate 2 refine Gs ?_
   refine Gc ?_
   refine au (.inl rfl) (bo rfl (cj rfl) (aq rfl)) (fun w1 hw=> ?_)
   exact⟨(w9.1,⟨w9.2,v.at_.xs⟩,v.gen,v.last),by rw[hE],by rw[hE,FO];rfl,Mx (ai.mem hw)⟩
  ·
   replace h1:=bz h1
   have hE:(fJ (vv v) (it.xs.map bq))=((mV (v.ag.blocks.xs.length+1) (⟨vv v,false⟩:WV) (it.xs.map bq)).1.v,(mV (v.ag.blocks.xs.length+1) (⟨vv v,false⟩:WV) (it.xs.map bq)).2):=by rw[fJ,if_neg (fun h=>h hq),if_neg (show ¬(vv v).ag.off=true by rw[show(vv v).ag.off=v.ag.off from rfl,h1];simp)];rw[show(vv v).ag.blocks.length=v.ag.blocks.xs.length from du]
   refine Gc ?_
   refine Gs ?_
   refine br rfl ⟨kg,fx⟩ fun kU sg=> ?_
   refine ah (cU (v:= .agg (aL (⟨⟨kU.1,⟨kU.2,v.at_.xs⟩,v.gen,v.last⟩,false⟩:aQ))) rfl (Mw _)) ?_
   refine cq rfl fun jE=> ?_
   refine Gs ?_
   refine Gc ?_
   refine cg (X:=Nat×Cp×Sl Int×UInt64×Int×Bool) (fun zz=>[(6, .pointer (some ⟨jE,0,none⟩)),(1,it.sv.val),(4, .pointer (some ⟨b4,0,none⟩))]) (fun zz=>[ar jE (aL (⟨⟨zz.2.1,zz.2.2.1,zz.2.2.2.1,zz.2.2.2.2.1⟩,zz.2.2.2.2.2⟩:aQ)) 141,fz zz.2.1,fz zz.2.2.1,ar b4 (bL kN) 29]) (fun zz=>(mV (v.ag.blocks.xs.length+1) (⟨vv v,false⟩:WV) (it.xs.map bq))=mV zz.1 (⟨⟨cv zz.2.1,zz.2.2.1.xs,zz.2.2.2.1.toNat,zz.2.2.2.2.1⟩,zz.2.2.2.2.2⟩:WV) (it.xs.map bq)∧cd (⟨⟨cv zz.2.1,zz.2.2.1.xs,zz.2.2.2.1.toNat,zz.2.2.2.2.1⟩,zz.2.2.2.2.2⟩:WV)∧zz.2.2.1.xs.length=v.at_.xs.length∧dB (cv v.ag) (cv zz.2.1)∧v.ag.blocks.xs.length<zz.1+cl (cv zz.2.1)) (fun zz=>zz.1) (v.ag.blocks.xs.length+1,kU.1,⟨kU.2,v.at_.xs⟩,v.gen,v.last,false) ⟨by rw[sg];rfl,by rw[sg];exact xB,rfl,by rw[sg];exact .bW _,by simp only;omega⟩ (Sub.cons rfl (Sub.cons rfl (Sub.cons rfl (Sub.nil _)))) (fun w hw=>ai.mem (uG (a:=(⟨kU.2,v.at_.xs⟩:Sl Int)) (ai.mem hw:Mem _ [own bP 1 kU.2 v.at_.xs,ar jE (aL (⟨⟨kU.1,⟨kU.2,v.at_.xs⟩,v.gen,v.last⟩,false⟩:aQ)) 141,fz kU.1,ar b4 (bL kN) 29] _))) ?_
   rintro⟨n,c,a,g,q,y⟩ ⟨bk,aG,bB,cV,zx⟩
   dsimp only
   simp only at bk aG bB cV zx
   have My:=wW (cv c)
   have hlc:(cv c).blocks.length=(cv v.ag).blocks.length:=cV.len
   have wX:a.xs.length≤64:=aG.nA
   have Xm: ∀x∈it.xs,0≤x.id∧x.id<a.xs.length∧x.id<64:=fun x hx=>by have:=Gy x hx;omega
   obtain⟨r,rfl⟩: ∃r,n=r+1:=⟨n -1,by omega⟩
   refine Gc ?_
   iterate 3 refine Gs ?_
   refine Gc ?_
   iterate 2 refine Gs ?_
   refine br rfl ⟨aG,ft,Xm⟩ fun lh tB=> ?_
   have hb:=Fo (l:=(it.xs.map bq)) aG
   rw[←tB]at hb
   refine Gs ?_
   refine Gc ?_
   iterate 3 refine Gs ?_
   refine Gg ?_
   refine fU rfl rfl rfl (fun hg=>cM (dP (aI hg rfl) gP) trivial) ?_
   iterate 2 refine Gg ?_
   refine Gs ?_
   refine Gc ?_
   refine av rfl (fun h2=> ?_) (fun h2=> ?_)
   ·
    replace h2:=bz h2
    have ff:(iA (⟨⟨cv c,a.xs,g.toNat,q⟩,y⟩:WV) (it.xs.map bq)).2=5∧cl (cv c)<cl (iA (⟨⟨cv c,a.xs,g.toNat,q⟩,y⟩:WV) (it.xs.map bq)).1.v.ag:=⟨h2.1,by rw[←tB];show cl (cv c)<cl (cv lh.1);omega⟩
    iterate 3 refine Gi ?_
    exact bD (x:=(r+1,c,a,g,q,y)) (r,lh.1,lh.2.1,lh.2.2.1,lh.2.2.2.1,lh.2.2.2.2) ⟨by rw[bk,mV,if_pos ff,←tB],hb.ok,hb.wR.trans bB,cV.trans hb.cx,by have:=ff.2;rw[←tB]at this;change cl (cv c)<cl (cv lh.1)at this;simp only;omega⟩ (by simp only;omega) (Sub.cons rfl (Sub.cons rfl (Sub.cons rfl (Sub.nil _)))) (fun w hw=>ai.mem hw)
   ·
    replace h2:=bz h2
    have ff: ¬((iA (⟨⟨cv c,a.xs,g.toNat,q⟩,y⟩:WV) (it.xs.map bq)).2=5∧cl (cv c)<cl (iA (⟨⟨cv c,a.xs,g.toNat,q⟩,y⟩:WV) (it.xs.map bq)).1.v.ag):=by
     rw[←tB]
     rintro⟨ga,gb⟩
     change cl (cv c)<cl (cv lh.1)at gb
     rcases h2 with h|h
     ·
      exact h ga
     ·
      omega
    have Mz:(mV (v.ag.blocks.xs.length+1) (⟨vv v,false⟩:WV) (it.xs.map bq))=iA (⟨⟨cv c,a.xs,g.toNat,q⟩,y⟩:WV) (it.xs.map bq):=by rw[bk,mV,if_neg ff]
    refine Gc ?_
    iterate 3 refine Gs ?_
    refine ah (Ry.to (v':= .agg (bL (⟨lh.1,lh.2.1,lh.2.2.1,lh.2.2.2.1⟩:bT))) (jj rfl) rfl) ?_
    iterate 3 refine Gs ?_
    refine Gc ?_
    refine au (.inl rfl) (bo rfl (cj rfl) (aq rfl)) (fun w1 hw=> ?_)
    exact⟨(lh.1,lh.2.1,lh.2.2.1,lh.2.2.2.1),by rw[hE,Mz],by rw[hE,Mz,←tB],ai.mem hw⟩
instance ahO{w0:World}{L:List aj}{v:bT}{it:Sl It}[hv:aW w0 L v][pR:aW w0 L it]:cr Tryz.prog 41 w0 L [.agg (bL v),it.sv.val] (Cp×Sl Int×UInt64×Int) (fun zz=> .tuple #[.agg (bL (⟨zz.1,zz.2.1,zz.2.2.1,zz.2.2.2⟩:bT)), .int .i64 ((fJ (vv v) (it.xs.map bq)).2)]) (fun zz=>fz zz.1::fz zz.2.1::L) (fun zz=>(⟨cv zz.1,zz.2.1.xs,zz.2.2.1.toNat,zz.2.2.2⟩:VV)=(fJ (vv v) (it.xs.map bq)).1) (dM v.ag∧v.at_.xs.length≤1000000∧it.xs.length≤1000000):=⟨fun hp w hw=>(Xl w v it (hv.h w hw) (pR.h w hw) hp).mono fun e w' ⟨x,h1,h2,h3⟩=>⟨x,h1,h2,hw.call h3⟩⟩
theorem Xn(w:World)(c:Cp)(n:Int)(hc:Deep.bh (hp w) c)(bc:dM c):Calls Tryz.prog 40 #[.agg (aE c), .int .i64 n] w fun e w'=> ∃zz:Cp×Sl Int×UInt64×Int,e= .returned (.tuple #[.agg (bL (⟨zz.1,zz.2.1,zz.2.2.1,zz.2.2.2⟩:bT)), .int .i64 ((lE (cv c) n).2)])∧((⟨cv zz.1,zz.2.1.xs,zz.2.2.1.toNat,zz.2.2.2⟩:VV)=(lE (cv c) n).1)∧Mem w [fz zz.1,fz zz.2.1] w':=by
 have jQ:cC w c:=⟨hc⟩
 have kg:dM c:=bc
 refine bf (args:=[_,_]) Tryz.func40 rfl Tryz.ntmps40 rfl ?_
 change Cw _ _ _ _ _ [(0, .agg (aE c)),(1, .int .i64 n)] []
 refine Gc ?_
 refine cq rfl fun b2=> ?_
 refine bN fun b4=> ?_
 refine Gs ?_
 refine Gc ?_
 iterate 4 refine Gs ?_
 iterate 2 refine Gg ?_
 iterate 2 refine Gs ?_
 iterate 3 refine Gg ?_
 refine ca rfl rfl rfl (fun hg=>cM (dP (aI hg rfl) gP) trivial) ?_
 refine Gg ?_
 refine Gs ?_
 refine Gc ?_
 refine av rfl (fun h0=> ?_) (fun h0=> ?_)
 ·
  replace h0:=bz h0
  have hE:(lE (cv c) n)=(⟨cv c,[],0,0⟩,1):=by
   rw[lE,if_pos]
   rintro⟨g1,g2,g3⟩
   rcases h0 with(h|h)|h
   ·
    rw[g1]at h;cases h
   ·
    omega
   ·
    change _≤jJ c.size at g3;omega
  refine Gc ?_
  refine Gs ?_
  refine br rfl (by assumption) fun lY Cd=> ?_
  refine ah (cU (v:= .agg (bL (⟨lY,⟨Sv.none,[]⟩,0,0⟩:bT))) rfl (zH lY)) ?_
  iterate 2 refine Gs ?_
  refine Gc ?_
  refine au (.inl rfl) (bo rfl (cj rfl) (aq rfl)) (fun w1 hw=> ?_)
  exact⟨(lY,⟨Sv.none,[]⟩,0,0),by rw[hE],by rw[hE,Cd];rfl,ai.mem (zI (ai.mem hw:Mem w [fz lY] _))⟩
 ·
  replace h0:=bz h0
  have hq:gC (cv c)=true∧1≤n∧n≤jJ (cv c).size:=⟨h0.1.1,by omega,by show n≤jJ c.size;omega⟩
  obtain⟨e1,e2,e3,e4⟩:=gk.1 hq.1
  have oN:=S3 (cv c).size
  have xB:cd (⟨⟨cv c,[],0,0⟩,false⟩:WV):=⟨e1,e2,e3,e4, .inl rfl,(by show(0:Nat)<_;omega),(fun n hn=>by cases hn),(by show(0:Nat)≤64;omega)⟩
  refine Gc ?_
  iterate 2 refine Gs ?_
  refine Gc ?_
  refine av rfl (fun h1=> ?_) (fun h1=> ?_)
  ·
   replace h1:=bz h1
   have hE:(lE (cv c) n)=(⟨cv c,[],0,0⟩,7):=by rw[lE,if_neg (fun h=>h hq),if_pos (show(cv c).off=true from h1)]
   refine Gc ?_
   refine Gs ?_
   refine br rfl (by assumption) fun dw mc=> ?_
   refine ah (cU (v:= .agg (bL (⟨dw,⟨Sv.none,[]⟩,0,0⟩:bT))) rfl (zH dw)) ?_
   iterate 2 refine Gs ?_
   refine Gc ?_
   refine au (.inl rfl) (bo rfl (cj rfl) (aq rfl)) (fun w1 hw=> ?_)
   exact⟨(dw,⟨Sv.none,[]⟩,0,0),by rw[hE],by rw[hE,mc];rfl,ai.mem (zI (ai.mem hw:Mem w [fz dw] _))⟩
  ·
   replace h1:=bz h1
   have A2:(lE (cv c) n)=(if(lW (cv c) n).2≠0 then(⟨(lW (cv c) n).1.v.ag,[],0,0⟩,(lW (cv c) n).2)else((lW (cv c) n).1.v,0)):=by rw[lE,if_neg (fun h=>h hq),if_neg (show ¬(cv c).off=true by rw[show(cv c).off=c.off from rfl,h1];simp)]
   refine Gc ?_
   refine Gs ?_
   refine br rfl (by assumption) fun kU sg=> ?_
   refine ah (cU (v:= .agg (bL (⟨kU,⟨Sv.none,[]⟩,0,0⟩:bT))) rfl (zH kU)) ?_
   refine ah (cU (v:= .agg (aL (⟨(⟨kU,⟨Sv.none,[]⟩,0,0⟩:bT),false⟩:aQ))) rfl (Mw _)) ?_
   refine cq rfl fun zJ=> ?_
   refine Gs ?_
   iterate 4 refine Gi ?_
   refine qB [ar zJ (aL (⟨⟨kU,⟨Sv.none,[]⟩,0,0⟩,false⟩:aQ)) 141,fz kU,fz (⟨Sv.none,[]⟩:Sl Int),ar b4 (bL kN) 29] (fun w hw=>ai.mem (zI (ai.mem hw:Mem _ [ar zJ (aL (⟨⟨kU,⟨Sv.none,[]⟩,0,0⟩,false⟩:aQ)) 141,fz kU,ar b4 (bL kN) 29] _))) ?_
   refine Gi ?_
   iterate 2 refine Gs ?_
   refine br rfl ⟨by rw[sg];exact xB,by omega,by omega⟩ fun kV MA=> ?_
   have wX:(⟨⟨cv kV.1,kV.2.1.xs,kV.2.2.1.toNat,kV.2.2.2⟩,false⟩:WV)=(lW (cv c) n).1:=by rw[MA,lW,←sg];rfl
   refine Gs ?_
   refine Gc ?_
   iterate 2 refine Gs ?_
   refine Gc ?_
   refine av rfl (fun h2=> ?_) (fun h2=> ?_)
   ·
    replace h2:=bz h2
    have hE:(lE (cv c) n)=(⟨(lW (cv c) n).1.v.ag,[],0,0⟩,(lW (cv c) n).2):=by rw[A2,if_pos (by rw[lW,←sg];exact h2)]
    refine Gc ?_
    iterate 4 refine Gs ?_
    refine ah (Ry.to (v':= .agg (aE kV.1)) (jj rfl) rfl) ?_
    refine ah (cU (v:= .agg (bL (⟨kV.1,⟨Sv.none,[]⟩,0,0⟩:bT))) rfl (zH kV.1)) ?_
    iterate 3 refine Gs ?_
    refine Gc ?_
    refine au (.inl rfl) (bo rfl (cj rfl) (aq rfl)) (fun w1 hw=> ?_)
    exact⟨(kV.1,⟨Sv.none,[]⟩,0,0),by rw[hE,lW,←sg];rfl,by rw[hE,←wX];rfl,ai.mem (zI (ai.mem hw:Mem w [fz kV.1] _))⟩
   ·
    replace h2:=bz h2
    have hE:(lE (cv c) n)=((lW (cv c) n).1.v,0):=by rw[A2,if_neg (by rw[lW,←sg];exact fun h=>h h2)]
    refine Gc ?_
    iterate 3 refine Gs ?_
    refine ah (Ry.to (v':= .agg (bL (⟨kV.1,kV.2.1,kV.2.2.1,kV.2.2.2⟩:bT))) (jj rfl) rfl) ?_
    iterate 2 refine Gs ?_
    refine Gc ?_
    refine au (.inl rfl) (bo rfl (cj rfl) (aq rfl)) (fun w1 hw=> ?_)
    exact⟨(kV.1,kV.2.1,kV.2.2.1,kV.2.2.2),by rw[hE],by rw[hE,←wX],ai.mem hw⟩
instance ahP{w0:World}{L:List aj}{c:Cp}{n:Int}[hc:aW w0 L c]:cr Tryz.prog 40 w0 L [.agg (aE c), .int .i64 n] (Cp×Sl Int×UInt64×Int) (fun zz=> .tuple #[.agg (bL (⟨zz.1,zz.2.1,zz.2.2.1,zz.2.2.2⟩:bT)), .int .i64 ((lE (cv c) n).2)]) (fun zz=>fz zz.1::fz zz.2.1::L) (fun zz=>(⟨cv zz.1,zz.2.1.xs,zz.2.2.1.toNat,zz.2.2.2⟩:VV)=(lE (cv c) n).1) (dM c):=⟨fun hp w hw=>(Xn w c n (hc.h w hw) hp).mono fun e w' ⟨x,h1,h2,h3⟩=>⟨x,h1,h2,hw.call h3⟩⟩
open Go.ay Go.Kb
theorem ahQ(w:World)(n many:Nat)(hn:n<2^64)(hm:1≤many∧many≤8):Calls Tryz.prog 156 #[.int .u64 (n:Nat), .int .i64 (many:Nat)] w fun e w'=> ∃s:Sv,e= .returned s.val∧s.Ok∧s.len=many∧Mem w [own aN 1 s (be n many)] w':=by
 refine bf (args:=[_,_]) Tryz.func156 rfl Tryz.ntmps156 rfl ?_
 change Cw _ _ _ _ _ [(0, .int .u64 (n:Nat)),(1, .int .i64 (many:Nat))] []
 refine aP ?_
 refine aZ ?_
 refine ah (bn rfl) ?_
 refine aY ?_
 refine aO ?_
 refine aP ?_
 refine aZ ?_
 refine ah (bn rfl) ?_
 refine aY ?_
 refine aO ?_
 refine aP ?_
 refine aP ?_
 refine aZ ?_
 refine ah (aF rfl) ?_
 refine ah (cz rfl rfl rfl) ?_
 refine ah (aF rfl) ?_
 refine ca rfl rfl rfl (fun hg=>(aF rfl).yl) ?_
 refine ca rfl rfl rfl (fun hg=>(cz (aI hg rfl) rfl rfl).yl) ?_
 refine ah (mf rfl rfl rfl) ?_
 refine aY ?_
 refine aO ?_
 refine av rfl (fun h0=> ?_) (fun h0=> ?_)
 ·
  exfalso;simp at h0;omega
 ·
  refine fW ?_
  refine aO ?_
  refine aP ?_
  refine aP ?_
  refine aZ ?_
  refine ah (bn rfl) ?_
  refine aY ?_
  refine aO ?_
  refine lr ?_
  refine cg (X:=Nat×Sv) (fun x=>[(0, .int .u64 (n/256^x.1:Nat)),(1, .int .i64 (many:Nat)),(6, .int .i64 (x.1:Nat)),(5,x.2.val)]) (fun x=>[own aN 1 x.2 (be n x.1)]) (fun x=>x.1≤many∧x.2.Ok∧x.2.len=x.1) (fun x=>many -x.1) (0,Sv.none) ⟨by omega,Sv.vV,rfl⟩ (Sub.cons (look_eq rfl (by simp)) (Sub.cons rfl (Sub.cons rfl (Sub.cons rfl (Sub.nil _))))) (fun w hw=>hw.dI aN 1) ?_
  rintro⟨i,s⟩ ⟨bk,aG,bB⟩
  refine aP ?_
  refine aP ?_
  refine aZ ?_
  refine ah (aF rfl) ?_
  refine ah (aF rfl) ?_
  refine ah (cz rfl rfl rfl) ?_
  refine aY ?_
  refine aO ?_
  refine av rfl (fun h1=> ?_) (fun h1=> ?_)
  ·
   simp only[decide_eq_true_eq]at h1
   refine fW ?_
   refine aO ?_
   refine aP ?_
   refine lr ?_
   refine aP ?_
   refine aZ ?_
   refine ah (aF rfl) ?_
   refine ah (yq rfl rfl rfl rfl (by decide)) ?_
   refine ah (v7 rfl rfl) ?_
   refine oK (enc:=aN) [b8 (n/256^i)] (vals:=[_]) rfl (by rw[Iq];rfl) rfl (by decide) (by decide) fun rX=> ?_
   refine ah (aF rfl) ?_
   refine lN (ys:=be n i) rfl rfl (by decide) (fun w hw=>kI Tryz.underlying38 (by decide) ((inferInstance:fG _ s _ _ _ _).holds w hw)) (by simp[hG];omega) (by simp[hG];omega) fun Xo Xp Xq=> ?_
   refine ah (bn rfl) ?_
   refine aY ?_
   refine aO ?_
   refine aZ ?_
   refine ah (aF rfl) ?_
   refine ah (P6 rfl rfl rfl rfl (Nat.lt_of_le_of_lt (Nat.div_le_self _ _) hn) (by decide)) ?_
   refine ah (bn rfl) ?_
   refine aY ?_
   refine oI ?_
   refine aO ?_
   refine aZ ?_
   refine ah (aF rfl) ?_
   refine ah (pE rfl rfl (by omega)) ?_
   refine ah (bn rfl) ?_
   refine aY ?_
   exact bD (i+1,Xo) ⟨by omega,Xp,Xq.trans (by simp[hG])⟩ (by omega) (Sub.cons (look_eq rfl (by rw[Nat.div_div_eq_div_mul,Nat.pow_succ])) (Sub.cons rfl (Sub.cons rfl (Sub.cons rfl (Sub.nil _))))) (fun w hw=>hw.sub (List.Sublist.cons_cons _ (List.nil_sublist _)))
  ·
   simp only[decide_eq_false_iff_not]at h1
   refine rA ?_
   refine lK ?_
   refine lK ?_
   refine rB ?_
   refine aO ?_
   refine aP ?_
   refine aZ ?_
   refine ah (aF rfl) ?_
   refine ah (bn rfl) ?_
   refine aY ?_
   refine aO ?_
   refine eu ?_
   refine au (.inl rfl) (kr rfl rfl) (fun w hw=> ?_)
   exact⟨s,rfl,aG,(show s.len=i from bB).trans (by omega),by rwa [show i=many by omega]at hw⟩
theorem Xr(a b:Int):oE Tryz.prog 57 [.int .i64 a, .int .i64 b] (.int .i64 (iB a b)):=⟨fun w=>by
 refine bf (args:=[_,_]) Tryz.func57 rfl Tryz.ntmps57 rfl ?_
 change Cw _ _ _ _ _ [(0, .int .i64 a),(1, .int .i64 b)] []
 refine aP ?_
 refine aZ ?_
 refine ah (bn rfl) ?_
 refine aY ?_
 refine aO ?_
 refine aP ?_
 refine aP ?_
 refine aZ ?_
 refine ah (aF rfl) ?_
 refine ah (cz rfl rfl rfl) ?_
 refine ah (aF rfl) ?_
 refine ca rfl rfl rfl (fun hg=>(aF rfl).yl) ?_
 refine ca rfl rfl rfl (fun hg=>(cz (aI hg rfl) rfl rfl).yl) ?_
 refine ah (mf rfl rfl rfl) ?_
 refine ah (aF rfl) ?_
 refine ca rfl rfl rfl (fun hg=>(aF rfl).yl) ?_
 refine ca rfl rfl rfl (fun hg=>(cz (aI hg rfl) rfl rfl).yl) ?_
 refine ah (mf rfl rfl rfl) ?_
 refine ah (aF rfl) ?_
 refine ca rfl rfl rfl (fun hg=>(aF rfl).yl) ?_
 refine ca rfl rfl rfl (fun hg=>(cz (aI hg rfl) rfl rfl).yl) ?_
 refine ah (mf rfl rfl rfl) ?_
 refine aY ?_
 refine aO ?_
 refine av rfl (fun h0=> ?_) (fun h0=> ?_)
 ·
  simp only[Bool.or_eq_true,decide_eq_true_eq]at h0
  refine aP ?_
  refine aZ ?_
  refine ah (bn rfl) ?_
  refine aY ?_
  refine aO ?_
  refine eu ?_
  refine fj ?_
  refine au (.inl rfl) (kr rfl rfl) (fun w hw=> ?_)
  exact⟨congrArg (fun b=>Ending.returned (Value.int .i64 b)) ((if_pos (by omega)).symm),hw.sub (List.nil_sublist _)⟩
 ·
  simp only[Bool.or_eq_false_iff,decide_eq_false_iff_not]at h0
  have hq:b/20≤12:=by omega
  have zm:0≤b/20:=by omega
  have hm:a*(b/20)≤64*12:=Int.mul_le_mul (by omega) hq zm (by decide)
  have l5:0≤a*(b/20):=Int.mul_nonneg (by omega) zm
  refine fW ?_
  refine aO ?_
  refine aP ?_
  refine aZ ?_
  refine ah (aF rfl) ?_
  refine ah (aF rfl) ?_
  refine ah (nR rfl rfl (by omega) (by omega)) ?_
  refine ah (ub rfl rfl (by omega)) ?_
  refine ah (DI rfl rfl) ?_
  refine ah (bn rfl) ?_
  refine aY ?_
  refine aO ?_
  refine eu ?_
  refine au (.inl rfl) (kr rfl rfl) (fun w hw=> ?_)
  exact⟨congrArg (fun b=>Ending.returned (Value.int .i64 b)) ((if_neg (by omega)).symm),hw.sub (List.nil_sublist _)⟩⟩
instance ahR(a b:Int):oE Tryz.prog 57 [.int .i64 a, .int .i64 b] (.int .i64 (iB a b)):=Xr a b
open Go.ay Go.Kb
def zK:Array Value:=Array.replicate 20 (.int .u8 0)
theorem qh:zK.size=20:=by simp[zK]
instance:fh Tryz.prog 197 (.agg zK):=⟨by kernel_rfl⟩
theorem MB(k:Key):(cW k).all (·.oneCell')=true:=(inferInstance:fZ (cW k) 16).one
theorem Xs(w0 w:World)(L:List aj)(s:Sv)(xs:List UInt8)(r:Rt)(hw:Mem w0 (own aN 1 s xs::L) w)(hl:xs.length≤1000000):Calls Tryz.prog 113 #[s.val, .agg (ax r)] w fun e w'=> ∃s':Sv,e= .returned s'.val∧s'.Ok∧s'.len=xs.length+20∧Mem w0 (own aN 1 s' (xs++eG r)::L) w':=by
 refine kt (args:=[_,_]) Tryz.func113 rfl Tryz.ntmps113 rfl hw ?_
 change Cw _ _ _ _ _ [(0,s.val),(1, .agg (ax r))] (own aN 1 s xs::L)
 refine aP ?_
 refine aZ ?_
 refine cq rfl fun b3=> ?_
 refine ah (bn rfl) ?_
 refine aY ?_
 refine aO ?_
 refine aP ?_
 refine aZ ?_
 refine bN fun b5=> ?_
 refine aY ?_
 refine aO ?_
 refine aP ?_
 refine aP ?_
 refine aZ ?_
 refine ah (aH (o':=0) rfl rfl) ?_
 refine ah (aH (o':=0) rfl rfl) ?_
 refine ah (bI rfl) ?_
 refine ah (cz rfl rfl rfl) ?_
 refine aY ?_
 refine aO ?_
 refine av rfl (fun h0=> ?_) (fun h0=> ?_)
 ·
  simp only[decide_eq_true_eq]at h0
  refine aZ ?_
  refine ah (ru rfl rfl (by omega) (by omega)) ?_
  refine eO rfl rfl (by simp[qh]) rfl rfl ?_
  refine aY ?_
  refine aO ?_
  refine aP ?_
  refine aZ ?_
  refine ah (aH (o':=0) rfl rfl) ?_
  refine ah (aH (o':=1) rfl rfl) ?_
  refine ah (bI rfl) ?_
  refine ah (rv rfl (wB _)) ?_
  refine ah (ru rfl rfl (by omega) (by omega)) ?_
  refine eO rfl rfl (by simp[qh]) rfl rfl ?_
  refine aY ?_
  refine aO ?_
  refine aP ?_
  refine uh 4 [] (by kernel_rfl) (by kernel_rfl) ?_
  simp only[List.take_succ_cons,List.take_zero]
  refine bm (Ib rfl rfl (by decide) (by decide)) ?_
  refine bm (aH (o':=0) rfl rfl) ?_
  refine bm (aH (o':=2) rfl rfl) ?_
  refine bm (uc rfl) ?_
  refine sB ?_
  refine sC ?_
  simp only[List.drop_succ_cons,List.drop_zero]
  refine DM (vs:=cW r.p.key) rfl rfl (by rw[gL];rfl) (fun w hw j hj=>by rw[Addr.gw,hw.cell (i:=1) rfl];exact(nX r (2+j) (by rw[gL]at hj;omega)).trans (pK r.p j)) (MB _) (by simp[gL,qh]) rfl ?_
  refine aY ?_
  refine aO ?_
  refine aP ?_
  refine aZ ?_
  refine ah (aH (o':=18) rfl rfl) ?_
  refine ah (bI rfl) ?_
  refine ah (ue (p:=r.dG.toNat) rfl rfl (Nat.lt_of_lt_of_le r.dG.toNat_lt (by decide)) (by decide)) ?_
  refine ah (v7 (n:=r.dG.toNat/256) rfl rfl) ?_
  refine ah (ru rfl rfl (by omega) (by omega)) ?_
  refine eO rfl rfl (by simp[mn,gL,qh]) rfl rfl ?_
  refine aY ?_
  refine aO ?_
  refine aP ?_
  refine aZ ?_
  refine ah (aH (o':=18) rfl rfl) ?_
  refine ah (bI rfl) ?_
  refine ah (v7 (n:=r.dG.toNat) rfl rfl) ?_
  refine ah (ru rfl rfl (by omega) (by omega)) ?_
  refine eO rfl rfl (by simp[mn,gL,qh]) rfl rfl ?_
  refine aY ?_
  refine aO ?_
  refine aP ?_
  refine aZ ?_
  refine ah (aF rfl) ?_
  refine ah (uc rfl) ?_
  refine lN (ys:=eG r) rfl rfl (by decide) (fun w hw=>kI (s:=⟨false,b5,0,20,20,none⟩) Tryz.underlying38 (by decide) (AF (JZ r (by simp[qh]) (by simp[zK,h0])) (n9 r) (by decide) w hw)) (by rw[n9];omega) (by rw[n9];omega) fun GF GG GH=> ?_
  refine ah (bn rfl) ?_
  refine aY ?_
  refine aO ?_
  refine eu ?_
  refine au (.inl rfl) (kr rfl rfl) (fun w hw=> ?_)
  exact⟨GF,rfl,GG,GH.trans (by rw[List.length_append,n9]),hw.sub (List.Sublist.cons _ (List.Sublist.cons _ (List.Sublist.refl _)))⟩
 ·
  simp only[decide_eq_false_iff_not]at h0
  refine fW ?_
  refine aO ?_
  refine aP ?_
  refine aZ ?_
  refine ah (aH (o':=0) rfl rfl) ?_
  refine ah (aH (o':=1) rfl rfl) ?_
  refine ah (bI rfl) ?_
  refine ah (rv rfl (wB _)) ?_
  refine ah (ru rfl rfl (by omega) (by omega)) ?_
  refine eO rfl rfl (by simp[qh]) rfl rfl ?_
  refine aY ?_
  refine aO ?_
  refine aP ?_
  refine uh 4 [] (by kernel_rfl) (by kernel_rfl) ?_
  simp only[List.take_succ_cons,List.take_zero]
  refine bm (Ib rfl rfl (by decide) (by decide)) ?_
  refine bm (aH (o':=0) rfl rfl) ?_
  refine bm (aH (o':=2) rfl rfl) ?_
  refine bm (uc rfl) ?_
  refine sB ?_
  refine sC ?_
  simp only[List.drop_succ_cons,List.drop_zero]
  refine DM (vs:=cW r.p.key) rfl rfl (by rw[gL];rfl) (fun w hw j hj=>by rw[Addr.gw,hw.cell (i:=1) rfl];exact(nX r (2+j) (by rw[gL]at hj;omega)).trans (pK r.p j)) (MB _) (by simp[gL,qh]) rfl ?_
  refine aY ?_
  refine aO ?_
  refine aP ?_
  refine aZ ?_
  refine ah (aH (o':=18) rfl rfl) ?_
  refine ah (bI rfl) ?_
  refine ah (ue (p:=r.dG.toNat) rfl rfl (Nat.lt_of_lt_of_le r.dG.toNat_lt (by decide)) (by decide)) ?_
  refine ah (v7 (n:=r.dG.toNat/256) rfl rfl) ?_
  refine ah (ru rfl rfl (by omega) (by omega)) ?_
  refine eO rfl rfl (by simp[mn,gL,qh]) rfl rfl ?_
  refine aY ?_
  refine aO ?_
  refine aP ?_
  refine aZ ?_
  refine ah (aH (o':=18) rfl rfl) ?_
  refine ah (bI rfl) ?_
  refine ah (v7 (n:=r.dG.toNat) rfl rfl) ?_
  refine ah (ru rfl rfl (by omega) (by omega)) ?_
  refine eO rfl rfl (by simp[mn,gL,qh]) rfl rfl ?_
  refine aY ?_
  refine aO ?_
  refine aP ?_
  refine aZ ?_
  refine ah (aF rfl) ?_
  refine ah (uc rfl) ?_
  refine lN (ys:=eG r) rfl rfl (by decide) (fun w hw=>kI (s:=⟨false,b5,0,20,20,none⟩) Tryz.underlying38 (by decide) (AF (JZ r (by simp[qh]) (by simp[zK,h0])) (n9 r) (by decide) w hw)) (by rw[n9];omega) (by rw[n9];omega) fun GF GG GH=> ?_
  refine ah (bn rfl) ?_
  refine aY ?_
  refine aO ?_
  refine eu ?_
  refine au (.inl rfl) (kr rfl rfl) (fun w hw=> ?_)
  exact⟨GF,rfl,GG,GH.trans (by rw[List.length_append,n9]),hw.sub (List.Sublist.cons _ (List.Sublist.cons _ (List.Sublist.refl _)))⟩
open Go.ay Go.Kb
theorem Xt(w:World)(s:Sv)(xs:List Rt)(hs:bV ax 19 (hp w) s xs):Calls Tryz.prog 39 #[s.val] w fun e w'=>e= .returned (.bool (dt xs))∧Mem w [] w':=by
 refine bf (args:=[_]) Tryz.func39 rfl Tryz.ntmps39 rfl ?_
 change Cw _ _ _ _ _ [(0,s.val)] []
 refine aP ?_
 refine aZ ?_
 refine ah (bn rfl) ?_
 refine aY ?_
 refine aO ?_
 refine aP ?_
 refine aP ?_
 refine aZ ?_
 refine ah (aF rfl) ?_
 refine ah (sE rfl hs.ok hs.len) ?_
 refine ah (cz rfl rfl rfl) ?_
 refine aY ?_
 refine aO ?_
 refine av rfl (fun h0=> ?_) (fun h0=> ?_)
 ·
  simp only[decide_eq_true_eq]at h0
  refine aP ?_
  refine aZ ?_
  refine ah (bn rfl) ?_
  refine aY ?_
  refine aO ?_
  refine eu ?_
  refine fj ?_
  refine au (.inl rfl) (kr rfl rfl) (fun w hw=> ?_)
  exact⟨congrArg (fun b=>Ending.returned (Value.bool b)) ((IT (by omega)).symm),hw.sub (List.nil_sublist _)⟩
 ·
  simp only[decide_eq_false_iff_not]at h0
  refine fW ?_
  refine aO ?_
  refine aP ?_
  refine aP ?_
  refine aZ ?_
  refine ah (aF rfl) ?_
  refine ah (sE rfl hs.ok hs.len) ?_
  refine ah (aF rfl) ?_
  refine aY ?_
  refine aO ?_
  refine lr ?_
  refine cg (X:=Nat) (fun i=>[(10, .int .i64 (i:Nat)),(9, .int .i64 (xs.length:Nat)),(8,s.val),(0,s.val)]) (fun i=>[]) (fun i=>i≤xs.length∧pM xs i=true) (fun i=>xs.length -i) 0 ⟨by omega,IS xs⟩ (Sub.cons rfl (Sub.cons rfl (Sub.cons rfl (Sub.cons rfl (Sub.nil _))))) (fun w hw=>hw) ?_
  rintro i ⟨bk,aG⟩
  refine aP ?_
  refine aZ ?_
  refine ah (cz rfl rfl rfl) ?_
  refine aY ?_
  refine aO ?_
  refine aP ?_
  refine av rfl (fun h1=> ?_) (fun h1=> ?_)
  ·
   simp only[decide_eq_true_eq]at h1
   have bt:i<xs.length:=by omega
   obtain⟨r,hr⟩:=get_some bt
   obtain⟨q,hq⟩:=get_some (xs:=xs) (i:=i -1) (by omega)
   refine fW ?_
   refine aO ?_
   refine aP ?_
   refine lr ?_
   refine aP ?_
   refine aZ ?_
   refine ah (aF rfl) ?_
   refine ah (lu rfl rfl rfl hs.ok (by rw[hs.len];omega)) ?_
   refine ah (AA rfl (ym hs) hr rfl) ?_
   refine bN fun b4=> ?_
   refine ah (bn rfl) ?_
   refine qt rfl rfl ?_
   refine aY ?_
   refine aO ?_
   refine aP ?_
   refine aP ?_
   refine aZ ?_
   refine ah (aH (o':=0) rfl rfl) ?_
   refine ah (jj rfl) ?_
   refine fE (vO rfl) ?_
   refine ah (iu rfl) ?_
   refine aY ?_
   refine aO ?_
   refine av rfl (fun h2=> ?_) (fun h2=> ?_)
   ·
    refine aP ?_
    refine aZ ?_
    refine ah (bn rfl) ?_
    refine aY ?_
    refine aO ?_
    refine eu ?_
    refine fj ?_
    refine mh ?_
    refine fj ?_
    refine fj ?_
    refine mh ?_
    refine fj ?_
    refine au (.inl rfl) (kr rfl rfl) (fun w hw=> ?_)
    exact⟨congrArg (fun b=>Ending.returned (Value.bool b)) ((AQ bt (IV hr (by simpa using h2))).symm),hw.sub (List.nil_sublist _)⟩
   ·
    refine fW ?_
    refine aO ?_
    refine aP ?_
    refine iF (by kernel_rfl) (by kernel_rfl) ?_
    refine bm (aF rfl) ?_
    refine bm (cz rfl rfl rfl) ?_
    refine bm (aF rfl) ?_
    refine fF rfl rfl rfl (fun hg=>(aF rfl).yl) ?_
    refine fF rfl rfl rfl (fun hg=>(aF rfl).yl) ?_
    refine fF rfl rfl rfl (fun hg=>(yd (aI hg rfl) rfl (by omega)).yl) ?_
    refine fF rfl rfl rfl (fun hg=>(lu (i:=i -1) (aI hg rfl) (aI hg rfl) (by have:=of_decide_eq_true hg;omega) hs.ok (by rw[hs.len];omega)).yl) ?_
    refine fF rfl rfl rfl (fun hg=>(aH (aI hg rfl) rfl).yl) ?_
    refine fF rfl rfl rfl (fun hg=>(Ij (j:=0) (aI hg rfl) (ym hs) hq rfl (by decide)).yl) ?_
    refine fF rfl rfl rfl (fun hg=>(aH (o':=0) rfl rfl).yl) ?_
    refine fF rfl rfl rfl (fun hg=>(jj (aI hg rfl)).yl) ?_
    refine fF rfl rfl rfl (fun hg=>vO (dP (aI hg rfl) (dP (aI hg rfl) gP))) ?_
    refine fF rfl rfl rfl (fun hg=>(iu (aI hg rfl)).yl) ?_
    refine bm (yb rfl rfl rfl) ?_
    refine vQ ?_
    refine aO ?_
    refine av rfl (fun h3=> ?_) (fun h3=> ?_)
    ·
     refine aP ?_
     refine aZ ?_
     refine ah (bn rfl) ?_
     refine aY ?_
     refine aO ?_
     refine eu ?_
     refine mh ?_
     refine fj ?_
     refine fj ?_
     refine mh ?_
     refine fj ?_
     refine au (.inl rfl) (kr rfl rfl) (fun w hw=> ?_)
     exact⟨congrArg (fun b=>Ending.returned (Value.bool b)) ((AQ bt (by rw[IW hr hq,h3];simp)).symm),hw.sub (List.nil_sublist _)⟩
    ·
     refine fW ?_
     refine oI ?_
     refine aO ?_
     refine aZ ?_
     refine ah (pE rfl rfl (by omega)) ?_
     refine ah (aF rfl) ?_
     refine aY ?_
     exact bD (i+1) ⟨by omega,by rw[D2,aG,IW hr hq,h3];simpa using h2⟩ (by omega) (Sub.cons rfl (Sub.cons rfl (Sub.cons rfl (Sub.cons rfl (Sub.nil _))))) (fun w hw=>hw.sub (List.nil_sublist _))
  ·
   simp only[decide_eq_false_iff_not]at h1
   refine rA ?_
   refine lK ?_
   refine lK ?_
   refine rB ?_
   refine aO ?_
   refine aP ?_
   refine aZ ?_
   refine ah (bn rfl) ?_
   refine aY ?_
   refine aO ?_
   refine eu ?_
   refine au (.inl rfl) (kr rfl rfl) (fun w hw=> ?_)
   exact⟨congrArg (fun b=>Ending.returned (Value.bool b)) ((IU (by omega) (by rwa [show i=xs.length by omega]at aG)).symm),hw.sub (List.nil_sublist _)⟩
theorem Xu(w:World)(s t:Sv)(xs ys:List Rt)(hs:bV ax 19 (hp w) s xs)(ht:bV ax 19 (hp w) t ys)(hb:xs.length<9223372036854775807):Calls Tryz.prog 36 #[s.val,t.val] w fun e w'=>e= .returned (.bool (decide (xs=ys)))∧Mem w [] w':=by
 refine bf (args:=[_,_]) Tryz.func36 rfl Tryz.ntmps36 rfl ?_
 change Cw _ _ _ _ _ [(0,s.val),(1,t.val)] []
 refine aP ?_
 refine aZ ?_
 refine ah (bn rfl) ?_
 refine aY ?_
 refine aO ?_
 refine aP ?_
 refine aP ?_
 refine aZ ?_
 refine ah (aF rfl) ?_
 refine ah (sE rfl hs.ok hs.len) ?_
 refine ah (aF rfl) ?_
 refine ah (sE rfl ht.ok ht.len) ?_
 refine ah (cz rfl rfl rfl) ?_
 refine aY ?_
 refine aO ?_
 refine av rfl (fun h0=> ?_) (fun h0=> ?_)
 ·
  simp only[Bool.not_eq_true',decide_eq_false_iff_not]at h0
  refine aP ?_
  refine aZ ?_
  refine ah (bn rfl) ?_
  refine aY ?_
  refine aO ?_
  refine eu ?_
  refine fj ?_
  refine au (.inl rfl) (kr rfl rfl) (fun w hw=> ?_)
  exact⟨congrArg (fun b=>Ending.returned (Value.bool b)) ((decide_eq_false (fun e=>h0 (by rw[e]))).symm),hw.sub (List.nil_sublist _)⟩
 ·
  simp only[Bool.not_eq_false',decide_eq_true_eq]at h0
  refine fW ?_
  refine aO ?_
  refine aP ?_
  refine aP ?_
  refine aZ ?_
  refine ah (bn rfl) ?_
  refine aY ?_
  refine aO ?_
  refine lr ?_
  refine cg (X:=Nat) (fun i=>[(5, .int .i64 (i:Nat)),(0,s.val),(1,t.val)]) (fun i=>[]) (fun i=>i≤xs.length∧ ∀j,j<i→xs[j]? =ys[j]?) (fun i=>xs.length -i) 0 ⟨by omega,fun j h=>by omega⟩ (Sub.cons rfl (Sub.cons rfl (Sub.cons rfl (Sub.nil _)))) (fun w hw=>hw) ?_
  rintro i ⟨bk,aG⟩
  refine aP ?_
  refine aP ?_
  refine aZ ?_
  refine ah (aF rfl) ?_
  refine ah (aF rfl) ?_
  refine ah (sE rfl hs.ok hs.len) ?_
  refine ah (cz rfl rfl rfl) ?_
  refine aY ?_
  refine aO ?_
  refine av rfl (fun h1=> ?_) (fun h1=> ?_)
  ·
   simp only[decide_eq_true_eq]at h1
   obtain⟨r,hr⟩:=get_some (xs:=xs) (i:=i) (by omega)
   obtain⟨q,hq⟩:=get_some (xs:=ys) (i:=i) (by omega)
   refine fW ?_
   refine aO ?_
   refine aP ?_
   refine lr ?_
   refine aP ?_
   refine iF (by kernel_rfl) (by kernel_rfl) ?_
   refine bm (aF rfl) ?_
   refine bm (aF rfl) ?_
   refine bm (lu rfl rfl rfl hs.ok (by rw[hs.len];omega)) ?_
   refine bm (AA rfl (ym hs) hr rfl) ?_
   refine bm (aF rfl) ?_
   refine bm (aF rfl) ?_
   refine bm (lu rfl rfl rfl ht.ok (by rw[ht.len];omega)) ?_
   refine bm (AA rfl (ym ht) hq rfl) ?_
   refine bm (H7 rfl rfl) ?_
   refine vQ ?_
   refine aO ?_
   refine av rfl (fun h2=> ?_) (fun h2=> ?_)
   ·
    refine aP ?_
    refine aZ ?_
    refine ah (bn rfl) ?_
    refine aY ?_
    refine aO ?_
    refine eu ?_
    refine mh ?_
    refine fj ?_
    refine fj ?_
    refine mh ?_
    refine fj ?_
    refine au (.inl rfl) (kr rfl rfl) (fun w hw=> ?_)
    exact⟨congrArg (fun b=>Ending.returned (Value.bool b)) ((decide_eq_false (QE hr hq (by simpa using h2))).symm),hw.sub (List.nil_sublist _)⟩
   ·
    refine fW ?_
    refine oI ?_
    refine aO ?_
    refine aZ ?_
    refine ah (aF rfl) ?_
    refine ah (pE rfl rfl (by omega)) ?_
    refine ah (bn rfl) ?_
    refine aY ?_
    exact bD (i+1) ⟨by omega,fun j hj=>if e:j=i then(by subst e;rw[hr,hq];simpa using h2)else aG j (by omega)⟩ (by omega) (Sub.cons rfl (Sub.cons rfl (Sub.cons rfl (Sub.nil _)))) (fun w hw=>hw)
  ·
   simp only[decide_eq_false_iff_not]at h1
   refine rA ?_
   refine lK ?_
   refine lK ?_
   refine rB ?_
   refine aO ?_
   refine aP ?_
   refine aZ ?_
   refine ah (bn rfl) ?_
   refine aY ?_
   refine aO ?_
   refine eu ?_
   refine au (.inl rfl) (kr rfl rfl) (fun w hw=> ?_)
   exact⟨congrArg (fun b=>Ending.returned (Value.bool b)) ((decide_eq_true (QF (by omega) (fun j hj=>aG j (by omega)))).symm),hw.sub (List.nil_sublist _)⟩
open Go.ay Go.Kb
instance ahS{w0:World}{L:List aj}{s:Sv}{ss:List Rt}[h:c6 w0 L ax 19 s ss]:cL Tryz.prog 39 w0 L [s.val] (.bool (dt ss)) True:=⟨fun _ w hw=>Xt w s ss (h.h w hw)⟩
instance ahT{w0:World}{L:List aj}{s t:Sv}{ss ts:List Rt}[h:c6 w0 L ax 19 s ss][h2:c6 w0 L ax 19 t ts]:cL Tryz.prog 36 w0 L [s.val,t.val] (.bool (decide (ss=ts))) (ss.length<9223372036854775807):=⟨fun hp w hw=>Xu w s t ss ts (h.h w hw) (h2.h w hw) hp⟩
open Go.ay Go.Kb
instance:bx c5 18:=⟨nW,fun p=>(inferInstance:fZ (c5 p) 18).one⟩
theorem Xv(w:World)(b2 b3:Nat)(s:Sv)(ss:List Rt)(q:cR)(j:Nat)(h2:bV qz 1 (hp w) ⟨false,b2,0,1,1,none⟩ [s])(h3:bV c5 18 (hp w) ⟨false,b3,0,1,1,none⟩ [q])(hs:bV ax 19 (hp w) s ss)(hj:j<ss.length):Calls Tryz.prog 118 #[.int .i64 (j:Nat), .pointer (some ⟨b2,0,none⟩), .pointer (some ⟨b3,0,none⟩)] w fun e w'=>e= .returned (.bool (behind ss q j))∧Mem w [] w':=by
 have g2:Gv w ⟨false,b2,0,1,1,none⟩ qz 1 [s]:=⟨h2⟩
 have g3:Gv w ⟨false,b3,0,1,1,none⟩ c5 18 [q]:=⟨h3⟩
 have gs:Gv w s ax 19 ss:=⟨hs⟩
 refine bf (args:=[_,_,_]) Tryz.func118 rfl Tryz.ntmps118 rfl ?_
 change Cw _ _ _ _ _ [(0, .int .i64 (j:Nat)),(1, .pointer (some ⟨b2,0,none⟩)),(2, .pointer (some ⟨b3,0,none⟩))] []
 refine Gc ?_
 refine Gs ?_
 refine Gc ?_
 refine iF (by kernel_rfl) (by kernel_rfl) ?_
 refine bm (bO (s:=⟨false,b2,0,1,1,none⟩) (enc:=qz) (c:=1) (xs:=[s]) (a:=s) (j:=0) (v:=s.val) rfl 0 rfl rfl (by decide)) ?_
 refine Gq ?_
 obtain⟨r,hr⟩:=get_some (xs:=ss) (i:=j) (by omega)
 refine bm (bl rfl rfl j rfl (by omega)) ?_
 refine bm (aH rfl rfl) ?_
 refine bm (Iw (j:=0) rfl j hr rfl (by decide)) ?_
 refine bm (hH (s:=⟨false,b3,0,1,1,none⟩) (enc:=c5) (c:=18) (xs:=[q]) (a:=q) rfl 0 rfl rfl) ?_
 refine ug (cM rfl trivial) ?_
 iterate 2 refine Gq ?_
 refine Gc ?_
 refine au (.inl rfl) (aM rfl (aq rfl)) (fun w1 hw=> ?_)
 exact⟨congrArg (fun b=>Ending.returned (Value.bool b)) ((by simp only[behind,hr])),ai.mem hw⟩
theorem Xw(w:World)(n:Nat)(p:Nat→Bool)(f:FuncId)[hf:aR Tryz.prog f](jP:Array Value)(hF: ∀w',Mem w [] w'→ ∀j:Nat,j<n→Calls Tryz.prog f ([Value.int .i64 (j:Nat)]++jP.toList).toArray w' fun e nM=>e= .returned (.bool (p j))∧Mem w' [] nM)(hn:n≤1000000000):Calls Tryz.prog 117 #[.int .i64 (n:Nat), .func (.func f) #[] jP] w fun e w'=>e= .returned (.int .i64 (bs p n:Nat))∧Mem w [] w':=by
 refine bf (args:=[_,_]) Tryz.func117 rfl Tryz.ntmps117 rfl ?_
 change Cw _ _ _ _ _ [(0, .int .i64 (n:Nat)),(1, .func (.func f) #[] jP)] []
 refine Gc ?_
 refine Gs ?_
 refine Gc ?_
 iterate 3 refine Gs ?_
 refine Gc ?_
 refine cg (X:=Nat×Nat) (fun zz=>[(5, .int .i64 (zz.1:Nat)),(6, .int .i64 (zz.2:Nat)),(1, .func (.func f) #[] jP)]) (fun zz=>[]) (fun zz=>zz.1≤zz.2∧zz.2≤n∧kB p (n+1) zz.1 zz.2=bs p n) (fun zz=>zz.2 -zz.1) (0,n) ⟨Nat.zero_le _,Nat.le_refl _,rfl⟩ (Sub.cons rfl (Sub.cons rfl (Sub.cons rfl (Sub.nil _)))) (fun w hw=>ai.mem hw) ?_
 rintro⟨i,j⟩ ⟨bk,aG,bB⟩
 dsimp only
 simp only at bk aG bB
 refine Gc ?_
 iterate 3 refine Gs ?_
 refine Gc ?_
 refine av rfl (fun h0=> ?_) (fun h0=> ?_)
 ·
  replace h0:=bz h0
  refine Gc ?_
  iterate 3 refine Gs ?_
  refine ah (pF (n:=i+j) rfl (by simp only[nb];omega)) ?_
  refine ah (ue (p:=i+j) rfl rfl (by simp only[nb];omega) (by omega)) ?_
  refine ah (pF (n:=(i+j)/2^1) rfl (by simp only[nb];omega)) ?_
  refine Gs ?_
  refine Gc ?_
  iterate 2 refine Gs ?_
  refine fE (Cb rfl rfl (fun w1 lJ=>hF w1 lJ ((i+j)/2) (by omega))) ?_
  refine Gs ?_
  refine Gc ?_
  refine av rfl (fun h1=> ?_) (fun h1=> ?_)
  ·
   replace h1:=bz h1
   refine Gi ?_
   iterate 3 refine Gs ?_
   iterate 2 refine Gi ?_
   exact bD (x:=(i,j)) ((i+j)/2+1,j) ⟨by first|omega|(simp only[];omega),aG,by rw[←bB,K5 (show i<j by first|omega|(simp only[];omega)) (by first|omega|(simp only[];omega)),if_neg (by rw[h1];simp)]⟩ (by simp only;omega) (Sub.cons rfl (Sub.cons rfl (Sub.cons rfl (Sub.nil _)))) (fun w hw=>ai.mem hw)
  ·
   replace h1:=bz h1
   refine Gi ?_
   iterate 2 refine Gs ?_
   iterate 2 refine Gi ?_
   exact bD (x:=(i,j)) (i,(i+j)/2) ⟨by first|omega|(simp only[];omega),by first|omega|(simp only[];omega),by rw[←bB,K5 (show i<j by first|omega|(simp only[];omega)) (by first|omega|(simp only[];omega)),if_pos h1]⟩ (by simp only;omega) (Sub.cons rfl (Sub.cons rfl (Sub.cons rfl (Sub.nil _)))) (fun w hw=>ai.mem hw)
 ·
  replace h0:=bz h0
  refine Gc ?_
  iterate 2 refine Gs ?_
  refine Gc ?_
  refine au (.inl rfl) (aM rfl (aq rfl)) (fun w1 hw=> ?_)
  exact⟨congrArg (fun b=>Ending.returned (Value.int .i64 b)) ((by rw[←bB,Tw (by omega) (by omega)])),ai.mem hw⟩
theorem Xx(w:World)(t:Sv)(ts:List Rt)(p:cR)(ht:bV ax 19 (hp w) t ts)(bc:ts.length≤1000000):Calls Tryz.prog 80 #[t.val, .agg (c5 p)] w fun e w'=>e= .returned (.tuple #[.int .i64 ((cO ts p:Nat):Int), .bool (kC ts p)])∧Mem w [] w':=by
 have Cj:Gv w t ax 19 ts:=⟨ht⟩
 refine bf (args:=[_,_]) Tryz.func80 rfl Tryz.ntmps80 rfl ?_
 change Cw _ _ _ _ _ [(0,t.val),(1, .agg (c5 p))] []
 refine Gc ?_
 refine DL rfl fun b2=> ?_
 refine cq rfl fun b3=> ?_
 iterate 2 refine Gs ?_
 refine Gc ?_
 iterate 2 refine Gs ?_
 refine ah (FN (vs:=[.pointer (some ⟨b2,0,none⟩), .pointer (some ⟨b3,0,none⟩)]) rfl) ?_
 refine fE (Au (v:= .int .i64 (cO ts p:Nat)) rfl (fun w1 lJ=>Xw (f:=118) w1 ts.length (behind ts p) #[.pointer (some ⟨b2,0,none⟩), .pointer (some ⟨b3,0,none⟩)] (fun w2 eK j hj=>Xv w2 b2 b3 t ts p j ((AF (b:=b2) (cs:=t.val.cells) (enc:=qz) (xs:=[t]) (n:=1) (by rw[Sv.iQ];rfl) rfl (by decide) w1 lJ).mono eK.below) ((AF (b:=b3) (cs:=c5 p) (enc:=c5) (c:=18) (xs:=[p]) (n:=1) (by simp[aK]) rfl (by decide) w1 lJ).mono eK.below) (((inferInstance:Hd w _ t ax 19 ts).h w1 lJ).mono eK.below) hj) (by omega))) ?_
 refine Gs ?_
 refine Gc ?_
 refine iF (by kernel_rfl) (by kernel_rfl) ?_
 iterate 6 refine Gq ?_
 refine fF rfl rfl rfl (fun hg=>(Ry.yl (bI rfl))) ?_
 refine Gh ?_
 refine fF rfl rfl rfl (fun hg=>(Ry.yl (bl (aI hg rfl) (aI hg rfl) (cO ts p) rfl (by simp only[Z0,Z1,Z2,Z3,Z4,Z5,Z6,Z7,Z8,Z9]at hg;omega)))) ?_
 refine fF rfl rfl rfl (fun hg=>(Ry.yl (aH (aI hg rfl) rfl))) ?_
 refine fF rfl rfl rfl (fun hg=>(Ry.yl (Iw (j:=0) (aI hg rfl) (cO ts p) (nT (xs:=ts) (i:=(cO ts p)) (d:=jk) (by simp only[Z0,Z1,Z2,Z3,Z4,Z5,Z6,Z7,Z8,Z9]at hg;omega)) rfl (by decide)))) ?_
 refine fF rfl rfl rfl (fun hg=>(Ry.yl (fN rfl))) ?_
 refine fF rfl rfl rfl (fun hg=>(Ry.yl (H6 (aI hg rfl) (aI hg rfl)))) ?_
 iterate 3 refine Gq ?_
 refine Gc ?_
 refine au (.inl rfl) (bo rfl (aq rfl) (aq rfl)) (fun w1 hw=> ?_)
 exact⟨(by rw[Ty]),ai.mem hw⟩
instance ahU{w0:World}{L:List aj}{t:Sv}{ts:List Rt}{p:cR}[ht:c6 w0 L ax 19 t ts]:cL Tryz.prog 80 w0 L [t.val, .agg (c5 p)] (.tuple #[.int .i64 ((cO ts p:Nat):Int), .bool (kC ts p)]) (ts.length≤1000000):=⟨fun hp w hw=>Xx w t ts p (ht.h w hw) hp⟩
theorem Xy(w:World)(t:Sv)(ts:List Rt)(k:Key)(bits:Int)(ht:bV ax 19 (hp w) t ts):Calls Tryz.prog 37 #[t.val, .agg (cW k), .int .i64 bits] w fun e w'=>e= .returned (.tuple #[.agg (ax (u4 ts k bits)), .int .i64 (u5 ts k bits)])∧Mem w [] w':=by
 have Cj:Gv w t ax 19 ts:=⟨ht⟩
 refine bf (args:=[_,_,_]) Tryz.func37 rfl Tryz.ntmps37 rfl ?_
 change Cw _ _ _ _ _ [(0,t.val),(1, .agg (cW k)),(2, .int .i64 bits)] []
 refine Gc ?_
 refine cq rfl fun b4=> ?_
 refine bN fun b6=> ?_
 refine Gs ?_
 refine Gc ?_
 iterate 4 refine Gs ?_
 iterate 2 refine Gg ?_
 refine ca rfl rfl rfl (fun hg=>(Ry.yl (fN rfl))) ?_
 refine ca rfl rfl rfl (fun hg=>(Ry.yl (sA (yf (aI hg rfl) (yf (aI hg rfl) (yf (aI hg rfl) H8)))))) ?_
 refine ca rfl rfl rfl (fun hg=>cM (dP (aI hg rfl) gP) trivial) ?_
 refine ca rfl rfl rfl (fun hg=>(Ry.yl (iu (aI hg rfl)))) ?_
 refine Gs ?_
 refine Gc ?_
 refine av rfl (fun h0=> ?_) (fun h0=> ?_)
 ·
  replace h0:=bz h0
  have hk:w3 ts k bits=false:=by rw[w3];rcases h0 with h|h;rw[h];rfl;rw[h];simp
  refine Gc ?_
  refine ah (sA rfl) ?_
  iterate 2 refine Gs ?_
  refine Gc ?_
  refine au (.inl rfl) (bo rfl (cj rfl) (aq rfl)) (fun w1 hw=> ?_)
  exact⟨(by rw[u4,if_neg (by rw[hk];simp),u5,if_neg (by rw[hk];simp)]),ai.mem hw⟩
 ·
  replace h0:=bz h0
  have hr:dt ts=true:=by simpa using h0.1
  have hk:w3 ts k bits=true:=by rw[w3,hr];simpa using h0.2
  have hlen:=Bc hr
  have hb:bits=32∨bits=128:=((AP _).1 (by simpa using h0.2:cY ⟨bits,bits,k⟩=true)).1
  refine Gc ?_
  iterate 2 refine Gs ?_
  refine Gc ?_
  refine cg (X:=Int) (fun zz=>[(8, .int .i64 zz),(0,t.val),(2, .int .i64 bits),(4, .pointer (some ⟨b4,0,none⟩)),(6, .pointer (some ⟨b6,0,none⟩))]) (fun zz=>[ar b6 (ax jk) 68,ar b4 (cW k) 56]) (fun zz=> -1≤zz∧zz≤bits∧(zz<0→qW ts k bits bits.toNat=none)∧(∀m:Nat,zz=m→qW ts k bits bits.toNat=qW ts k bits m)) (fun zz=>(zz+1).toNat) bits ⟨by first|omega|(simp only[];omega),Int.le_refl _,fun h=>by first|omega|(simp only[];omega),fun m h=>by rw[h];rfl⟩ (Sub.cons rfl (Sub.cons rfl (Sub.cons rfl (Sub.cons rfl (Sub.cons rfl (Sub.nil _)))))) (fun w hw=>ai.mem hw) ?_
  rintro n ⟨tz,vf,tv,GI⟩
  refine Gc ?_
  iterate 2 refine Gs ?_
  refine Gc ?_
  refine av rfl (fun h1=> ?_) (fun h1=> ?_)
  ·
   replace h1:=bz h1
   obtain⟨m,rfl⟩: ∃m:Nat,n=(m:Int):=⟨n.toNat,by omega⟩
   refine Gc ?_
   iterate 5 refine Gs ?_
   refine ah (sA rfl) ?_
   refine bN fun b9=> ?_
   refine Gs ?_
   refine Gc ?_
   iterate 2 refine Gs ?_
   refine fE (cM rfl (by omega)) ?_
   refine Gs ?_
   refine ah (aV (v:= .int .i64 ((cO ts (⟨bits,((m:Nat):Int),(hK k ((m:Nat):Int))⟩:cR):Nat):Int)) rfl rfl) ?_
   refine ah (aV (v:= .bool (kC ts (⟨bits,((m:Nat):Int),(hK k ((m:Nat):Int))⟩:cR))) rfl rfl) ?_
   iterate 2 refine Gs ?_
   refine Gc ?_
   refine Gs ?_
   refine Gc ?_
   refine av rfl (fun h2=> ?_) (fun h2=> ?_)
   ·
    replace h2:=bz h2
    have CH: ∃r,ts[cO ts ⟨bits,m,hK k m⟩]? =some r∧wZ ts k bits m=some r:=by obtain⟨r,_,h8,_⟩:=y8 h2;exact⟨r,h8,by rw[wZ,if_pos h2,h8]⟩
    obtain⟨r,gF,zo⟩:=CH
    have GJ:qW ts k bits bits.toNat=some r:=by rw[GI m rfl];cases m with|zero=>exact zo|succ m=>rw[qW,zo]
    refine Gc ?_
    iterate 2 refine Gs ?_
    refine ah (bl rfl rfl (cO ts ⟨bits,m,hK k m⟩) (by omega) (List.getElem?_eq_some_iff.1 gF).1) ?_
    refine ah (hH rfl (cO ts ⟨bits,m,hK k m⟩) gF rfl) ?_
    iterate 2 refine Gs ?_
    refine Gc ?_
    refine au (.inl rfl) (bo rfl (cj rfl) (aq rfl)) (fun w1 hw=> ?_)
    exact⟨(by rw[u4,if_pos hk,u5,if_pos hk,GJ];rfl),ai.mem hw⟩
   ·
    replace h2:=bz h2
    have CH:wZ ts k bits m=none:=by rw[wZ,if_neg (by rw[h2];simp)]
    refine Gc ?_
    iterate 3 refine Gs ?_
    refine Gi ?_
    exact bD (x:=((m:Nat):Int)) ((m:Int) -1) ⟨by first|omega|(simp only[];omega),by first|omega|(simp only[];omega),fun h=>by obtain rfl:m=0:=(by first|omega|(simp only[];omega));rw[GI 0 rfl];exact CH,fun m2 h=>by obtain rfl:m=m2+1:=(by first|omega|(simp only[];omega));rw[GI _ rfl,qW,CH]⟩ (by first|omega|(simp only[];omega)) (Sub.cons rfl (Sub.cons rfl (Sub.cons rfl (Sub.cons rfl (Sub.cons rfl (Sub.nil _)))))) (fun w hw=>ai.mem hw)
  ·
   replace h1:=bz h1
   have rf:qW ts k bits bits.toNat=none:=tv (by omega)
   refine Gc ?_
   refine ah (sA rfl) ?_
   iterate 2 refine Gs ?_
   refine Gc ?_
   refine au (.inl rfl) (bo rfl (cj rfl) (aq rfl)) (fun w1 hw=> ?_)
   exact⟨(by rw[u4,if_pos hk,u5,if_pos hk,rf];rfl),ai.mem hw⟩
instance ahV{w0:World}{L:List aj}{t:Sv}{ts:List Rt}{k:Key}{bits:Int}[ht:c6 w0 L ax 19 t ts]:cL Tryz.prog 37 w0 L [t.val, .agg (cW k), .int .i64 bits] (.tuple #[.agg (ax (u4 ts k bits)), .int .i64 (u5 ts k bits)]) (True):=⟨fun hp w hw=>Xy w t ts k bits (ht.h w hw)⟩
open Go.ay Go.Kb
theorem Xz(w:World)(s:Sv)(ss:List Rt)(hs:bV ax 19 (hp w) s ss)(bc:ss.length≤1000000):Calls Tryz.prog 73 #[s.val] w fun e w'=> ∃zz:Sv,e= .returned (zz.val)∧(True)∧Mem w [own ax 19 zz ss] w':=by
 have vb:Gv w s ax 19 ss:=⟨hs⟩
 refine bf (args:=[_]) Tryz.func73 rfl Tryz.ntmps73 rfl ?_
 change Cw _ _ _ _ _ [(0,s.val)] []
 refine Gc ?_
 refine Gs ?_
 refine Gc ?_
 refine Gs ?_
 refine ah (rD Tryz.underlying52 rfl) ?_
 refine Gc ?_
 refine av rfl (fun h0=> ?_) (fun h0=> ?_)
 ·
  replace h0:=bz h0
  have e0:ss=[]:=List.length_eq_zero_iff.1 (by have:=hs.ok.nil h0;have:=hs.len;omega)
  refine Gc ?_
  refine Gs ?_
  refine Gc ?_
  refine au (.inl rfl) (aM rfl (aq rfl)) (fun w1 hw=> ?_)
  exact⟨Sv.none,rfl,trivial,by rw[e0];exact(ai.mem hw:Mem w [] _).dI ax 19⟩
 ·
  replace h0:=bz h0
  refine Gc ?_
  refine sL ax fun b5=> ?_
  refine Gs ?_
  refine lN (s:=⟨false,b5,0,0,0,none⟩) (ys:=ss) rfl rfl (by decide) (fun w hw=>kI (s:=s) Tryz.underlying52 (by decide) ((inferInstance:Hd _ _ s ax 19 ss).h w hw)) (by simp only[List.length_append,List.length_cons,List.length_nil];omega) (by simp only[List.length_append,List.length_cons,List.length_nil];omega) fun s7 vc tn=> ?_
  refine Gs ?_
  refine Gc ?_
  refine au (.inl rfl) (aM rfl (aq rfl)) (fun w1 hw=> ?_)
  exact⟨s7,rfl,trivial,by simpa using hw⟩
instance ahW{w0:World}{L:List aj}{s:Sv}{ss:List Rt}[hs:c6 w0 L ax 19 s ss]:cr Tryz.prog 73 w0 L [s.val] (Sv) (fun zz=>zz.val) (fun zz=>own ax 19 zz ss::L) (fun zz=>True) (ss.length≤1000000):=⟨fun hp w hw=>(Xz w s ss (hs.h w hw) hp).mono fun e w' ⟨x,h1,h2,h3⟩=>⟨x,h1,h2,hw.call h3⟩⟩
open Go.ay Go.Kb
instance:Jp Tryz.prog 141 52 4:=⟨⟨Tryz.f141,Tryz.func141,by kernel_rfl,by kernel_rfl,by kernel_rfl,by kernel_rfl⟩⟩
theorem XA(w0 w:World)(L:List aj)(s:Sv)(ss:List Rt)(n:Nat)(m:Nat)(hw:Mem w0 (own ax 19 s ss::L) w)(bc:n≤m∧m≤ss.length):Calls Tryz.prog 111 #[s.val, .int .i64 (n:Nat), .int .i64 (m:Nat)] w fun e w'=> ∃zz:Sv,e= .returned (zz.val)∧(True)∧Mem w0 (own ax 19 zz (ss.take n++ss.drop m)::L) w':=by
 obtain⟨lf,ka⟩:=bc
 refine kt (args:=[_,_,_]) Tryz.func111 rfl Tryz.ntmps111 rfl hw ?_
 change Cw _ _ _ _ _ [(0,s.val),(1, .int .i64 (n:Nat)),(2, .int .i64 (m:Nat))] (own ax 19 s ss::L)
 refine Gc ?_
 refine Gs ?_
 refine Gc ?_
 iterate 5 refine Gs ?_
 refine ah (Jn (l:=n) (h:=m) (m:=ss.length) rfl rfl rfl rfl rfl rfl rfl (by omega) (by omega) (by omega)) ?_
 refine Gc ?_
 iterate 3 refine Gs ?_
 refine Gc ?_
 refine av rfl (fun h0=> ?_) (fun h0=> ?_)
 ·
  replace h0:=bz h0
  obtain rfl:n=m:=by omega
  refine Gc ?_
  iterate 2 refine Gs ?_
  refine Gc ?_
  refine au (.inl rfl) (aM rfl (aq rfl)) (fun w1 hw=> ?_)
  exact⟨s,rfl,trivial,by rw[List.take_append_drop];exact hw⟩
 ·
  replace h0:=bz h0
  iterate 3 refine Gi ?_
  refine Qc s fun ahX=> ?_
  have bt:n<m:=by omega
  refine Jj (s:=s) inferInstance (by decide) (by omega) fun pre mid T bA uk mz gx bM nq=> ?_
  have hle:=bM.le
  have jn:=bM.bd
  have MC:(aK ax (ss.drop m)).length=(ss.length -m)*19:=by rw[gS,List.length_drop]
  have MD:(aK ax (ss.take n)).length=n*19:=by rw[gS,List.length_take];congr 1;omega
  have rV:(aK ax ss).length=ss.length*19:=gS ss
  have XB:aK ax ss=aK ax (ss.take m)++aK ax (ss.drop m):=by rw[←uE,List.take_append_drop]
  have hlm:(aK ax (ss.take m)).length=m*19:=by rw[gS,List.length_take];congr 1;omega
  obtain⟨X,hX⟩: ∃X,aK ax ss=aK ax (ss.take n)++X:=⟨aK ax (ss.drop n),by rw[←uE,List.take_append_drop]⟩
  have hXl:n*19+X.length=ss.length*19:=by rw[←rV,hX,List.length_append,MD]
  obtain⟨r1,gF⟩: ∃r:Sv,r=(⟨false,s.b,s.o,n+(ss.length -m),s.cap,none⟩:Sv):=⟨_,rfl⟩
  refine Gi ?_
  refine Gs ?_
  refine ah (sE rfl bM nq) ?_
  refine Gs ?_
  iterate 3 refine Gi ?_
  refine uh 6 [] (by kernel_rfl) (by kernel_rfl) ?_
  simp only[List.take_succ_cons,List.take_zero]
  iterate 2 refine Gq ?_
  have LS:Rg 0 n ss.length:=⟨by omega⟩
  refine bm (sF (h:=n) rfl rfl rfl bM (by omega)) ?_
  iterate 2 refine Gq ?_
  have VQ:Rg m ss.length ss.length:=⟨by omega⟩
  refine bm (qx (l:=m) (n:=ss.length) rfl rfl rfl bM nq (by omega)) ?_
  refine sB ?_
  refine sC ?_
  simp only[List.drop_succ_cons,List.drop_zero]
  refine Rj (D:=s.sub 19 0 n) (S:=s.sub 19 m ss.length) (b:=s.b) (o:=s.o+n*19) (n:=ss.length -m) (vs:=aK ax (ss.drop m)) (R:=r1) (cs':=(pre++(aK ax (ss.take n)++(aK ax (ss.drop m)++(X++mid).drop (aK ax (ss.drop m)).length))).toArray) rfl rfl mz gx rfl (by rw[Sv.yM];rfl) mz gx rfl rfl MC (by show n -0+_≤s.cap -0;omega) (fun w hw j v hj=>by
   have jf:=(List.getElem?_eq_some_iff.1 hj).1
   rw[MC]at jf
   rw[Sv.sQ (by omega)]
   show w.cell? ⟨s.b,_,none⟩=_
   rw[hw.cell (inferInstance:Has _ s.b _ _ _).h,List.getElem?_toArray,List.getElem?_append_right (by omega),List.getElem?_append_left (by omega),XB,List.getElem?_append_right (by omega),←hj]
   congr 1;omega) (sG _) (by simp only[List.size_toArray,List.length_append];omega) (by rw[hX,List.append_assoc,←List.append_assoc pre,wo (by rw[List.length_append];omega),List.append_assoc]) (by rw[gF,Sv.yM];rfl) ?_
  refine Gs ?_
  refine Gc ?_
  iterate 2 refine Gs ?_
  refine ah (sE (n:=n+(ss.length -m)) (s:=r1) rfl (by rw[gF];exact⟨(fun h=>by cases h),by simp only;omega,by simp only;omega,fun _=>rfl⟩) (by rw[gF])) ?_
  refine Gs ?_
  refine ah (AB (s:=r1) (l:=n+(ss.length -m)) (h:=ss.length) rfl rfl rfl rfl rfl (by rw[gF];exact⟨(fun h=>by cases h),by simp only;omega,by simp only;omega,fun _=>rfl⟩) (by omega) (by rw[gF];simp only;omega)) ?_
  refine Rl (D:=r1.sub 19 (n+(ss.length -m)) ss.length) (b:=s.b) (o:=s.o+(n+(ss.length -m))*19) (n:=m -n) (z:= .agg (ax jk)) rfl (by rw[gF];rfl) (by rw[gF];rfl) (by rw[gF];rfl) (by rw[gF,Sv.sQ (by show _<s.cap;omega)]) (by show ss.length -(n+(ss.length -m))=_;omega) (by omega) (show(ax jk).all (·.oneCell')=true from(inferInstance:bx ax 19).one jk) (by simp only[List.size_toArray,List.length_append,List.length_drop];omega) fun Z hZ=> ?_
  refine Gc ?_
  iterate 2 refine Gs ?_
  refine Gc ?_
  refine au (.inl rfl) (aM rfl (aq rfl)) (fun w1 hw=> ?_)
  refine⟨r1,rfl,trivial,?_⟩
  rw[show(pre++(aK ax (ss.take n)++(aK ax (ss.drop m)++(X++mid).drop (aK ax (ss.drop m)).length)))=(pre++(aK ax (ss.take n)++aK ax (ss.drop m)))++(X++mid).drop (aK ax (ss.drop m)).length from by simp only[List.append_assoc],wo (A:=pre++(aK ax (ss.take n)++aK ax (ss.drop m))) (by simp only[List.length_append];omega),←uE,List.append_assoc pre]at hw
  have eK:=Es (enc:=ax) (i:=0) (xs:=ss.take n++ss.drop m) (pre:=pre) hw rfl r1 (by rw[gF];exact⟨(fun h=>by cases h),by simp only;omega,by simp only;omega,fun _=>rfl⟩) (by rw[gF]) (by rw[gF]) (by rw[gF]) (by rw[gF];exact bA.symm) (by rw[gF];simp only[List.length_append,List.length_take,List.length_drop];omega) (by rw[gF];simp only[List.length_append,List.length_take,List.length_drop];omega)
  exact eK
instance ahY{w0:World}{L R:List aj}{i:Nat}{s:Sv}{ss:List Rt}{n:Nat}{m:Nat}[q:fG L s ax 19 ss i][d:dr L i R]:cr Tryz.prog 111 w0 L [s.val, .int .i64 (n:Nat), .int .i64 (m:Nat)] (Sv) (fun zz=>zz.val) (fun zz=>own ax 19 zz (ss.take n++ss.drop m)::R) (fun zz=>True) (n≤m∧m≤ss.length):=⟨fun hp w hw=>XA w0 w R s ss n m (FM q.h d.h hw) hp⟩
theorem XC(w0 w:World)(L:List aj)(s:Sv)(ss:List Rt)(v:Sv)(r:Rt)(n:Nat)(hw:Mem w0 (own ax 19 s ss::own ax 19 v [r]::L) w)(bc:n≤ss.length∧ss.length≤1000000):Calls Tryz.prog 112 #[s.val, .int .i64 (n:Nat),v.val] w fun e w'=> ∃zz:Sv,e= .returned (zz.val)∧(True)∧Mem w0 (own ax 19 zz (ss.take n++r::ss.drop n)::L) w':=by
 obtain⟨lf,ka⟩:=bc
 refine kt (args:=[_,_,_]) Tryz.func112 rfl Tryz.ntmps112 rfl hw ?_
 change Cw _ _ _ _ _ [(0,s.val),(1, .int .i64 (n:Nat)),(2,v.val)] (own ax 19 s ss::own ax 19 v [r]::L)
 refine Gc ?_
 refine Gs ?_
 refine Gc ?_
 iterate 2 refine Gs ?_
 have XD:Rg n ss.length ss.length:=⟨by omega⟩
 refine ah (AH rfl rfl n rfl XD.h.1) ?_
 refine Gc ?_
 refine Gs ?_
 refine ah (Ry.to (v':= .int .i64 (1:Nat)) (kZ rfl) rfl) ?_
 refine Gs ?_
 refine Gc ?_
 iterate 2 refine Gs ?_
 refine Gc ?_
 refine av rfl (fun h0=> ?_) (fun h0=> ?_)
 ·
  replace h0:=bz h0
  exfalso;omega
 ·
  replace h0:=bz h0
  refine Gc ?_
  iterate 3 refine Gs ?_
  refine Gc ?_
  iterate 3 refine Gs ?_
  refine Gc ?_
  refine av rfl (fun h1=> ?_) (fun h1=> ?_)
  ·
   replace h1:=bz h1
   refine Gc ?_
   iterate 2 refine Gs ?_
   refine lN (s:=s) (ys:=[r]) rfl rfl (by decide) (fun w hw=>kI (s:=v) Tryz.underlying52 (by decide) ((inferInstance:Hd _ _ v ax 19 [r]).h w hw)) (by simp only[List.length_cons,List.length_nil];omega) (by simp only[List.length_cons,List.length_nil];omega) fun XE ahZ ah0=> ?_
   refine Gs ?_
   refine Gc ?_
   refine au (.inl rfl) (aM rfl (aq rfl)) (fun w1 hw=> ?_)
   exact⟨XE,rfl,trivial,by rw[List.take_of_length_le (by omega),List.drop_of_length_le (by omega)];exact ai.mem hw⟩
  ·
   replace h1:=bz h1
   iterate 4 refine Gi ?_
   have bt:n<ss.length:=by omega
   refine A5 (s:=v) (enc:=ax) inferInstance (by simp) fun ME vJ ah1 xo=> ?_
   have MF:v.len=1:=xo
   refine Jj (s:=s) inferInstance (by decide) (by omega) fun pre mid T bA uk mz gx bM nq=> ?_
   have hle:=bM.le
   have jn:=bM.bd
   obtain⟨x,hx⟩:=get_some (xs:=ss) (i:=n) (by omega)
   have hA:(aK ax (ss.take n)).length=n*19:=by rw[gS,List.length_take];congr 1;omega
   have hB:(aK ax (ss.drop n)).length=(ss.length -n)*19:=by rw[gS,List.length_drop]
   have nK:(aK ax [r]).length=19:=by rw[gS];rfl
   have GK:(aK ax [x]).length=19:=by rw[gS];rfl
   have CI:aK ax ss=(aK ax (ss.take n))++(aK ax (ss.drop n)):=by rw[←uE,List.take_append_drop]
   have MG:(aK ax (ss.drop n))=(aK ax [x])++(aK ax (ss.drop (n+1))):=by rw[←uE,List.drop_eq_getElem_cons bt,show ss[n]=x from(List.getElem?_eq_some_iff.1 hx).2];rfl
   have rV:(aK ax ss).length=ss.length*19:=gS ss
   have Cr:aK ax (ss.take n++r::ss.drop n)=(aK ax (ss.take n))++((aK ax [r])++(aK ax (ss.drop n))):=by rw[uE,←uE [r]];rfl
   have CJ:(ss.take n++r::ss.drop n).length=ss.length+1:=by simp only[List.length_append,List.length_take,List.length_cons,List.length_drop];omega
   have gK: ∀(w1:World) L',Mem w0 (ar s.b (pre++(aK ax ss++mid)).toArray T::L') w1→ ∀j u,(aK ax ss)[j]? =some u→w1.cell? ⟨s.b,s.o+j,none⟩=some u:=fun w1 L' lJ j u hj=>Re lJ bA hj
   refine Gi ?_
   iterate 4 refine Gs ?_
   refine ah (Rn (n:=s.cap) rfl mz rfl) ?_
   refine Gs ?_
   refine Gc ?_
   refine av rfl (fun h2=> ?_) (fun h2=> ?_)
   ·
    replace h2:=bz h2
    refine Gc ?_
    iterate 2 refine Gs ?_
    refine ah (sF (h:=n) rfl rfl rfl bM (by omega)) ?_
    iterate 5 refine Gs ?_
    refine Rk (D:=s.sub 19 0 n) (k:=ss.length+1 -n) (p:=n) (m:=ss.length+1) (olds:=(aK ax (ss.take n))) rfl (by omega) rfl rfl (by omega) (by omega) mz gx (by decide) Tryz.underlying3 hA (fun w hw j u hj=>by
     have jf:=(List.getElem?_eq_some_iff.1 hj).1
     rw[Sv.yM]
     exact gK w _ hw j u (by rw[CI,List.getElem?_append_left jf];exact hj)) (by show s.cap -0<n -0+_;omega) (by show(n -0+_)*_≤_;omega) (by show n -0+_≤_;omega) fun tG tH zL ah2 ah3=> ?_
    refine Gs ?_
    refine Gc ?_
    iterate 2 refine Gs ?_
    refine ah (qx (s:=(⟨false,tG,0,ss.length+1,tH,none⟩:Sv)) (l:=n) (n:=ss.length+1) rfl rfl rfl ⟨(fun h=>by cases h),by simp only;omega,by simp only;omega,fun _=>rfl⟩ rfl (by omega)) ?_
    refine Gs ?_
    refine A6 (D:=(⟨false,tG,0,ss.length+1,tH,none⟩:Sv).sub 19 n (ss.length+1)) (S:=v) (b:=tG) (o:=n*19) (n:=1) (vs:=(aK ax [r])) (cs':=((aK ax (ss.take n))++((aK ax [r])++zL.drop 19)).toArray) rfl rfl rfl rfl rfl (by rw[Sv.sQ (by show n<tH;omega)];exact Nat.zero_add _) ME vJ (by rw[MF];exact Er (b:=ss.length+1 -n) (by omega)) (by rw[nK]) (fun w hw j u hj=>Jk (enc:=ax) (xs:=[r]) (by decide) inferInstance hw hj) (sG _) (by simp only[List.size_toArray,List.length_append];omega) (by rw[wo (A:=(aK ax (ss.take n))) hA.symm,nK]) ?_
    iterate 3 refine Gi ?_
    refine uh 8 [] (by kernel_rfl) (by kernel_rfl) ?_
    simp only[List.take_succ_cons,List.take_zero]
    iterate 4 refine Gq ?_
    refine bm (qx (s:=(⟨false,tG,0,ss.length+1,tH,none⟩:Sv)) (l:=n+1) (n:=ss.length+1) rfl rfl rfl ⟨(fun h=>by cases h),by simp only;omega,by simp only;omega,fun _=>rfl⟩ rfl (by omega)) ?_
    iterate 2 refine Gq ?_
    refine bm (qx (l:=n) (n:=ss.length) rfl rfl rfl bM nq (by omega)) ?_
    refine sB ?_
    refine sC ?_
    simp only[List.drop_succ_cons,List.drop_zero]
    refine A6 (D:=(⟨false,tG,0,ss.length+1,tH,none⟩:Sv).sub 19 (n+1) (ss.length+1)) (S:=s.sub 19 n ss.length) (b:=tG) (o:=(n+1)*19) (n:=ss.length -n) (vs:=(aK ax (ss.drop n))) (cs':=(((aK ax (ss.take n))++(aK ax [r]))++((aK ax (ss.drop n))++(zL.drop 19).drop (aK ax (ss.drop n)).length)).toArray) rfl rfl rfl rfl rfl (by rw[Sv.sQ (by show n+1<tH;omega)];exact Nat.zero_add _) mz gx (Er (a:=ss.length -n) (b:=ss.length+1 -(n+1)) (by omega)) hB (fun w hw j u hj=>by
     rw[Sv.sQ (by omega),Nat.add_assoc]
     exact gK w _ (hw.sub (by first|exact List.Sublist.refl _|exact List.sublist_cons_self _ _)) (n*19+j) u (by rw[CI,List.getElem?_append_right (by omega),hA,Nat.add_sub_cancel_left];exact hj)) (sG _) (by simp only[List.size_toArray,List.length_append,List.length_drop];omega) (by rw[←List.append_assoc,wo (A:=(aK ax (ss.take n))++(aK ax [r])) (by rw[List.length_append,hA,nK];omega)]) ?_
    refine Gc ?_
    iterate 2 refine Gs ?_
    refine Gc ?_
    refine au (.inl rfl) (aM rfl (aq rfl)) (fun w1 hw=> ?_)
    refine⟨(⟨false,tG,0,ss.length+1,tH,none⟩:Sv),rfl,trivial,?_⟩
    rw[show((aK ax (ss.take n))++(aK ax [r]))++((aK ax (ss.drop n))++(zL.drop 19).drop (aK ax (ss.drop n)).length)=[]++(aK ax (ss.take n++r::ss.drop n)++(zL.drop 19).drop (aK ax (ss.drop n)).length)from by rw[Cr];simp only[List.append_assoc,List.nil_append]]at hw
    have eK:=Es (enc:=ax) (i:=0) (xs:=ss.take n++r::ss.drop n) (pre:=[]) (mid:=(zL.drop 19).drop (aK ax (ss.drop n)).length) hw rfl (⟨false,tG,0,ss.length+1,tH,none⟩:Sv) ⟨(fun h=>by cases h),by simp only;omega,by simp only;omega,fun _=>rfl⟩ rfl rfl rfl rfl (by rw[CJ]) (by rw[CJ];simp only[List.length_nil,List.length_drop];omega)
    rw[List.set_cons_zero]at eK
    exact ai.mem eK
   ·
    replace h2:=bz h2
    obtain⟨s1,fS⟩: ∃z:Sv,z=⟨false,s.b,s.o,ss.length+1,s.cap,none⟩:=⟨_,rfl⟩
    refine Gc ?_
    iterate 4 refine Gs ?_
    refine ah (Ry.to (v':=s1.val) (sF (h:=ss.length+1) rfl rfl rfl bM (by omega)) (by rw[fS,Sv.sub_eq mz gx])) ?_
    refine Gs ?_
    refine Gc ?_
    iterate 5 refine Gs ?_
    refine ah (qx (s:=s1) (l:=n+1) (n:=ss.length+1) rfl rfl rfl (by rw[fS];exact⟨(fun h=>by cases h),by simp only;omega,by simp only;omega,fun _=>rfl⟩) (by rw[fS]) (by omega)) ?_
    refine ah (Ro (V:=v) (D:=s1.sub 19 (n+1) (ss.length+1)) (b:=s.b) (xs:=[r]) rfl rfl (by decide) (by simp) (by rw[fS];rfl) (by rw[fS];rfl) (by rw[fS];rfl) (by simp only[List.size_toArray,List.length_append];omega)) ?_
    refine Gs ?_
    refine Gc ?_
    refine av rfl (fun h3=> ?_) (fun h3=> ?_)
    ·
     replace h3:=bz h3
     refine Gi ?_
     refine uh 8 [] (by kernel_rfl) (by kernel_rfl) ?_
     simp only[List.take_succ_cons,List.take_zero]
     iterate 4 refine Gq ?_
     refine bm (qx (s:=s1) (l:=n+1) (n:=ss.length+1) rfl rfl rfl (by rw[fS];exact⟨(fun h=>by cases h),by simp only;omega,by simp only;omega,fun _=>rfl⟩) (by rw[fS]) (by omega)) ?_
     iterate 2 refine Gq ?_
     refine bm (qx (s:=s1) (l:=n) (n:=ss.length+1) rfl rfl rfl (by rw[fS];exact⟨(fun h=>by cases h),by simp only;omega,by simp only;omega,fun _=>rfl⟩) (by rw[fS]) (by omega)) ?_
     refine sB ?_
     refine sC ?_
     simp only[List.drop_succ_cons,List.drop_zero]
     refine A6 (D:=s1.sub 19 (n+1) (ss.length+1)) (S:=s1.sub 19 n (ss.length+1)) (b:=s.b) (o:=s.o+(n+1)*19) (n:=ss.length -n) (vs:=(aK ax (ss.drop n))) (cs':=(pre++((aK ax (ss.take n))++((aK ax [x])++((aK ax (ss.drop n))++((aK ax (ss.drop (n+1)))++mid).drop (aK ax (ss.drop n)).length)))).toArray) rfl rfl (by rw[fS];rfl) (by rw[fS];rfl) (by rw[fS];rfl) (by rw[fS,Sv.sQ (by show _<s.cap;omega)]) (by rw[fS];rfl) (by rw[fS];rfl) (by rw[show ss.length -n=ss.length+1 -(n+1)from by omega];exact Rc (a:=ss.length+1 -n) (by omega)) hB (fun w hw j u hj=>by
      rw[fS,Sv.sQ (by show _<s.cap;omega),Nat.add_assoc]
      exact gK w _ hw (n*19+j) u (by rw[CI,List.getElem?_append_right (by omega),hA,Nat.add_sub_cancel_left];exact hj)) (sG _) (by simp only[List.size_toArray,List.length_append];omega) (by
      rw[CI,show pre++(((aK ax (ss.take n))++(aK ax (ss.drop n)))++mid)=(pre++((aK ax (ss.take n))++(aK ax [x])))++((aK ax (ss.drop (n+1)))++mid)from by rw[MG];simp only[List.append_assoc],wo (A:=pre++((aK ax (ss.take n))++(aK ax [x]))) (by simp only[List.length_append];omega)];simp only[List.append_assoc]) ?_
     refine Gc ?_
     iterate 2 refine Gs ?_
     refine ah (qx (s:=s1) (l:=n) (n:=ss.length+1) rfl rfl rfl (by rw[fS];exact⟨(fun h=>by cases h),by simp only;omega,by simp only;omega,fun _=>rfl⟩) (by rw[fS]) (by omega)) ?_
     refine Gs ?_
     refine A6 (D:=s1.sub 19 n (ss.length+1)) (S:=v) (b:=s.b) (o:=s.o+n*19) (n:=1) (vs:=(aK ax [r])) (cs':=(pre++((aK ax (ss.take n))++((aK ax [r])++((aK ax (ss.drop n))++((aK ax (ss.drop (n+1)))++mid).drop (aK ax (ss.drop n)).length)))).toArray) rfl rfl (by rw[fS];rfl) (by rw[fS];rfl) (by rw[fS];rfl) (by rw[fS,Sv.sQ (by show _<s.cap;omega)]) ME vJ (by rw[MF];exact Er (b:=ss.length+1 -n) (by omega)) (by rw[nK]) (fun w hw j u hj=>Jk (enc:=ax) (xs:=[r]) (by decide) inferInstance hw hj) (sG _) (by simp only[List.size_toArray,List.length_append];omega) (by
      rw[←List.append_assoc pre,wo (A:=pre++(aK ax (ss.take n))) (by rw[List.length_append];omega),nK,←GK,List.drop_left,List.append_assoc]) ?_
     refine Gc ?_
     iterate 2 refine Gs ?_
     refine Gc ?_
     refine au (.inl rfl) (aM rfl (aq rfl)) (fun w1 hw=> ?_)
     refine⟨s1,rfl,trivial,?_⟩
     rw[show pre++((aK ax (ss.take n))++((aK ax [r])++((aK ax (ss.drop n))++((aK ax (ss.drop (n+1)))++mid).drop (aK ax (ss.drop n)).length)))=pre++(aK ax (ss.take n++r::ss.drop n)++((aK ax (ss.drop (n+1)))++mid).drop (aK ax (ss.drop n)).length)from by rw[Cr];simp only[List.append_assoc]]at hw
     have eK:=Es (enc:=ax) (i:=0) (xs:=ss.take n++r::ss.drop n) (pre:=pre) (mid:=((aK ax (ss.drop (n+1)))++mid).drop (aK ax (ss.drop n)).length) hw rfl s1 (by rw[fS];exact⟨(fun h=>by cases h),by simp only;omega,by simp only;omega,fun _=>rfl⟩) (by rw[fS]) (by rw[fS]) (by rw[fS]) (by rw[fS];exact bA.symm) (by rw[fS,CJ]) (by rw[fS,CJ];have:=congrArg List.length MG;simp only[List.length_append,List.length_drop]at this⊢;omega)
     rw[List.set_cons_zero]at eK
     exact ai.mem eK
    ·
     exfalso;simp at h3
instance ah4{w0:World}{L R1 L2:List aj}{i j:Nat}{s:Sv}{ss:List Rt}{v:Sv}{r:Rt}{n:Nat}[h:fG L s ax 19 ss i][d1:dr L i R1][q:fG R1 v ax 19 [r] j][d2:dr R1 j L2]:cr Tryz.prog 112 w0 L [s.val, .int .i64 (n:Nat),v.val] (Sv) (fun zz=>zz.val) (fun zz=>own ax 19 zz (ss.take n++r::ss.drop n)::L2) (fun zz=>True) (n≤ss.length∧ss.length≤1000000):=⟨fun hp w hw=>XC w0 w L2 s ss v r n (rW h.h d1.h q.h d2.h hw) hp⟩
open Go.ay Go.Kb
instance:bx fQ 20:=⟨La,fun x=>by
 have h:(ax x.r).all (·.oneCell')=true:=bx.one x.r
 rw[fQ,Array.all_append,h];simp[Value.oneCell']⟩
instance:Deep Ch:=Deep.flat fQ 20
instance:fO Ch fQ 20:=⟨rfl,fun _=>rfl⟩
instance (x:Ch):fZ (fQ x) 20:=⟨La x,bx.one x⟩
instance (x:Ch):nQ (fQ x) 0 19 (ax x.r):=⟨ku _,fun j hj=>by rw[Nat.zero_add];exact Lb x j hj⟩
instance (x:Ch):nQ (fQ x) 0 18 (c5 x.r.p):=⟨nW _,fun j hj=>by rw[Nat.zero_add];exact(Lb x j (by omega)).trans (nX x.r j hj)⟩
instance (x:Ch):cn (fQ x) 19 (.bool x.gone):=⟨TE x⟩
instance (r:Rt):yg Tryz.prog 91 [(0, .agg (ax r))] (.agg (fQ ⟨r,false⟩)):=⟨fun w=>by kernel_rfl⟩
instance:fh Tryz.prog 91 (.agg (fQ K9)):=⟨by unfold fQ ax c5 K9 jk;rw[y9];kernel_rfl⟩
theorem XF{cs vs:Array Value}(h:cs.size=vs.size):cQ cs 0 vs=vs:=by
 unfold cQ;apply Array.ext';simp[←h]
theorem XG(w0 w:World)(L:List aj)(t:Sv)(ts:List Rt)(g:Ch)(hw:Mem w0 (own ax 19 t ts::L) w)(bc:ts.length≤1000):Calls Tryz.prog 74 #[t.val, .agg (fQ g)] w fun e w'=> ∃zz:Sv,e= .returned (.tuple #[zz.val, .int .i64 (fo ts g)])∧(True)∧Mem w0 (own ax 19 zz (jy ts g)::L) w':=by
 have MH:=K7 ts g.r.p
 refine kt (args:=[_,_]) Tryz.func74 rfl Tryz.ntmps74 rfl hw ?_
 change Cw _ _ _ _ _ [(0,t.val),(1, .agg (fQ g))] (own ax 19 t ts::L)
 refine Gc ?_
 refine cq rfl fun b3=> ?_
 iterate 2 refine Gs ?_
 refine Gc ?_
 iterate 2 refine Gs ?_
 refine ah (jj rfl) ?_
 iterate 2 refine Gs ?_
 refine Gc ?_
 refine av rfl (fun h0=> ?_) (fun h0=> ?_)
 ·
  replace h0:=bz h0
  have hm:cY g.r.p=false:=h0
  have he:fo ts g=1:=by rw[fo,if_neg (by rw[hm];simp)]
  refine Gc ?_
  iterate 3 refine Gs ?_
  refine Gc ?_
  refine au (.inl rfl) (bo rfl (aq rfl) (aq rfl)) (fun w1 hw=> ?_)
  exact⟨t,by rw[he],trivial,by rw[jy,if_neg (by rw[he];decide)];exact ai.mem hw⟩
 ·
  replace h0:=bz h0
  have hm:cY g.r.p=true:=h0
  refine Gc ?_
  iterate 3 refine Gs ?_
  refine ah (jj rfl) ?_
  refine fE (cM rfl (by omega)) ?_
  refine Gs ?_
  refine ah (aV (v:= .int .i64 ((cO ts g.r.p:Nat):Int)) rfl rfl) ?_
  refine ah (aV (v:= .bool (kC ts g.r.p)) rfl rfl) ?_
  iterate 2 refine Gs ?_
  refine Gc ?_
  iterate 3 refine Gs ?_
  refine Gg ?_
  refine fU rfl rfl rfl (fun hg=>(Ry.yl (iu (aI hg rfl)))) ?_
  iterate 2 refine Gs ?_
  refine Gc ?_
  refine av rfl (fun h1=> ?_) (fun h1=> ?_)
  ·
   replace h1:=bz h1
   have he:fo ts g=6:=by rw[fo,if_pos hm,if_neg (by rw[h1.2];simp),if_pos h1.1]
   refine Gc ?_
   iterate 3 refine Gs ?_
   refine Gc ?_
   refine au (.inl rfl) (bo rfl (aq rfl) (aq rfl)) (fun w1 hw=> ?_)
   exact⟨t,by rw[he],trivial,by rw[jy,if_neg (by rw[he];decide)];exact ai.mem hw⟩
  ·
   replace h1:=bz h1
   refine Gc ?_
   iterate 3 refine Gs ?_
   refine Gc ?_
   refine av rfl (fun h2=> ?_) (fun h2=> ?_)
   ·
    replace h2:=bz h2
    have hb:kC ts g.r.p=true:=by rcases h1 with h|h;(rw[h2]at h;cases h);exact h
    have he:fo ts g=0:=by rw[fo,if_pos hm,if_pos hb]
    have hl:jy ts g=ts.take (cO ts g.r.p)++ts.drop ((cO ts g.r.p)+1):=by rw[jy,if_pos he,if_pos h2]
    obtain⟨r0,_,nK,_⟩:=y8 hb
    have bA:=(List.getElem?_eq_some_iff.1 nK).1
    refine Gc ?_
    iterate 3 refine Gs ?_
    refine ah (Ry.to (v':= .int .i64 (((cO ts g.r.p)+1:Nat):Int)) (pE rfl rfl (by omega)) rfl) ?_
    refine br rfl ⟨by omega,by omega⟩ fun kV MA=> ?_
    iterate 2 refine Gs ?_
    refine Gc ?_
    refine au (.inl rfl) (bo rfl (aq rfl) (aq rfl)) (fun w1 hw=> ?_)
    exact⟨kV,by rw[he],trivial,by rw[hl];exact ai.mem hw⟩
   ·
    replace h2:=bz h2
    refine Gc ?_
    iterate 2 refine Gs ?_
    refine Gc ?_
    refine av rfl (fun h3=> ?_) (fun h3=> ?_)
    ·
     replace h3:=bz h3
     have hb:kC ts g.r.p=true:=h3
     have he:fo ts g=0:=by rw[fo,if_pos hm,if_pos hb]
     have hl:jy ts g=ts.set (cO ts g.r.p) g.r:=by rw[jy,if_pos he,if_neg (by rw[h2];simp),if_pos hb]
     obtain⟨r0,_,nK,_⟩:=y8 hb
     have bA:=(List.getElem?_eq_some_iff.1 nK).1
     refine Gc ?_
     iterate 3 refine Gs ?_
     refine ah (jj rfl) ?_
     refine ah (bl rfl rfl (cO ts g.r.p) rfl bA) ?_
     refine kJ (n:=19) (k:=(cO ts g.r.p)) (j:=0) (a:=r0) (a':=g.r) (xs:=ts) (enc:=ax) (c:=19) (v:= .agg (ax g.r)) (by kernel_rfl) rfl rfl rfl nK (bx.one g.r) (ku g.r) (by decide) (XF (by rw[ku];exact(ku g.r).symm)) ?_
     refine Gc ?_
     iterate 3 refine Gs ?_
     refine Gc ?_
     refine au (.inl rfl) (bo rfl (aq rfl) (aq rfl)) (fun w1 hw=> ?_)
     exact⟨t,by rw[he],trivial,by rw[hl];exact ai.mem hw⟩
    ·
     replace h3:=bz h3
     refine Gc ?_
     iterate 4 refine Gs ?_
     refine Gc ?_
     refine av rfl (fun h4=> ?_) (fun h4=> ?_)
     ·
      replace h4:=bz h4
      have he:fo ts g=5:=by rw[fo,if_pos hm,if_neg (by rw[h3];simp),if_neg (by rw[h2];simp),if_pos (by omega)]
      refine Gc ?_
      iterate 3 refine Gs ?_
      refine Gc ?_
      refine au (.inl rfl) (bo rfl (aq rfl) (aq rfl)) (fun w1 hw=> ?_)
      exact⟨t,by rw[he],trivial,by rw[jy,if_neg (by rw[he];decide)];exact ai.mem hw⟩
     ·
      replace h4:=bz h4
      have he:fo ts g=0:=by rw[fo,if_pos hm,if_neg (by rw[h3];simp),if_neg (by rw[h2];simp),if_neg (by omega)]
      have hl:jy ts g=ts.take (cO ts g.r.p)++g.r::ts.drop (cO ts g.r.p):=by rw[jy,if_pos he,if_neg (by rw[h2];simp),if_neg (by rw[h3];simp)]
      refine Gc ?_
      iterate 3 refine Gs ?_
      refine ah (jj rfl) ?_
      refine oK (enc:=ax) (vals:=[_]) [g.r] rfl rfl rfl (by decide) (by decide) fun b55=> ?_
      refine br rfl ⟨by omega,by omega⟩ fun CD Gw=> ?_
      iterate 2 refine Gs ?_
      refine Gc ?_
      refine au (.inl rfl) (bo rfl (aq rfl) (aq rfl)) (fun w1 hw=> ?_)
      exact⟨CD,by rw[he],trivial,by rw[hl];exact ai.mem hw⟩
instance ah5{w0:World}{L R:List aj}{i:Nat}{t:Sv}{ts:List Rt}{g:Ch}[q:fG L t ax 19 ts i][d:dr L i R]:cr Tryz.prog 74 w0 L [t.val, .agg (fQ g)] (Sv) (fun zz=> .tuple #[zz.val, .int .i64 (fo ts g)]) (fun zz=>own ax 19 zz (jy ts g)::R) (fun zz=>True) (ts.length≤1000):=⟨fun hp w hw=>XG w0 w R t ts g (FM q.h d.h hw) hp⟩
theorem XH(w:World)(t:Sv)(ts:List Rt)(l:Sv)(ls:List Ch)(ht:bV ax 19 (hp w) t ts)(hl:bV fQ 20 (hp w) l ls)(bc:ts.length≤1000000):Calls Tryz.prog 34 #[t.val,l.val] w fun e w'=> ∃zz:Sv,e= .returned (.tuple #[zz.val, .int .i64 (dW ts ls)])∧(True)∧Mem w [own ax 19 zz (cT ts ls)] w':=by
 have Cj:Gv w t ax 19 ts:=⟨ht⟩
 have ov:Gv w l fQ 20 ls:=⟨hl⟩
 have GL:=hl.bd
 refine bf (args:=[_,_]) Tryz.func34 rfl Tryz.ntmps34 rfl ?_
 change Cw _ _ _ _ _ [(0,t.val),(1,l.val)] []
 refine Gc ?_
 iterate 2 refine Gs ?_
 refine Gc ?_
 iterate 3 refine Gs ?_
 refine Gc ?_
 refine av rfl (fun h0=> ?_) (fun h0=> ?_)
 ·
  replace h0:=bz h0
  have he:dW ts ls=1:=if_neg (by rw[h0];simp)
  have ha:cT ts ls=ts:=by rw[cT,if_neg (by rw[he];decide)]
  refine Gc ?_
  refine Gs ?_
  refine br rfl (by omega) fun lG xu=> ?_
  iterate 2 refine Gs ?_
  refine Gc ?_
  refine au (.inl rfl) (bo rfl (aq rfl) (aq rfl)) (fun w1 hw=> ?_)
  exact⟨lG,by rw[he],trivial,by rw[ha];exact ai.mem hw⟩
 ·
  replace h0:=bz h0
  have hr:dt ts=true:=h0
  have hlen:=Bc hr
  refine Gc ?_
  refine Gs ?_
  refine br rfl (by omega) fun aD ki=> ?_
  refine Gs ?_
  refine Gc ?_
  iterate 3 refine Gs ?_
  refine Gc ?_
  refine cg (X:=Nat×Sv×List Rt) (fun zz=>[(19, .int .i64 (zz.1:Nat)),(6,zz.2.1.val),(0,t.val),(17,l.val),(18, .int .i64 (ls.length:Nat))]) (fun zz=>[own ax 19 zz.2.1 zz.2.2]) (fun zz=>zz.1≤ls.length∧kS ts ls=kS zz.2.2 (ls.drop zz.1)∧zz.2.2.length≤256) (fun zz=>ls.length -zz.1) (0,aD,ts) ⟨Nat.zero_le _,rfl,hlen⟩ (Sub.cons rfl (Sub.cons rfl (Sub.cons rfl (Sub.cons rfl (Sub.cons rfl (Sub.nil _)))))) (fun w hw=>ai.mem hw) ?_
  rintro⟨i,s1,q⟩ ⟨bk,aG,bB⟩
  dsimp only
  simp only at bk aG bB
  refine Gc ?_
  refine Gs ?_
  refine Gc ?_
  refine av rfl (fun h1=> ?_) (fun h1=> ?_)
  ·
   replace h1:=bz h1
   iterate 6 refine Gi ?_
   obtain⟨g,hg⟩:=get_some (xs:=ls) (i:=i) (by omega)
   refine ah (bl rfl rfl i rfl (by omega)) ?_
   refine ah (hH rfl i hg rfl) ?_
   refine bN fun b8=> ?_
   refine Gs ?_
   refine Gc ?_
   refine Gs ?_
   refine Gc ?_
   iterate 2 refine Gs ?_
   refine br rfl (by omega) fun kl qf=> ?_
   refine Gs ?_
   refine ah (aV (v:=kl.val) rfl rfl) ?_
   refine ah (aV (v:= .int .i64 (fo q g)) rfl rfl) ?_
   iterate 2 refine Gs ?_
   refine Gc ?_
   iterate 2 refine Gs ?_
   refine Gc ?_
   refine av rfl (fun h2=> ?_) (fun h2=> ?_)
   ·
    replace h2:=bz h2
    have MI: ¬fo q g=0:=h2
    have ef:kS ts ls=(q,fo q g):=by rw[aG,Ld hg,if_neg MI]
    have he:dW ts ls=fo q g:=by rw[dW,if_pos hr,ef]
    have ha:cT ts ls=ts:=by rw[cT,if_neg (by rw[he];exact MI)]
    refine Gc ?_
    refine Gs ?_
    refine br rfl (by omega) fun az se=> ?_
    iterate 3 refine Gs ?_
    refine Gc ?_
    refine au (.inl rfl) (bo rfl (aq rfl) (aq rfl)) (fun w1 hw=> ?_)
    exact⟨az,by rw[he],trivial,by rw[ha];exact ai.mem hw⟩
   ·
    replace h2:=bz h2
    refine Gc ?_
    iterate 2 refine Gs ?_
    refine Gi ?_
    exact bD (x:=(i,s1,q)) (i+1,kl,jy q g) ⟨by first|omega|(simp only[];omega),by rw[aG,Ld hg,if_pos h2],Lc bB g⟩ (by simp only;omega) (Sub.cons rfl (Sub.cons rfl (Sub.cons rfl (Sub.cons rfl (Sub.cons rfl (Sub.nil _)))))) (fun w hw=>ai.mem hw)
  ·
   replace h1:=bz h1
   obtain rfl:i=ls.length:=by omega
   have ef:kS ts ls=(q,0):=by rw[aG,List.drop_length];rfl
   have he:dW ts ls=0:=by rw[dW,if_pos hr,ef]
   have ha:cT ts ls=q:=by rw[cT,if_pos he,ef]
   refine Gc ?_
   iterate 3 refine Gs ?_
   refine Gc ?_
   refine au (.inl rfl) (bo rfl (aq rfl) (aq rfl)) (fun w1 hw=> ?_)
   exact⟨s1,by rw[he],trivial,by rw[ha];exact ai.mem hw⟩
instance ah6{w0:World}{L:List aj}{t:Sv}{ts:List Rt}{l:Sv}{ls:List Ch}[ht:c6 w0 L ax 19 t ts][hl:c6 w0 L fQ 20 l ls]:cr Tryz.prog 34 w0 L [t.val,l.val] (Sv) (fun zz=> .tuple #[zz.val, .int .i64 (dW ts ls)]) (fun zz=>own ax 19 zz (cT ts ls)::L) (fun zz=>True) (ts.length≤1000000):=⟨fun hp w hw=>(XH w t ts l ls (ht.h w hw) (hl.h w hw) hp).mono fun e w' ⟨x,h1,h2,h3⟩=>⟨x,h1,h2,hw.call h3⟩⟩
end Go.Proofs.YtaipiecplldinaaGreat
