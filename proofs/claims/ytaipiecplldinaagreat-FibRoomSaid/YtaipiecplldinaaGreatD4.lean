/- Part of a proof. -/
import Derived.Test.YtaipiecplldinaaGreatD3
import Derived.Test.YtaipiecplldinaaGreatD2
set_option maxRecDepth 20000
set_option linter.unusedSimpArgs false
set_option linter.unusedVariables false
namespace Go.Proofs.YtaipiecplldinaaGreat
open Go.aC Go.Kb
open Go.RowKit
theorem UH(w:World)(b:Sv)(bs:List UInt8)(hb:bQ aM 1 (hp w) b bs):Calls Tryz.prog 155 #[.int .u32 0,b.val] w fun e w'=>e= .returned (.int .u32 (lP bs:Nat))∧Mem w [] w':=by
 have vh:Gv w b aM 1 bs:=⟨hb⟩
 have iJ:=hb.bd
 refine ba (args:=[_,_]) Tryz.func155 rfl Tryz.ntmps155 rfl ?_
 change Cw _ _ _ _ _ [(0, .int .u32 0),(1,b.val)] []
 refine Gc ?_
 refine Gs ?_
 refine Gc ?_
 refine Gs ?_
 refine ag (J6 (p:=0) rfl rfl (by decide)) ?_
 refine Gs ?_
 refine Gc ?_
 iterate 3 refine Gs ?_
 refine Gc ?_
 refine ca (X:=Nat) (fun zz=>[(13, .int .i64 (zz:Nat)),(5, .int .u32 (jY 4294967295 (bs.take zz):Nat)),(11,b.val),(12, .int .i64 (bs.length:Nat))]) (fun zz=>[]) (fun zz=>zz≤bs.length) (fun zz=>bs.length -zz) 0 (Nat.zero_le _) (Sub.cons rfl (Sub.cons rfl (Sub.cons rfl (Sub.cons rfl (Sub.nil _))))) (fun w hw=>ah.mem hw) ?_
 rintro i hi
 have bp:jY 4294967295 (bs.take i)<2^32:=Bs (by decide) _
 refine Gc ?_
 refine Gs ?_
 refine Gc ?_
 refine au rfl (fun h0=> ?_) (fun h0=> ?_)
 ·
  replace h0:=bz h0
  obtain⟨y,he⟩:=get_some (xs:=bs) (i:=i) (by omega)
  have hy:=y.toNat_lt
  have dU:jY 4294967295 (bs.take i)^^^y.toNat<2^32:=Nat.xor_lt_two_pow (Bs (by decide) _) (by omega)
  refine Gc ?_
  refine ag (bg rfl rfl i rfl (by omega)) ?_
  refine ag (bL (j:=0) rfl i he rfl (by decide)) ?_
  refine Gs ?_
  refine Gc ?_
  iterate 2 refine Gs ?_
  refine ag (pS rfl (by simp only[nb];omega)) ?_
  refine ag (Iu rfl rfl rfl rfl (by simp only[nb];omega) (by simp only[nb];omega)) ?_
  refine Gs ?_
  refine Gc ?_
  refine Gs ?_
  refine Gc ?_
  refine ca (X:=Nat) (fun zz=>[(21, .int .i64 (zz:Nat)),(5, .int .u32 ((mX (jY 4294967295 (bs.take i)^^^y.toNat) zz):Nat)),(11,b.val),(12, .int .i64 (bs.length:Nat)),(13, .int .i64 (i:Nat))]) (fun zz=>[]) (fun zz=>zz≤8) (fun zz=>8 -zz) 0 (Nat.zero_le _) (Sub.cons rfl (Sub.cons rfl (Sub.cons rfl (Sub.cons rfl (Sub.cons rfl (Sub.nil _)))))) (fun w hw=>ah.mem hw) ?_
  rintro k hk
  refine Gc ?_
  refine Gs ?_
  refine Gc ?_
  refine au rfl (fun h1=> ?_) (fun h1=> ?_)
  ·
   replace h1:=bz h1
   have mn:(mX (jY 4294967295 (bs.take i)^^^y.toNat) k)<2^32:=ED dU k
   have F3:(mX (jY 4294967295 (bs.take i)^^^y.toNat) k)/2<2^32:=by omega
   refine Gc ?_
   refine Gs ?_
   refine ag (Ry.to (v':= .int .u32 (((mX (jY 4294967295 (bs.take i)^^^y.toNat) k)%2:Nat):Int)) (PM (p:=(mX (jY 4294967295 (bs.take i)^^^y.toNat) k)) (q:=1) rfl rfl rfl rfl (by simp only[nb];omega) (by decide)) (by rw[Nat.and_one_is_mod])) ?_
   refine Gs ?_
   refine Gc ?_
   refine Gs ?_
   refine ag (uw (p:=(mX (jY 4294967295 (bs.take i)^^^y.toNat) k)) rfl rfl (by simp only[nb];omega) (by omega)) ?_
   refine Gs ?_
   refine Gc ?_
   iterate 2 refine Gs ?_
   refine ag (Qg (p:=3988292384) (q:=(mX (jY 4294967295 (bs.take i)^^^y.toNat) k)%2) rfl rfl rfl rfl (by simp only[nb];omega)) ?_
   refine ag (Ry.to (v':= .int .u32 ((mX (jY 4294967295 (bs.take i)^^^y.toNat) (k+1):Nat):Int)) (Iu (p:=(mX (jY 4294967295 (bs.take i)^^^y.toNat) k)/2^1) (q:=3988292384*((mX (jY 4294967295 (bs.take i)^^^y.toNat) k)%2)) rfl rfl rfl rfl (by simp only[nb];omega) (by simp only[nb];omega)) (by rw[mX,EC];rcases Nat.mod_two_eq_zero_or_one (mX (jY 4294967295 (bs.take i)^^^y.toNat) k)with h|h<;>rw[h]<;>rfl)) ?_
   refine Gs ?_
   refine Gc ?_
   iterate 2 refine Gs ?_
   refine Gi ?_
   exact bx (x:=(k)) (k+1) (by first|omega|(simp only[];omega)) (by first|omega|(simp only[];omega)) (Sub.cons rfl (Sub.cons rfl (Sub.cons rfl (Sub.cons rfl (Sub.cons rfl (Sub.nil _)))))) (fun w hw=>ah.mem hw)
  ·
   replace h1:=bz h1
   obtain rfl:k=8:=by omega
   refine Gc ?_
   iterate 2 refine Gs ?_
   refine Gi ?_
   exact bx (x:=(i)) (i+1) (by first|omega|(simp only[];omega)) (by first|omega|(simp only[];omega)) (Sub.cons rfl (Sub.cons (look_eq rfl (by rw[RE he];rfl)) (Sub.cons rfl (Sub.cons rfl (Sub.nil _))))) (fun w hw=>ah.mem hw)
 ·
  replace h0:=bz h0
  obtain rfl:i=bs.length:=by omega
  refine Gc ?_
  refine Gs ?_
  refine ag (J6 (p:=jY 4294967295 (bs.take bs.length)) rfl rfl (Bs (by decide) _)) ?_
  refine Gs ?_
  refine Gc ?_
  refine aq (.inl rfl) (aI rfl (ak rfl)) (fun w1 hw=> ?_)
  exact⟨(by rw[List.take_length];rfl),ah.mem hw⟩
instance agq{w0:World}{L:List ai}{b:Sv}{bs:List UInt8}[hb:c0 w0 L aM 1 b bs]:cB Tryz.prog 155 w0 L [.int .u32 0,b.val] (.int .u32 (lP bs:Nat)) (True):=⟨fun hp w hw=>UH w b bs (hb.h w hw)⟩
theorem UI(w:World)(b:Sv)(bs:List UInt8)(hb:bQ aM 1 (hp w) b bs):Calls Tryz.prog 135 #[b.val] w fun e w'=>e= .returned (.int .u32 (lP bs:Nat))∧Mem w [] w':=by
 have vh:Gv w b aM 1 bs:=⟨hb⟩
 refine ba (args:=[_]) Tryz.func135 rfl Tryz.ntmps135 rfl ?_
 change Cw _ _ _ _ _ [(0,b.val)] []
 refine Gc ?_
 refine Gs ?_
 refine Gc ?_
 iterate 3 refine Gs ?_
 refine Gc ?_
 refine aq (.inl rfl) (aI rfl (ak rfl)) (fun w1 hw=> ?_)
 exact⟨rfl,ah.mem hw⟩
instance agr{w0:World}{L:List ai}{b:Sv}{bs:List UInt8}[hb:c0 w0 L aM 1 b bs]:cB Tryz.prog 135 w0 L [b.val] (.int .u32 (lP bs:Nat)) (True):=⟨fun hp w hw=>UI w b bs (hb.h w hw)⟩
theorem UJ(w:World)(n:Nat)(many:Nat)(bb:n<2^64∧1≤many∧many≤8):Calls Tryz.prog 163 #[.int .u64 (n:Nat), .int .i64 (many:Nat)] w fun e w'=> ∃zz:Sv,e= .returned (zz.val)∧(True)∧Mem w [own aM 1 zz (be n many)] w':=by
 obtain⟨kG,iK,nQ⟩:=bb
 refine ba (args:=[_,_]) Tryz.func163 rfl Tryz.ntmps163 rfl ?_
 change Cw _ _ _ _ _ [(0, .int .u64 (n:Nat)),(1, .int .i64 (many:Nat))] []
 refine Gc ?_
 refine Gs ?_
 refine Gc ?_
 iterate 3 refine Gs ?_
 iterate 2 refine Gg ?_
 refine Gs ?_
 refine Gc ?_
 refine au rfl (fun h0=> ?_) (fun h0=> ?_)
 ·
  replace h0:=bz h0
  exfalso;omega
 ·
  replace h0:=bz h0
  refine Gc ?_
  refine Gs ?_
  refine s9 (enc:=aM) (n:=many) (cap:=many) 0 rfl rfl rfl rfl rfl (by omega) (by omega) (by omega) fun Cx=> ?_
  refine Gs ?_
  refine Gc ?_
  refine Gs ?_
  refine ag (Ry.to (v':= .int .i64 (many:Nat)) (lg rfl) (by simp)) ?_
  refine Gs ?_
  refine Gc ?_
  refine ca (X:=Nat) (fun zz=>[(17, .int .i64 (zz:Nat)),(5,(⟨false,Cx,0,many,many,none⟩:Sv).val),(0, .int .u64 (n:Nat)),(1, .int .i64 (many:Nat)),(16, .int .i64 (many:Nat))]) (fun zz=>[own aM 1 ⟨false,Cx,0,many,many,none⟩ (List.replicate (many -zz) (0:UInt8)++be n zz)]) (fun zz=>zz≤many) (fun zz=>many -zz) 0 (Nat.zero_le _) (Sub.cons rfl (Sub.cons rfl (Sub.cons rfl (Sub.cons rfl (Sub.cons rfl (Sub.nil _)))))) (fun w hw=>by rw[show List.replicate (many -0) (0:UInt8)++be n 0=List.replicate many 0 from by rw[be,List.append_nil,Nat.sub_zero]];exact ah.mem hw) ?_
  rintro i hi
  have dt:=hO n i
  have BD:(List.replicate (many -i) (0:UInt8)++be n i).length=many:=by rw[List.length_append,List.length_replicate,dt];omega
  refine Gc ?_
  refine Gs ?_
  refine Gc ?_
  refine au rfl (fun h1=> ?_) (fun h1=> ?_)
  ·
   replace h1:=bz h1
   refine Gc ?_
   iterate 2 refine Gs ?_
   refine Gc ?_
   iterate 7 refine Gs ?_
   refine ag (ur rfl rfl (by omega)) ?_
   refine ag (Ry.to (v':= .int .u64 ((n/256^i:Nat):Int)) (uw (p:=n) rfl rfl (by simp only[nb];omega) (by omega)) (by rw[show(8*(i:Int)).toNat=8*i by omega,Nat.pow_mul])) ?_
   refine ag (v8 rfl rfl) ?_
   refine ag (bg rfl rfl (many -1 -i) (by omega) (by omega)) ?_
   refine Uk rfl rfl (by rw[List.getElem?_append_left (by rw[List.length_replicate];omega),List.getElem?_replicate,if_pos (by omega)]) rfl ?_
   refine Gc ?_
   iterate 2 refine Gs ?_
   refine Gi ?_
   exact bx (x:=(i)) (i+1) (by first|omega|(simp only[];omega)) (by first|omega|(simp only[];omega)) (Sub.cons rfl (Sub.cons rfl (Sub.cons rfl (Sub.cons rfl (Sub.cons rfl (Sub.nil _)))))) (fun w hw=>by rw[Sx (by omega)]at hw;exact ah.mem hw)
  ·
   replace h1:=bz h1
   have UK:i=many:=by omega
   refine Gc ?_
   iterate 2 refine Gs ?_
   refine Gc ?_
   refine aq (.inl rfl) (aI rfl (ak rfl)) (fun w1 hw=> ?_)
   exact⟨⟨false,Cx,0,many,many,none⟩,rfl,trivial,by rw[UK,Nat.sub_self,List.replicate_zero,List.nil_append]at hw;exact ah.mem hw⟩
instance ags{w0:World}{L:List ai}{n:Nat}{many:Nat}:cl Tryz.prog 163 w0 L [.int .u64 (n:Nat), .int .i64 (many:Nat)] (Sv) (fun zz=>zz.val) (fun zz=>own aM 1 zz (be n many)::L) (fun zz=>True) (n<2^64∧1≤many∧many≤8):=⟨fun hp w hw=>(UJ w n many hp).mono fun e w' ⟨x,h1,h2,h3⟩=>⟨x,h1,h2,hw.call h3⟩⟩
theorem UL(w:World)(b:Sv)(bs:List UInt8)(hb:bQ aM 1 (hp w) b bs)(bb:bs.length≤7):Calls Tryz.prog 134 #[b.val] w fun e w'=>e= .returned (.int .u64 (de bs:Nat))∧Mem w [] w':=by
 have vh:Gv w b aM 1 bs:=⟨hb⟩
 refine ba (args:=[_]) Tryz.func134 rfl Tryz.ntmps134 rfl ?_
 change Cw _ _ _ _ _ [(0,b.val)] []
 refine Gc ?_
 refine Gs ?_
 refine Gc ?_
 refine Gs ?_
 refine Gc ?_
 iterate 3 refine Gs ?_
 refine Gc ?_
 refine ca (X:=Nat) (fun zz=>[(8, .int .i64 (zz:Nat)),(3, .int .u64 (de (bs.take zz):Nat)),(6,b.val),(7, .int .i64 (bs.length:Nat))]) (fun zz=>[]) (fun zz=>zz≤bs.length) (fun zz=>bs.length -zz) 0 (Nat.zero_le _) (Sub.cons rfl (Sub.cons rfl (Sub.cons rfl (Sub.cons rfl (Sub.nil _))))) (fun w hw=>ah.mem hw) ?_
 rintro i hi
 refine Gc ?_
 refine Gs ?_
 refine Gc ?_
 refine au rfl (fun h0=> ?_) (fun h0=> ?_)
 ·
  replace h0:=bz h0
  obtain⟨y,he⟩:=get_some (xs:=bs) (i:=i) (by omega)
  have hy:=y.toNat_lt
  have bp:de (bs.take i)<256^6:=Nat.lt_of_lt_of_le (D2 bs i hi) (Nat.pow_le_pow_right (by decide) (by omega))
  refine Gc ?_
  refine ag (bg rfl rfl i rfl (by omega)) ?_
  refine ag (bL (j:=0) rfl i he rfl (by decide)) ?_
  refine Gs ?_
  refine Gc ?_
  refine Gs ?_
  refine ag (Sw (p:=de (bs.take i)) rfl rfl rfl (by omega)) ?_
  refine Gs ?_
  refine ag (pS rfl (by simp only[nb];omega)) ?_
  refine ag (AN (p:=de (bs.take i)*256) (q:=y.toNat) rfl rfl rfl rfl (by simp only[nb];omega) (by simp only[nb];omega)) ?_
  refine Gs ?_
  refine Gc ?_
  iterate 2 refine Gs ?_
  refine Gi ?_
  exact bx (x:=(i)) (i+1) (by first|omega|(simp only[];omega)) (by first|omega|(simp only[];omega)) (Sub.cons rfl (Sub.cons (look_eq rfl (by rw[IF he,IG _ _ hy])) (Sub.cons rfl (Sub.cons rfl (Sub.nil _))))) (fun w hw=>ah.mem hw)
 ·
  replace h0:=bz h0
  obtain rfl:i=bs.length:=by omega
  refine Gc ?_
  iterate 2 refine Gs ?_
  refine Gc ?_
  refine aq (.inl rfl) (aI rfl (ak rfl)) (fun w1 hw=> ?_)
  exact⟨(by rw[List.take_length]),ah.mem hw⟩
instance agt{w0:World}{L:List ai}{b:Sv}{bs:List UInt8}[hb:c0 w0 L aM 1 b bs]:cB Tryz.prog 134 w0 L [b.val] (.int .u64 (de bs:Nat)) (bs.length≤7):=⟨fun hp w hw=>UL w b bs (hb.h w hw) hp⟩
theorem UM(w:World)(n:Nat)(bb:n≤1000000000):Calls Tryz.prog 178 #[.slice none 0 0, .int .i64 (n:Nat)] w fun e w'=> ∃zz:Sv,e= .returned (zz.val)∧(True)∧Mem w [own aM 1 zz ([]:List UInt8)] w':=by
 refine ba (args:=[_,_]) Tryz.func178 rfl Tryz.ntmps178 rfl ?_
 change Cw _ _ _ _ _ [(0, .slice none 0 0),(1, .int .i64 (n:Nat))] []
 refine Gc ?_
 refine Gs ?_
 refine Gc ?_
 iterate 2 refine Gs ?_
 refine Gc ?_
 refine au rfl (fun h0=> ?_) (fun h0=> ?_)
 ·
  replace h0:=bz h0
  exfalso;omega
 ·
  replace h0:=bz h0
  refine Gc ?_
  iterate 2 refine Gs ?_
  refine ag (Bt rfl) ?_
  refine Gs ?_
  refine ag (uq rfl) ?_
  iterate 3 refine Gs ?_
  refine Gc ?_
  iterate 2 refine Gs ?_
  refine Gc ?_
  refine au rfl (fun h1=> ?_) (fun h1=> ?_)
  ·
   replace h1:=bz h1
   refine Gi ?_
   iterate 2 refine Gs ?_
   refine ag (Bt rfl) ?_
   refine ag (Ry.to (v':= .slice none 0 0) (sZ (s:=Sv.none) (h:=0) rfl rfl rfl Sv.vW (Nat.le_refl _)) rfl) ?_
   refine Gs ?_
   refine JF (enc:=aM) (k:=n) (0:UInt8) rfl rfl (by omega) (by omega) (by decide) rfl Tryz.underlying3 (by omega) (by omega) fun xf zr F4=> ?_
   refine Gs ?_
   refine ag (uq rfl) ?_
   refine ag (sZ (s:=⟨false,xf,0,n,zr,none⟩) (h:=0) rfl rfl rfl ⟨(fun h=>by cases h),F4,by simp only;omega,fun _=>rfl⟩ (Nat.zero_le _)) ?_
   refine Gs ?_
   refine Gc ?_
   iterate 2 refine Gs ?_
   refine Gc ?_
   refine aq (.inl rfl) (aI rfl (ak rfl)) (fun w1 hw=> ?_)
   refine⟨Sv.sub ⟨false,xf,0,n,zr,none⟩ 1 0 0,rfl,trivial,?_⟩
   have eL:=Mem.JE (i:=0) (k:=0) hw rfl (Nat.zero_le _)
   rw[List.take_zero]at eL
   exact eL
  ·
   replace h1:=bz h1
   have hn:n=0:=by omega
   refine Gc ?_
   iterate 2 refine Gs ?_
   refine Gc ?_
   refine aq (.inl rfl) (aI rfl (ak rfl)) (fun w1 hw=> ?_)
   exact⟨Sv.none,rfl,trivial,(ah.mem hw:Mem w [] _).dP aM 1⟩
instance agu{w0:World}{L:List ai}{n:Nat}:cl Tryz.prog 178 w0 L [.slice none 0 0, .int .i64 (n:Nat)] (Sv) (fun zz=>zz.val) (fun zz=>own aM 1 zz ([]:List UInt8)::L) (fun zz=>True) (n≤1000000000):=⟨fun hp w hw=>(UM w n hp).mono fun e w' ⟨x,h1,h2,h3⟩=>⟨x,h1,h2,hw.call h3⟩⟩
theorem UN(w:World)(a:Sl (Sl UInt8))(ha:Deep.aY (hp w) a)(bb:(jH a.xs).length≤1000000):Calls Tryz.prog 164 #[a.sv.val] w fun e w'=> ∃zz:Sv,e= .returned (zz.val)∧(True)∧Mem w [own aM 1 zz (jH a.xs)] w':=by
 have xh:cg w a:=⟨ha⟩
 have Av:=ha.1.bd
 have ei:=RI a.xs
 refine ba (args:=[_]) Tryz.func164 rfl Tryz.ntmps164 rfl ?_
 change Cw _ _ _ _ _ [(0,a.sv.val)] []
 refine Gc ?_
 refine Gs ?_
 refine Gc ?_
 refine Gs ?_
 refine Gc ?_
 iterate 3 refine Gs ?_
 refine Gc ?_
 refine ca (X:=Nat) (fun zz=>[(11, .int .i64 (zz:Nat)),(3, .int .i64 ((jH (a.xs.take zz)).length:Nat)),(0,a.sv.val),(9,a.sv.val),(10, .int .i64 (a.xs.length:Nat))]) (fun zz=>[]) (fun zz=>zz≤a.xs.length) (fun zz=>a.xs.length -zz) 0 (Nat.zero_le _) (Sub.cons rfl (Sub.cons rfl (Sub.cons rfl (Sub.cons rfl (Sub.cons rfl (Sub.nil _)))))) (fun w hw=>ah.mem hw) ?_
 rintro i hi
 have wo:=ei i
 have kQ:=ei (i+1)
 refine Gc ?_
 refine Gs ?_
 refine Gc ?_
 refine au rfl (fun h0=> ?_) (fun h0=> ?_)
 ·
  replace h0:=bz h0
  iterate 6 refine Gi ?_
  obtain⟨x,hx⟩:=get_some (xs:=a.xs) (i:=i) (by omega)
  refine ag (bg rfl rfl i rfl (by omega)) ?_
  refine ag (bL (j:=0) rfl i hx rfl (by decide)) ?_
  have UO:(jH (a.xs.take (i+1))).length=(jH (a.xs.take i)).length+x.xs.length:=by rw[Bu hx,List.length_append]
  have Cy:Mb x _:=⟨List.mem_of_getElem? hx⟩
  refine Gs ?_
  refine Gc ?_
  iterate 5 refine Gs ?_
  refine Gc ?_
  iterate 2 refine Gs ?_
  refine Gc ?_
  refine au rfl (fun h1=> ?_) (fun h1=> ?_)
  ·
   replace h1:=bz h1
   exfalso;omega
  ·
   replace h1:=bz h1
   refine Gc ?_
   iterate 2 refine Gs ?_
   refine Gi ?_
   exact bx (x:=(i)) (i+1) (by first|omega|(simp only[];omega)) (by first|omega|(simp only[];omega)) (Sub.cons rfl (Sub.cons (look_eq rfl (by rw[Bu hx,List.length_append];simp)) (Sub.cons rfl (Sub.cons rfl (Sub.cons rfl (Sub.nil _)))))) (fun w hw=>ah.mem hw)
 ·
  replace h0:=bz h0
  obtain rfl:i=a.xs.length:=by omega
  have mf:=ei a.xs.length
  refine Gc ?_
  refine Gs ?_
  refine bq rfl (by omega) fun tJ F5=> ?_
  refine Gs ?_
  refine Gc ?_
  iterate 3 refine Gs ?_
  refine Gc ?_
  refine ca (X:=Nat×Sv) (fun zz=>[(27, .int .i64 (zz.1:Nat)),(6,zz.2.val),(25,a.sv.val),(26, .int .i64 (a.xs.length:Nat))]) (fun zz=>[own aM 1 zz.2 (jH (a.xs.take zz.1))]) (fun zz=>zz.1≤a.xs.length) (fun zz=>a.xs.length -zz.1) (0,tJ) (Nat.zero_le _) (Sub.cons rfl (Sub.cons rfl (Sub.cons rfl (Sub.cons rfl (Sub.nil _))))) (fun w hw=>(ah.mem hw:Mem _ [own aM 1 tJ ([]:List UInt8)] _)) ?_
  rintro⟨k,s1⟩ hk
  dsimp only
  simp only at hk
  have wo:=ei k
  have kQ:=ei (k+1)
  refine Gc ?_
  refine Gs ?_
  refine Gc ?_
  refine au rfl (fun h2=> ?_) (fun h2=> ?_)
  ·
   replace h2:=bz h2
   iterate 6 refine Gi ?_
   obtain⟨y,hy⟩:=get_some (xs:=a.xs) (i:=k) (by omega)
   refine ag (bg rfl rfl k rfl (by omega)) ?_
   refine ag (bL (j:=0) rfl k hy rfl (by decide)) ?_
   have UP:(jH (a.xs.take (k+1))).length=(jH (a.xs.take k)).length+y.xs.length:=by rw[Bu hy,List.length_append]
   have Ma:Mb y _:=⟨List.mem_of_getElem? hy⟩
   refine Gs ?_
   refine Gc ?_
   iterate 2 refine Gs ?_
   refine mg (s:=s1) (ys:=y.xs) rfl rfl (by decide) (fun w hw=>kN (s:=y.sv) Tryz.underlying38 (by decide) ((inferInstance:Hd _ _ y.sv aM 1 y.xs).h w hw)) (by omega) (by omega) fun F6 UQ UR=> ?_
   refine Gs ?_
   refine Gc ?_
   iterate 2 refine Gs ?_
   refine Gi ?_
   exact bx (x:=(k,s1)) (k+1,F6) (by simp only;omega) (by simp only;omega) (Sub.cons rfl (Sub.cons rfl (Sub.cons rfl (Sub.cons rfl (Sub.nil _))))) (fun w hw=>by rw[Bu hy];exact ah.mem hw)
  ·
   replace h2:=bz h2
   obtain rfl:k=a.xs.length:=by omega
   refine Gc ?_
   iterate 2 refine Gs ?_
   refine Gc ?_
   refine aq (.inl rfl) (aI rfl (ak rfl)) (fun w1 hw=> ?_)
   exact⟨s1,rfl,trivial,by rw[List.take_length]at hw;exact ah.mem hw⟩
instance agv{w0:World}{L:List ai}{a:Sl (Sl UInt8)}[ha:aU w0 L a]:cl Tryz.prog 164 w0 L [a.sv.val] (Sv) (fun zz=>zz.val) (fun zz=>own aM 1 zz (jH a.xs)::L) (fun zz=>True) ((jH a.xs).length≤1000000):=⟨fun hp w hw=>(UN w a (ha.h w hw) hp).mono fun e w' ⟨x,h1,h2,h3⟩=>⟨x,h1,h2,hw.call h3⟩⟩
theorem US(w:World)(s:Sv)(ss:List UInt8)(hs:bQ aM 1 (hp w) s ss)(bb:ss.length≤1000000):Calls Tryz.prog 137 #[s.val] w fun e w'=> ∃zz:Sv,e= .returned (zz.val)∧(True)∧Mem w [own aM 1 zz ss] w':=by
 have ve:Gv w s aM 1 ss:=⟨hs⟩
 refine ba (args:=[_]) Tryz.func137 rfl Tryz.ntmps137 rfl ?_
 change Cw _ _ _ _ _ [(0,s.val)] []
 refine Gc ?_
 refine Gs ?_
 refine Gc ?_
 refine Gs ?_
 refine ag (rX Tryz.underlying38 rfl) ?_
 refine Gc ?_
 refine au rfl (fun h0=> ?_) (fun h0=> ?_)
 ·
  replace h0:=bz h0
  have e0:ss=[]:=List.length_eq_zero_iff.1 (by have:=hs.ok.nil h0;have:=hs.len;omega)
  refine Gc ?_
  refine Gs ?_
  refine Gc ?_
  refine aq (.inl rfl) (aI rfl (ak rfl)) (fun w1 hw=> ?_)
  exact⟨Sv.none,rfl,trivial,by rw[e0];exact(ah.mem hw:Mem w [] _).dP aM 1⟩
 ·
  replace h0:=bz h0
  refine Gc ?_
  refine tc aM fun b5=> ?_
  refine Gs ?_
  refine mg (s:=⟨false,b5,0,0,0,none⟩) (ys:=ss) rfl rfl (by decide) (fun w hw=>kN (s:=s) Tryz.underlying38 (by decide) ((inferInstance:Hd _ _ s aM 1 ss).h w hw)) (by simp only[List.length_append,List.length_cons,List.length_nil];omega) (by simp only[List.length_append,List.length_cons,List.length_nil];omega) fun s7 vf tF=> ?_
  refine Gs ?_
  refine Gc ?_
  refine aq (.inl rfl) (aI rfl (ak rfl)) (fun w1 hw=> ?_)
  exact⟨s7,rfl,trivial,by simpa using hw⟩
instance agw{w0:World}{L:List ai}{s:Sv}{ss:List UInt8}[hs:c0 w0 L aM 1 s ss]:cl Tryz.prog 137 w0 L [s.val] (Sv) (fun zz=>zz.val) (fun zz=>own aM 1 zz ss::L) (fun zz=>True) (ss.length≤1000000):=⟨fun hp w hw=>(US w s ss (hs.h w hw) hp).mono fun e w' ⟨x,h1,h2,h3⟩=>⟨x,h1,h2,hw.call h3⟩⟩
open Go.aC Go.Kb
open Go.RowKit
instance:fe Tryz.prog 110 (.agg (cG m9)):=⟨by kernel_rfl⟩
theorem UT(w:World)(n:Int):Calls Tryz.prog 104 #[.int .i64 n] w fun e w'=>e= .returned (.bool (lR n))∧Mem w [] w':=by
 refine ba (args:=[_]) Tryz.func104 rfl Tryz.ntmps104 rfl ?_
 change Cw _ _ _ _ _ [(0, .int .i64 n)] []
 refine Gc ?_
 refine Gs ?_
 refine Gc ?_
 iterate 3 refine Gs ?_
 iterate 2 refine Gg ?_
 iterate 2 refine Gs ?_
 refine Gc ?_
 refine aq (.inl rfl) (aI rfl (ak rfl)) (fun w1 hw=> ?_)
 exact⟨congrArg (fun b=>Ending.returned (Value.bool b)) (rfl),ah.mem hw⟩
instance agx{w0:World}{L:List ai}{n:Int}:cB Tryz.prog 104 w0 L [.int .i64 n] (.bool (lR n)) (True):=⟨fun hp w hw=>UT w n⟩
theorem UU(w:World)(n:Int):Calls Tryz.prog 59 #[.int .i64 n] w fun e w'=>e= .returned (.int .i64 (dv n))∧Mem w [] w':=by
 refine ba (args:=[_]) Tryz.func59 rfl Tryz.ntmps59 rfl ?_
 change Cw _ _ _ _ _ [(0, .int .i64 n)] []
 refine Gc ?_
 refine Gs ?_
 refine Gc ?_
 iterate 3 refine Gs ?_
 refine Gc ?_
 refine au rfl (fun h0=> ?_) (fun h0=> ?_)
 ·
  replace h0:=bz h0
  refine Gc ?_
  refine Gs ?_
  refine Gc ?_
  refine aq (.inl rfl) (aI rfl (ak rfl)) (fun w1 hw=> ?_)
  exact⟨congrArg (fun b=>Ending.returned (Value.int .i64 b)) ((by rw[dv,if_neg (by rw[h0];simp)])),ah.mem hw⟩
 ·
  replace h0:=bz h0
  have hf:=qd.1 h0
  refine Gc ?_
  iterate 3 refine Gs ?_
  refine Gc ?_
  refine aq (.inl rfl) (aI rfl (ak rfl)) (fun w1 hw=> ?_)
  exact⟨congrArg (fun b=>Ending.returned (Value.int .i64 b)) ((by rw[dv,if_pos h0])),ah.mem hw⟩
instance agy{w0:World}{L:List ai}{n:Int}:cB Tryz.prog 59 w0 L [.int .i64 n] (.int .i64 (dv n)) (True):=⟨fun hp w hw=>UU w n⟩
theorem UW(w:World)(x:eo)(n:Int)(hx:Deep.aY (hp w) x):Calls Tryz.prog 136 #[.agg (cG x), .int .i64 n] w fun e w'=>e= .returned (.bool (kv (cD x) n))∧Mem w [] w':=by
 have tK:cg w x:=⟨hx⟩
 refine ba (args:=[_,_]) Tryz.func136 rfl Tryz.ntmps136 rfl ?_
 change Cw _ _ _ _ _ [(0, .agg (cG x)),(1, .int .i64 n)] []
 refine Gc ?_
 refine bX rfl fun b2=> ?_
 refine Gs ?_
 refine Gc ?_
 refine gO (by kernel_rfl) (by kernel_rfl) ?_
 refine Gq ?_
 refine sW (cC rfl trivial) ?_
 refine Gq ?_
 iterate 3 refine Gh ?_
 refine fC rfl rfl rfl (fun hg=>(Ry.yl (aD (aG hg rfl)))) ?_
 refine DO rfl rfl rfl (fun hg=>(Ry.yl (aH (o':=0) rfl rfl))) ?_
 refine DO rfl rfl rfl (fun hg=>(Ry.yl (bH (aG hg rfl)))) ?_
 refine DO rfl rfl rfl (fun hg=>(Ry.yl (cx (aG hg rfl) rfl rfl))) ?_
 refine fC rfl rfl rfl (fun hg=>(Ry.yl (mL (aG hg rfl) rfl (vS hg rfl)))) ?_
 iterate 2 refine Gq ?_
 iterate 3 refine Gh ?_
 iterate 2 refine Gq ?_
 iterate 3 refine Gh ?_
 iterate 2 refine Gq ?_
 iterate 3 refine Gh ?_
 iterate 2 refine Gq ?_
 iterate 4 refine Gh ?_
 refine fC rfl rfl rfl (fun hg=>cC (dA (aG hg rfl) gE) trivial) ?_
 refine Gh ?_
 iterate 2 refine Gq ?_
 refine Gc ?_
 refine aq (.inl rfl) (aI rfl (ak rfl)) (fun w1 hw=> ?_)
 exact⟨congrArg (fun b=>Ending.returned (Value.bool b)) ((by simp only[kv,cD];rw[show decide ((x.gen.toNat:Int)<281474976710656)=decide (x.gen.toNat<281474976710656)from decide_eq_decide.2 (by omega)];rfl)),ah.mem hw⟩
instance agz{w0:World}{L:List ai}{x:eo}{n:Int}[hx:aU w0 L x]:cB Tryz.prog 136 w0 L [.agg (cG x), .int .i64 n] (.bool (kv (cD x) n)) (True):=⟨fun hp w hw=>UW w x n (hx.h w hw)⟩
theorem UX(w:World)(b:Sv)(bs:List UInt8)(hb:bQ aM 1 (hp w) b bs):Calls Tryz.prog 129 #[b.val] w fun e w'=>e= .returned (.bool (iX bs))∧Mem w [] w':=by
 have vh:Gv w b aM 1 bs:=⟨hb⟩
 have iJ:=hb.bd
 refine ba (args:=[_]) Tryz.func129 rfl Tryz.ntmps129 rfl ?_
 change Cw _ _ _ _ _ [(0,b.val)] []
 refine Gc ?_
 refine Gs ?_
 refine Gc ?_
 iterate 3 refine Gs ?_
 refine Gc ?_
 refine ca (X:=Nat) (fun zz=>[(7, .int .i64 (zz:Nat)),(5,b.val),(6, .int .i64 (bs.length:Nat))]) (fun zz=>[]) (fun zz=>zz≤bs.length∧ ∀j x,j<zz→bs[j]? =Option.some x→x=255) (fun zz=>bs.length -zz) 0 ⟨Nat.zero_le _,fun j x hj=>by first|omega|(simp only[];omega)⟩ (Sub.cons rfl (Sub.cons rfl (Sub.cons rfl (Sub.nil _)))) (fun w hw=>ah.mem hw) ?_
 rintro i ⟨bh,aF⟩
 refine Gc ?_
 refine Gs ?_
 refine Gc ?_
 refine au rfl (fun h0=> ?_) (fun h0=> ?_)
 ·
  replace h0:=bz h0
  iterate 6 refine Gi ?_
  obtain⟨y,hy⟩:=get_some (xs:=bs) (i:=i) (by omega)
  refine ag (bg rfl rfl i rfl (by omega)) ?_
  refine ag (bL (j:=0) rfl i hy rfl (by decide)) ?_
  refine Gs ?_
  refine Gc ?_
  iterate 2 refine Gs ?_
  refine Gc ?_
  refine au rfl (fun h1=> ?_) (fun h1=> ?_)
  ·
   replace h1:=bz h1
   have hz:iX bs=false:=by
    cases hk:iX bs with
    |false=>rfl
    |true=>exact absurd (congrArg UInt8.toNat (y0.1 hk y (List.mem_of_getElem? hy))) (by intro e;exact h1 (by rw[e];rfl))
   refine Gc ?_
   refine Gs ?_
   refine Gc ?_
   refine aq (.inl rfl) (aI rfl (ak rfl)) (fun w1 hw=> ?_)
   exact⟨congrArg (fun b=>Ending.returned (Value.bool b)) (hz.symm),ah.mem hw⟩
  ·
   replace h1:=bz h1
   have F7:y=255:=UInt8.toNat_inj.1 (show y.toNat=255 by omega)
   refine Gc ?_
   iterate 2 refine Gs ?_
   refine Gi ?_
   exact bx (x:=(i)) (i+1) ⟨by first|omega|(simp only[];omega),fun j x hj hx=>if e:j=i then(by subst e;rw[hy]at hx;cases hx;exact F7)else aF j x (by first|omega|(simp only[];omega)) hx⟩ (by first|omega|(simp only[];omega)) (Sub.cons rfl (Sub.cons rfl (Sub.cons rfl (Sub.nil _)))) (fun w hw=>ah.mem hw)
 ·
  replace h0:=bz h0
  obtain rfl:i=bs.length:=by omega
  have hz:iX bs=true:=y0.2 fun x hx=>by
   obtain⟨j,hj⟩:=List.getElem?_of_mem hx
   exact aF j x (List.getElem?_eq_some_iff.1 hj).1 hj
  refine Gc ?_
  refine Gs ?_
  refine Gc ?_
  refine aq (.inl rfl) (aI rfl (ak rfl)) (fun w1 hw=> ?_)
  exact⟨congrArg (fun b=>Ending.returned (Value.bool b)) (hz.symm),ah.mem hw⟩
instance agA{w0:World}{L:List ai}{b:Sv}{bs:List UInt8}[hb:c0 w0 L aM 1 b bs]:cB Tryz.prog 129 w0 L [b.val] (.bool (iX bs)) (True):=⟨fun hp w hw=>UX w b bs (hb.h w hw)⟩
open Go.aC Go.Kb
open Go.RowKit
instance:fe Tryz.prog 147 (.agg (dB kT)):=⟨by kernel_rfl⟩
theorem UY(w:World)(n:Int):Calls Tryz.prog 83 #[.int .i64 n] w fun e w'=>e= .returned (.int .i64 (jt n))∧Mem w [] w':=by
 have UZ:lR n=true→24≤n∧n≤256:=fun h=>qd.1 h
 have hrb:0≤dv n∧dv n≤240:=by
  by_cases h:lR n=true
  ·
   have:=UZ h;rw[dv,if_pos h];omega
  ·
   rw[dv,if_neg h];omega
 refine ba (args:=[_]) Tryz.func83 rfl Tryz.ntmps83 rfl ?_
 change Cw _ _ _ _ _ [(0, .int .i64 n)] []
 refine Gc ?_
 refine Gs ?_
 refine Gc ?_
 iterate 2 refine Gs ?_
 refine ag (oc rfl rfl (by omega) (by omega)) ?_
 refine ag (DM rfl rfl) ?_
 refine Gs ?_
 refine Gc ?_
 refine aq (.inl rfl) (aI rfl (ak rfl)) (fun w1 hw=> ?_)
 exact⟨congrArg (fun b=>Ending.returned (Value.int .i64 b)) (rfl),ah.mem hw⟩
instance agB{w0:World}{L:List ai}{n:Int}:cB Tryz.prog 83 w0 L [.int .i64 n] (.int .i64 (jt n)) (True):=⟨fun hp w hw=>UY w n⟩
theorem U0(w:World)(r:dd)(n:Int)(hr:Deep.aY (hp w) r):Calls Tryz.prog 147 #[.agg (dB r), .int .i64 n] w fun e w'=>e= .returned (.bool (mu (df r) n))∧Mem w [] w':=by
 have U1:cg w r:=⟨hr⟩
 have iJ:=hr.1.bd
 refine ba (args:=[_,_]) Tryz.func147 rfl Tryz.ntmps147 rfl ?_
 change Cw _ _ _ _ _ [(0, .agg (dB r)),(1, .int .i64 n)] []
 refine Gc ?_
 refine bX rfl fun b2=> ?_
 refine Gs ?_
 refine Gc ?_
 refine gO (by kernel_rfl) (by kernel_rfl) ?_
 refine Gq ?_
 refine sW (cC rfl trivial) ?_
 iterate 2 refine Gq ?_
 iterate 3 refine Gh ?_
 iterate 2 refine Gq ?_
 iterate 4 refine Gh ?_
 refine iH rfl rfl rfl (fun hg=>cC (dA (aG hg rfl) gE) trivial) ?_
 refine Gh ?_
 refine Gq ?_
 refine Gc ?_
 refine au rfl (fun h0=> ?_) (fun h0=> ?_)
 ·
  replace h0:=bz h0
  have hz:mu (df r) n=false:=by
   cases hk:mu (df r) n with
   |false=>rfl
   |true=>
    obtain⟨g1,g2,g3,g4⟩:=tn.1 hk
    simp only[df]at g2 g3
    omega
  refine Gc ?_
  refine Gs ?_
  refine Gc ?_
  refine aq (.inl rfl) (aI rfl (ak rfl)) (fun w1 hw=> ?_)
  exact⟨congrArg (fun b=>Ending.returned (Value.bool b)) (hz.symm),ah.mem hw⟩
 ·
  replace h0:=bz h0
  have g0:dv n≠0∧r.gen.toNat<281474976710656∧(r.at_.xs.length:Int)≤jt n:=⟨by omega,by omega,by omega⟩
  refine Gc ?_
  iterate 4 refine Gs ?_
  refine Gc ?_
  refine ca (X:=Nat) (fun zz=>[(26, .int .i64 (zz:Nat)),(24,r.at_.sv.val),(25, .int .i64 (r.at_.xs.length:Nat))]) (fun zz=>[ar b2 (dB r) 147]) (fun zz=>zz≤r.at_.xs.length∧ ∀j x,j<zz→r.at_.xs[j]? =Option.some x→uW x=true) (fun zz=>r.at_.xs.length -zz) 0 ⟨Nat.zero_le _,fun j x hj=>by first|omega|(simp only[];omega)⟩ (Sub.cons rfl (Sub.cons rfl (Sub.cons rfl (Sub.nil _)))) (fun w hw=>ah.mem hw) ?_
  rintro i ⟨bh,aF⟩
  refine Gc ?_
  refine Gs ?_
  refine Gc ?_
  refine au rfl (fun h1=> ?_) (fun h1=> ?_)
  ·
   replace h1:=bz h1
   iterate 6 refine Gi ?_
   obtain⟨y,hy⟩:=get_some (xs:=r.at_.xs) (i:=i) (by omega)
   refine ag (bg rfl rfl i rfl (by omega)) ?_
   refine ag (bL (j:=0) rfl i hy rfl (by decide)) ?_
   refine Gs ?_
   refine Gc ?_
   iterate 3 refine Gs ?_
   iterate 2 refine Gg ?_
   refine Gs ?_
   refine Gc ?_
   refine au rfl (fun h2=> ?_) (fun h2=> ?_)
   ·
    replace h2:=bz h2
    have hz:mu (df r) n=false:=by
     cases hk:mu (df r) n with
     |false=>rfl
     |true=>
      have g:=y4.1 ((tn.1 hk).2.2.2 y (List.mem_of_getElem? hy))
      omega
    refine Gc ?_
    refine Gs ?_
    refine Gc ?_
    refine aq (.inl rfl) (aI rfl (ak rfl)) (fun w1 hw=> ?_)
    exact⟨congrArg (fun b=>Ending.returned (Value.bool b)) (hz.symm),ah.mem hw⟩
   ·
    replace h2:=bz h2
    have F8:uW y=true:=y4.2 ⟨by omega,by omega⟩
    refine Gc ?_
    iterate 2 refine Gs ?_
    refine Gi ?_
    exact bx (x:=(i)) (i+1) ⟨by first|omega|(simp only[];omega),fun j x hj hx=>if e:j=i then(by subst e;rw[hy]at hx;cases hx;exact F8)else aF j x (by first|omega|(simp only[];omega)) hx⟩ (by first|omega|(simp only[];omega)) (Sub.cons rfl (Sub.cons rfl (Sub.cons rfl (Sub.nil _)))) (fun w hw=>ah.mem hw)
  ·
   replace h1:=bz h1
   obtain rfl:i=r.at_.xs.length:=by omega
   have hz:mu (df r) n=true:=tn.2 ⟨g0.1,g0.2.1,g0.2.2,fun x hx=>by
    obtain⟨j,hj⟩:=List.getElem?_of_mem hx
    exact aF j x (List.getElem?_eq_some_iff.1 hj).1 hj⟩
   refine Gc ?_
   refine Gs ?_
   refine Gc ?_
   refine aq (.inl rfl) (aI rfl (ak rfl)) (fun w1 hw=> ?_)
   exact⟨congrArg (fun b=>Ending.returned (Value.bool b)) (hz.symm),ah.mem hw⟩
instance agC{w0:World}{L:List ai}{r:dd}{n:Int}[hr:aU w0 L r]:cB Tryz.prog 147 w0 L [.agg (dB r), .int .i64 n] (.bool (mu (df r) n)) (True):=⟨fun hp w hw=>U0 w r n (hr.h w hw)⟩
open Go.aC Go.Kb
open Go.RowKit
instance:fe Tryz.prog 29 (.agg (bF kU)):=⟨by kernel_rfl⟩
theorem U2(w:World)(c:Cp)(hc:Deep.aY (hp w) c):Calls Tryz.prog 82 #[.agg (aB c)] w fun e w'=>e= .returned (.bool (fB (cv c)))∧Mem w [] w':=by
 have jR:cg w c:=⟨hc⟩
 refine ba (args:=[_]) Tryz.func82 rfl Tryz.ntmps82 rfl ?_
 change Cw _ _ _ _ _ [(0, .agg (aB c))] []
 refine Gc ?_
 refine bX rfl fun b1=> ?_
 refine Gs ?_
 refine Gc ?_
 iterate 3 refine Gs ?_
 iterate 4 refine Gg ?_
 iterate 2 refine Gs ?_
 iterate 3 refine Gg ?_
 iterate 2 refine Gs ?_
 iterate 3 refine Gg ?_
 iterate 2 refine Gs ?_
 refine Gc ?_
 refine aq (.inl rfl) (aI rfl (ak rfl)) (fun w1 hw=> ?_)
 exact⟨congrArg (fun b=>Ending.returned (Value.bool b)) ((by simp only[fB,cv,fu];rfl)),ah.mem hw⟩
instance agD{w0:World}{L:List ai}{c:Cp}[hc:aU w0 L c]:cB Tryz.prog 82 w0 L [.agg (aB c)] (.bool (fB (cv c))) (True):=⟨fun hp w hw=>U2 w c (hc.h w hw)⟩
theorem U3(w:World)(c:Cp)(hc:Deep.aY (hp w) c)(bb:dQ c):Calls Tryz.prog 84 #[.agg (aB c)] w fun e w'=> ∃zz:Cp,e= .returned (.agg (aB zz))∧(cv zz=cv c)∧Mem w [fz zz] w':=by
 have jR:cg w c:=⟨hc⟩
 refine ba (args:=[_]) Tryz.func84 rfl Tryz.ntmps84 rfl ?_
 change Cw _ _ _ _ _ [(0, .agg (aB c))] []
 refine Gc ?_
 refine bX rfl fun b1=> ?_
 refine bK fun b2=> ?_
 refine Gc ?_
 iterate 3 refine Gs ?_
 refine bq rfl (by assumption) fun x9 zt=> ?_
 refine Gs ?_
 refine ag (aV (v:= .agg (aB x9)) rfl rfl) ?_
 refine ag (aV (v:= .int .i64 (se (cv c) c.aR.xs)) rfl rfl) ?_
 refine bK fun b3=> ?_
 iterate 2 refine Gs ?_
 refine Gc ?_
 iterate 3 refine Gs ?_
 refine eN (cs':=aB (⟨x9.pages,x9.size,x9.blocks,x9.ops,c.off,x9.aR⟩:Cp)) rfl rfl (by show 4<6;decide) (by first|rfl|exact Sv.one _) rfl ?_
 refine Gc ?_
 iterate 2 refine Gs ?_
 refine Gc ?_
 refine aq (.inl rfl) (aI rfl (cc rfl)) (fun w1 hw=> ?_)
 exact⟨(⟨x9.pages,x9.size,x9.blocks,x9.ops,c.off,x9.aR⟩:Cp),rfl,by
  have h9:cv (⟨x9.pages,x9.size,x9.blocks,x9.ops,c.off,x9.aR⟩:Cp)={cv x9 with off:=(cv c).off}:=rfl
  rw[h9,zt];exact SF (cv c),by
  have h9:Mem w [fz x9] _:=ah.mem hw
  exact h9⟩
instance agE{w0:World}{L:List ai}{c:Cp}[hc:aU w0 L c]:cl Tryz.prog 84 w0 L [.agg (aB c)] (Cp) (fun zz=> .agg (aB zz)) (fun zz=>fz zz::L) (fun zz=>cv zz=cv c) (dQ c):=⟨fun hp w hw=>(U3 w c (hc.h w hw) hp).mono fun e w' ⟨x,h1,h2,h3⟩=>⟨x,h1,h2,hw.call h3⟩⟩
theorem U4(w:World)(s:Sv)(ss:List Int)(hs:bQ bG 1 (hp w) s ss)(bb:ss.length≤1000000):Calls Tryz.prog 92 #[s.val] w fun e w'=> ∃zz:Sv,e= .returned (zz.val)∧(True)∧Mem w [own bG 1 zz ss] w':=by
 have ve:Gv w s bG 1 ss:=⟨hs⟩
 refine ba (args:=[_]) Tryz.func92 rfl Tryz.ntmps92 rfl ?_
 change Cw _ _ _ _ _ [(0,s.val)] []
 refine Gc ?_
 refine Gs ?_
 refine Gc ?_
 refine Gs ?_
 refine ag (rX Tryz.underlying26 rfl) ?_
 refine Gc ?_
 refine au rfl (fun h0=> ?_) (fun h0=> ?_)
 ·
  replace h0:=bz h0
  have e0:ss=[]:=List.length_eq_zero_iff.1 (by have:=hs.ok.nil h0;have:=hs.len;omega)
  refine Gc ?_
  refine Gs ?_
  refine Gc ?_
  refine aq (.inl rfl) (aI rfl (ak rfl)) (fun w1 hw=> ?_)
  exact⟨Sv.none,rfl,trivial,by rw[e0];exact(ah.mem hw:Mem w [] _).dP bG 1⟩
 ·
  replace h0:=bz h0
  refine Gc ?_
  refine tc bG fun b5=> ?_
  refine Gs ?_
  refine mg (s:=⟨false,b5,0,0,0,none⟩) (enc:=bG) (ys:=ss) rfl rfl (by decide) (fun w hw=>kN (s:=s) Tryz.underlying26 (by decide) ((inferInstance:c0 _ _ bG 1 s ss).h w hw)) (by simp only[List.length_nil];omega) (by simp only[List.length_nil];omega) fun s7 vf tF=> ?_
  refine Gs ?_
  refine Gc ?_
  refine aq (.inl rfl) (aI rfl (ak rfl)) (fun w1 hw=> ?_)
  exact⟨s7,rfl,trivial,by rw[List.nil_append]at hw;exact ah.mem hw⟩
instance agF{w0:World}{L:List ai}{s:Sv}{ss:List Int}[hs:c0 w0 L bG 1 s ss]:cl Tryz.prog 92 w0 L [s.val] (Sv) (fun zz=>zz.val) (fun zz=>own bG 1 zz ss::L) (fun zz=>True) (ss.length≤1000000):=⟨fun hp w hw=>(U4 w s ss (hs.h w hw) hp).mono fun e w' ⟨x,h1,h2,h3⟩=>⟨x,h1,h2,hw.call h3⟩⟩
theorem U5(w:World)(v:bM)(hv:Deep.aY (hp w) v)(bb:dQ v.ae∧v.at_.xs.length≤1000000):Calls Tryz.prog 44 #[.agg (bF v)] w fun e w'=> ∃zz:Cp×Sv,e= .returned (.agg (bF (⟨zz.1,⟨zz.2,v.at_.xs⟩,v.gen,v.last⟩:bM)))∧(cv zz.1=cv v.ae)∧Mem w [fz zz.1,own bG 1 zz.2 v.at_.xs] w':=by
 have zu:cg w v:=⟨hv⟩
 obtain⟨kG,iK⟩:=bb
 refine ba (args:=[_]) Tryz.func44 rfl Tryz.ntmps44 rfl ?_
 change Cw _ _ _ _ _ [(0, .agg (bF v))] []
 refine Gc ?_
 refine bX rfl fun b1=> ?_
 refine bK fun b2=> ?_
 refine Gc ?_
 refine qa [2,5,7,9,1001,1004,5002,5005] [[],[],[1],[],[],[1,2,4],[1,2,4],[1,2,4,5],[1,2,4,5,7],[1,2,4,5,7]] [0,1,3,4,2,6,5,7,8,9] [] [] (by kernel_rfl) (fun _ hw=>ah.mem hw) (by kernel_rfl) (by kernel_rfl) ?_
 refine al rfl (aH (o':=0) rfl rfl) ?_
 refine kr rfl (iA rfl) ?_
 refine al rfl (aH (o':=6) rfl rfl) ?_
 refine kr rfl (bH rfl) ?_
 refine Jv rfl (nG rfl (by assumption) fun x5 U6=>⟨fun _ hw=>ah.mem hw,fun _ hw=>ah.mem hw,?_⟩)
 refine al rfl (aH (o':=0) rfl rfl) ?_
 refine Jv rfl (nG rfl (by omega) fun x8 pD=>⟨fun _ hw=>ah.mem hw,fun _ hw=>ah.mem hw,?_⟩)
 refine dE rfl (Jp (cs':=bF ({v with ae:=x5}:bM)) rfl rfl (by show 0+6≤9;decide) rfl ⟨fun _ hw=>ah.mem hw,?_⟩)
 refine al rfl (aH (o':=6) rfl rfl) ?_
 refine dE rfl (wk (cs':=bF (⟨x5,⟨x8,v.at_.xs⟩,v.gen,v.last⟩:bM)) rfl rfl (by show 6<9;decide) (by first|rfl|exact Sv.one _) rfl ⟨fun _ hw=>ah.mem hw,?_⟩)
 refine Gc ?_
 iterate 2 refine Gs ?_
 refine Gc ?_
 refine aq (.inl rfl) (aI rfl (cc rfl)) (fun w1 hw=> ?_)
 exact⟨(x5,x8),rfl,U6,ah.mem hw⟩
instance agG{w0:World}{L:List ai}{v:bM}[hv:aU w0 L v]:cl Tryz.prog 44 w0 L [.agg (bF v)] (Cp×Sv) (fun zz=> .agg (bF (⟨zz.1,⟨zz.2,v.at_.xs⟩,v.gen,v.last⟩:bM))) (fun zz=>fz zz.1::own bG 1 zz.2 v.at_.xs::L) (fun zz=>cv zz.1=cv v.ae) (dQ v.ae∧v.at_.xs.length≤1000000):=⟨fun hp w hw=>(U5 w v (hv.h w hw) hp).mono fun e w' ⟨x,h1,h2,h3⟩=>⟨x,h1,h2,hw.call h3⟩⟩
open Go.aC Go.Kb
open Go.RowKit
theorem U7(b:List UInt8)(w:World):(Instr.build 110 #[(0, .int .i64 ((b.getD 0 0).toNat:Int)),(1, .int .i64 ((b.getD 1 0).toNat:Int)),(2, .int .u64 ((de ((b.drop 2).take (8 -2)):Nat):Int))]).run Tryz.prog w= .ok (.agg (cG (sg b))) w:=by
 rw[←Kh]
 unfold cG sg
 generalize UInt64.ofNat (de ((b.drop 2).take (8 -2)))=g
 kernel_rfl
theorem U8(w:World)(b:Sv)(bs:List UInt8)(hb:bQ aM 1 (hp w) b bs):Calls Tryz.prog 96 #[b.val] w fun e w'=> ∃zz:eo,e= .returned (.tuple #[.agg (cG zz), .int .i64 ((cr bs).2)])∧(cD zz=(cr bs).1)∧Mem w [own aM 1 zz.body.sv zz.body.xs] w':=by
 have vh:Gv w b aM 1 bs:=⟨hb⟩
 have iJ:=hb.bd
 have F9:cg w (sg bs):=⟨⟨bQ.nil _ _ _,fun x hx=>by cases hx⟩⟩
 have hml:=Kg bs
 have vi:=EU bs
 have vZ:=EF (kV bs)
 have eP:=Sz bs
 refine ba (args:=[_]) Tryz.func96 rfl Tryz.ntmps96 rfl ?_
 change Cw _ _ _ _ _ [(0,b.val)] []
 refine Gc ?_
 refine bK fun b2=> ?_
 refine Gs ?_
 refine Gc ?_
 iterate 4 refine Gs ?_
 refine Gc ?_
 refine au rfl (fun h0=> ?_) (fun h0=> ?_)
 ·
  replace h0:=bz h0
  have hE:cr bs=(jr,3):=by rw[cr,if_pos h0]
  refine Gc ?_
  refine ag (cR (v:= .agg (cG m9)) rfl (fun w=>by kernel_rfl)) ?_
  iterate 2 refine Gs ?_
  refine Gc ?_
  refine aq (.inl rfl) (bm rfl (cc rfl) (ak rfl)) (fun w1 hw=> ?_)
  exact⟨m9,by rw[hE],by rw[hE];rfl,Mem.dP aM 1 (ah.mem hw:Mem w [] _)⟩
 ·
  replace h0:=bz h0
  have U9:=qd.1 h0
  have zv:dv bs.length=bs.length -16:=by rw[dv,if_pos h0]
  refine Gc ?_
  iterate 2 refine Gs ?_
  refine Gc ?_
  refine au rfl (fun h1=> ?_) (fun h1=> ?_)
  ·
   replace h1:=bz h1
   have hE:cr bs=(jr,0):=by rw[cr,if_neg (by rw[h0];simp),if_pos h1]
   refine Gc ?_
   refine ag (cR (v:= .agg (cG m9)) rfl (fun w=>by kernel_rfl)) ?_
   iterate 2 refine Gs ?_
   refine Gc ?_
   refine aq (.inl rfl) (bm rfl (cc rfl) (ak rfl)) (fun w1 hw=> ?_)
   exact⟨m9,by rw[hE],by rw[hE];rfl,Mem.dP aM 1 (ah.mem hw:Mem w [] _)⟩
  ·
   replace h1:=bz h1
   refine Gc ?_
   refine gO (by kernel_rfl) (by kernel_rfl) ?_
   iterate 4 refine Gq ?_
   have Mc:Rg 0 (bs.length -4) bs.length:=⟨by omega⟩
   refine bc (IK rfl rfl (bs.length -4) (by omega) Mc.h.2) ?_
   iterate 4 refine Gq ?_
   have Cz:Rg (bs.length -4) bs.length bs.length:=⟨by omega⟩
   refine bc (AY rfl rfl (bs.length -4) (by omega) Cz.h.1) ?_
   iterate 2 refine Gq ?_
   refine Gc ?_
   refine Gs ?_
   refine fy (cC (v:= .int .u64 ((de (uV bs):Nat):Int)) rfl (by rw[List.length_take,List.length_drop];omega)) ?_
   refine Gs ?_
   refine fy (cC (v:= .int .u32 ((lP (kV bs):Nat):Int)) rfl trivial) ?_
   refine ag (pS rfl (by simp only[nb];omega)) ?_
   refine Gs ?_
   refine Gc ?_
   refine au rfl (fun h2=> ?_) (fun h2=> ?_)
   ·
    replace h2:=bz h2
    have hE:cr bs=(jr,4):=by rw[cr,if_neg (by rw[h0];simp),if_neg (by rw[h1];simp),if_pos (fun e=>h2 (by rw[e]))]
    refine Gc ?_
    refine ag (cR (v:= .agg (cG m9)) rfl (fun w=>by kernel_rfl)) ?_
    iterate 2 refine Gs ?_
    refine Gc ?_
    refine aq (.inl rfl) (bm rfl (cc rfl) (ak rfl)) (fun w1 hw=> ?_)
    exact⟨m9,by rw[hE],by rw[hE];rfl,Mem.dP aM 1 (ah.mem hw:Mem w [] _)⟩
   ·
    replace h2:=bz h2
    have yO: ¬de (uV bs)≠lP (kV bs):=fun e=>e (by omega)
    refine Gc ?_
    refine jn [12,13] [[],[],[],[],[],[],[],[],[],[],[],[],[],[12]] [0,1,2,3,4,5,6,7,8,9,10,11,12,13] [] (fun _ hw=>ah.mem hw) (by kernel_rfl) (by kernel_rfl) ?_
    refine al rfl (aD rfl) ?_
    refine al rfl (bg rfl rfl 0 rfl (by omega)) ?_
    refine al rfl (bL (j:=0) rfl 0 (oh (xs:=bs) (i:=0) (d:=0) (by omega)) rfl (by decide)) ?_
    refine al rfl (uE rfl) ?_
    refine al rfl (aD rfl) ?_
    refine al rfl (bg rfl rfl 1 rfl (by omega)) ?_
    refine al rfl (bL (j:=0) rfl 1 (oh (xs:=bs) (i:=1) (d:=0) (by omega)) rfl (by decide)) ?_
    refine al rfl (uE rfl) ?_
    refine al rfl (aD rfl) ?_
    have Md:Rg 2 8 bs.length:=⟨by omega⟩
    refine al rfl (AX rfl rfl rfl 2 8 rfl rfl Md.h.1 Md.h.2) ?_
    refine uP rfl (cC rfl (by simp;omega)) ?_
    refine al rfl (cR (v:= .agg (cG (sg bs))) rfl (U7 bs)) ?_
    refine dE rfl (Rb fun b6=>⟨fun _ hw=>ah.mem hw,?_⟩)
    refine dE rfl (ox rfl rfl ⟨fun _ hw=>ah.mem hw,?_⟩)
    refine Gc ?_
    refine Gs ?_
    have Me:Rg 8 10 bs.length:=⟨by omega⟩
    refine ag (AX rfl rfl rfl 8 10 rfl rfl Me.h.1 Me.h.2) ?_
    refine fy (cC (v:= .int .u64 ((gI bs:Nat):Int)) rfl (by rw[List.length_take];omega)) ?_
    refine ag (pS rfl (by simp only[nb];omega)) ?_
    refine Gs ?_
    refine Gc ?_
    iterate 6 refine Gs ?_
    refine bZ rfl rfl rfl (fun hg=>(Ry.yl (fI rfl))) ?_
    iterate 2 refine Gg ?_
    refine bZ rfl rfl rfl (fun hg=>cC (dA (aG hg rfl) (dA (aG hg rfl) gE)) trivial) ?_
    refine bZ rfl rfl rfl (fun hg=>(Ry.yl (iR (aG hg rfl)))) ?_
    refine Gs ?_
    refine Gc ?_
    refine au rfl (fun h3=> ?_) (fun h3=> ?_)
    ·
     replace h3:=bz h3
     have ke:na bs=false:=by
      rw[EV]at h3
      cases hk:na bs with
      |false=>rfl
      |true=>
       simp only[na,Bool.and_eq_true,decide_eq_true_eq]at hk
       rw[hk.2]at h3
       simp only[Bool.true_eq_false,or_false]at h3
       omega
     have hE:cr bs=(jr,2):=by rw[cr,if_neg (by rw[h0];simp),if_neg (by rw[h1];simp),if_neg yO,if_pos ke]
     refine Gc ?_
     refine ag (cR (v:= .agg (cG m9)) rfl (fun w=>by kernel_rfl)) ?_
     iterate 2 refine Gs ?_
     refine Gc ?_
     refine aq (.inl rfl) (bm rfl (cc rfl) (ak rfl)) (fun w1 hw=> ?_)
     exact⟨m9,by rw[hE],by rw[hE];rfl,Mem.dP aM 1 (ah.mem hw:Mem w [] _)⟩
    ·
     replace h3:=bz h3
     have ke:na bs=true:=by
      rw[EV]at h3
      simp only[na,Bool.and_eq_true,decide_eq_true_eq]
      exact⟨by omega,h3.2⟩
     have hmr:(gI bs:Int)≤dv bs.length:=by simp only[na,Bool.and_eq_true,decide_eq_true_eq]at ke;exact ke.1
     have tH:(mr bs).length=(kV bs).length -(10+gI bs):=by rw[mr,List.length_take,List.length_drop];omega
     have gr:Gv w ((b.sub 1 0 (bs.length -4)).sub 1 (10+gI bs) (kV bs).length) aM 1 (mr bs):=⟨(hb.sub (lo:=0) (hi:=bs.length -4) (by omega) (by omega)).sub (lo:=10+gI bs) (hi:=(kV bs).length) (by omega) (Nat.le_refl _)⟩
     refine Gc ?_
     iterate 3 refine Gs ?_
     have Va:Rg (10+gI bs) ((kV bs).length) (kV bs).length:=⟨by omega⟩
     refine ag (AY rfl rfl (10+gI bs) rfl Va.h.1) ?_
     iterate 2 refine Gs ?_
     refine Gc ?_
     refine ca (X:=Nat) (fun zz=>[(69, .int .i64 (zz:Nat)),(0,b.val),(2, .pointer (some ⟨b2,0,none⟩)),(6, .pointer (some ⟨b6,0,none⟩)),(7, .int .i64 (gI bs:Nat)),(67,((b.sub 1 0 (bs.length -4)).sub 1 (10+gI bs) (kV bs).length).val),(68, .int .i64 ((mr bs).length:Nat))]) (fun zz=>[ar b6 (cG (sg bs)) 110,ar b2 (cG m9) 110]) (fun zz=>zz≤(mr bs).length∧ ∀j x,j<zz→(mr bs)[j]? =Option.some x→x=0) (fun zz=>(mr bs).length -zz) 0 ⟨Nat.zero_le _,fun j x hj=>by first|omega|(simp only[];omega)⟩ (Sub.cons rfl (Sub.cons rfl (Sub.cons rfl (Sub.cons rfl (Sub.cons rfl (Sub.cons rfl (Sub.cons rfl (Sub.nil _)))))))) (fun w hw=>ah.mem hw) ?_
     rintro i ⟨bh,aF⟩
     refine Gc ?_
     refine Gs ?_
     refine Gc ?_
     refine au rfl (fun h4=> ?_) (fun h4=> ?_)
     ·
      replace h4:=bz h4
      iterate 6 refine Gi ?_
      obtain⟨y,hy⟩:=get_some (xs:=(mr bs)) (i:=i) (by omega)
      refine ag (bg rfl rfl i rfl (by omega)) ?_
      refine ag (bL (j:=0) rfl i hy rfl (by decide)) ?_
      refine Gs ?_
      refine Gc ?_
      iterate 2 refine Gs ?_
      refine Gc ?_
      refine au rfl (fun h5=> ?_) (fun h5=> ?_)
      ·
       replace h5:=bz h5
       have su:tm (mr bs)=false:=by
        cases hk:tm (mr bs)with
        |false=>rfl
        |true=>exact absurd (congrArg UInt8.toNat (ET.1 hk y (List.mem_of_getElem? hy))) (by intro e;exact h5 (by rw[e];rfl))
       have hE:cr bs=(jr,2):=by rw[cr,if_neg (by rw[h0];simp),if_neg (by rw[h1];simp),if_neg yO,if_neg (by rw[ke];simp),if_pos su]
       refine Gc ?_
       refine ag (cR (v:= .agg (cG m9)) rfl (fun w=>by kernel_rfl)) ?_
       iterate 2 refine Gs ?_
       refine Gc ?_
       refine aq (.inl rfl) (bm rfl (cc rfl) (ak rfl)) (fun w1 hw=> ?_)
       exact⟨m9,by rw[hE],by rw[hE];rfl,Mem.dP aM 1 (ah.mem hw:Mem w [] _)⟩
      ·
       replace h5:=bz h5
       have F7:y=0:=UInt8.toNat_inj.1 (show y.toNat=0 by omega)
       refine Gc ?_
       iterate 2 refine Gs ?_
       refine Gi ?_
       exact bx (x:=(i)) (i+1) ⟨by first|omega|(simp only[];omega),fun j x hj hx=>if e:j=i then(by subst e;rw[hy]at hx;cases hx;exact F7)else aF j x (by first|omega|(simp only[];omega)) hx⟩ (by first|omega|(simp only[];omega)) (Sub.cons rfl (Sub.cons rfl (Sub.cons rfl (Sub.cons rfl (Sub.cons rfl (Sub.cons rfl (Sub.cons rfl (Sub.nil _)))))))) (fun w hw=>ah.mem hw)
     ·
      replace h4:=bz h4
      obtain rfl:i=(mr bs).length:=by omega
      have su:tm (mr bs)=true:=ET.2 fun x hx=>by
       obtain⟨j,hj⟩:=List.getElem?_of_mem hx
       exact aF j x (List.getElem?_eq_some_iff.1 hj).1 hj
      have hE:cr bs=({sf bs with body:=((bs.drop 10).take (10+gI bs -10))},0):=by rw[cr,if_neg (by rw[h0];simp),if_neg (by rw[h1];simp),if_neg yO,if_neg (by rw[ke];simp),if_neg (by rw[su];simp)]
      refine Gc ?_
      iterate 2 refine Gs ?_
      refine Gc ?_
      refine au rfl (fun h6=> ?_) (fun h6=> ?_)
      ·
       replace h6:=bz h6
       refine Gi ?_
       iterate 3 refine Gs ?_
       have Mf:Rg 10 (10+gI bs) bs.length:=⟨by omega⟩
       refine ag (AX rfl rfl rfl 10 (10+gI bs) rfl rfl Mf.h.1 Mf.h.2) ?_
       refine bq rfl (by simp only[List.length_take,List.length_drop];omega) fun Ga agH=> ?_
       refine Gs ?_
       refine eN (cs':=cG (⟨((bs.getD 0 0).toNat:Int),((bs.getD 1 0).toNat:Int),(UInt64.ofNat (de ((bs.drop 2).take (8 -2)))),⟨Ga,((bs.drop 10).take ((10+gI bs) -10))⟩⟩:eo)) rfl rfl (by show 3<4;decide) (by first|rfl|exact Sv.one _) rfl ?_
       refine Gc ?_
       iterate 3 refine Gs ?_
       refine Gc ?_
       refine aq (.inl rfl) (bm rfl (cc rfl) (ak rfl)) (fun w1 hw=> ?_)
       exact⟨⟨((bs.getD 0 0).toNat:Int),((bs.getD 1 0).toNat:Int),UInt64.ofNat (de ((bs.drop 2).take (8 -2))),⟨Ga,((bs.drop 10).take (10+gI bs -10))⟩⟩,by rw[hE],by rw[hE];exact Ki bs Ga ((bs.drop 10).take (10+gI bs -10)),ah.mem hw⟩
      ·
       replace h6:=bz h6
       have mD:gI bs=0:=by omega
       refine Gc ?_
       iterate 3 refine Gs ?_
       refine Gc ?_
       refine aq (.inl rfl) (bm rfl (cc rfl) (ak rfl)) (fun w1 hw=> ?_)
       exact⟨sg bs,by rw[hE],by rw[hE,EV,mD];simp[sf],Mem.dP aM 1 (ah.mem hw:Mem w [] _)⟩
instance agI{w0:World}{L:List ai}{b:Sv}{bs:List UInt8}[hb:c0 w0 L aM 1 b bs]:cl Tryz.prog 96 w0 L [b.val] (eo) (fun zz=> .tuple #[.agg (cG zz), .int .i64 ((cr bs).2)]) (fun zz=>own aM 1 zz.body.sv zz.body.xs::L) (fun zz=>cD zz=(cr bs).1) (True):=⟨fun hp w hw=>(U8 w b bs (hb.h w hw)).mono fun e w' ⟨x,h1,h2,h3⟩=>⟨x,h1,h2,hw.call h3⟩⟩
open Go.aC Go.Kb
open Go.RowKit
theorem Vb(w:World)(c:Cp)(id:Int)(n:Int)(hc:Deep.aY (hp w) c)(bb:aT (cv c)=true∧1≤n∧n≤1000000):Calls Tryz.prog 132 #[.agg (aB c), .int .i64 id, .int .i64 n] w fun e w'=>e= .returned (.bool (lS (cv c) id n))∧Mem w [] w':=by
 have jR:cg w c:=⟨hc⟩
 obtain⟨hk,xi,tL⟩:=bb
 have dt:=fu c.blocks.xs
 have gX:=jI.1 (eU.1 hk).1
 simp only[cv,dt]at gX
 have zw:0≤((n -1)/c.pages):=Int.ediv_nonneg (by omega) (by omega)
 have Ig:((n -1)/c.pages)≤n -1:=Int.ediv_le_self _ (by omega)
 have mD:0≤((n -1)%c.pages):=Int.emod_nonneg _ (by omega)
 have nR:((n -1)%c.pages)<c.pages:=Int.emod_lt_of_pos _ (by omega)
 have nS:=uU (c:=c) (b:=((n -1)/c.pages))
 have Gb:(c.blocks.xs.getD ((n -1)/c.pages).toNat oA).used=(aj (cv c) ((n -1)/c.pages)).used:=congrArg BV.used nS
 refine ba (args:=[_,_,_]) Tryz.func132 rfl Tryz.ntmps132 rfl ?_
 change Cw _ _ _ _ _ [(0, .agg (aB c)),(1, .int .i64 id),(2, .int .i64 n)] []
 refine Gc ?_
 refine bX rfl fun b3=> ?_
 refine Gs ?_
 refine Gc ?_
 refine gO (by kernel_rfl) (by kernel_rfl) ?_
 iterate 4 refine Gq ?_
 refine bc (oc rfl rfl (by omega) (by omega)) ?_
 iterate 4 refine Gq ?_
 refine bc (yk rfl rfl (by omega) (by omega)) ?_
 iterate 2 refine Gq ?_
 refine Gc ?_
 iterate 3 refine Gs ?_
 iterate 5 refine Gg ?_
 iterate 2 refine Gs ?_
 iterate 4 refine Gg ?_
 refine bZ rfl rfl rfl (fun hg=>(Ry.yl (bg (aG hg rfl) (aG hg rfl) (((n -1)/c.pages).toNat) (by simp only[Z0,Z1,Z2,Z3,Z4,Z5,Z6,Z7,Z8,Z9]at hg;omega) (by simp only[Z0,Z1,Z2,Z3,Z4,Z5,Z6,Z7,Z8,Z9]at hg;omega)))) ?_
 refine bZ rfl rfl rfl (fun hg=>(Ry.yl (aH (aG hg rfl) rfl))) ?_
 refine bZ rfl rfl rfl (fun hg=>(Ry.yl (bL (j:=1) (aG hg rfl) (((n -1)/c.pages).toNat) (oh (xs:=c.blocks.xs) (i:=((n -1)/c.pages).toNat) (d:=oA) (by simp only[Z0,Z1,Z2,Z3,Z4,Z5,Z6,Z7,Z8,Z9]at hg;omega)) rfl (by decide)))) ?_
 refine Gg ?_
 refine Gs ?_
 refine Gc ?_
 refine au rfl (fun h0=> ?_) (fun h0=> ?_)
 ·
  replace h0:=bz h0
  have hz:lS (cv c) id n=false:=by
   cases rA:jJ (cv c) (n -1)with
   |false=>rw[lS,rA];rfl
   |true=>
    obtain⟨g1,g2,g3⟩:=lj.1 rA
    change 2≤((n -1)/c.pages)at g1
    change((n -1)/c.pages)<((gu c.blocks.xs).length:Int)at g2
    change((n -1)%c.pages)<(aj (cv c) ((n -1)/c.pages)).used at g3
    rw[dt]at g2
    omega
  refine Gc ?_
  refine Gs ?_
  refine Gc ?_
  refine aq (.inl rfl) (aI rfl (ak rfl)) (fun w1 hw=> ?_)
  exact⟨congrArg (fun b=>Ending.returned (Value.bool b)) (hz.symm),ah.mem hw⟩
 ·
  replace h0:=bz h0
  have bU:jJ (cv c) (n -1)=true:=lj.2 ⟨show 2≤((n -1)/c.pages) by omega,by simp only[cv,dt];omega,show((n -1)%c.pages)<(aj (cv c) ((n -1)/c.pages)).used by omega⟩
  obtain⟨B,hB⟩:=get_some (xs:=c.blocks.xs) (i:=((n -1)/c.pages).toNat) (by omega)
  have qx:Mb B c.blocks:=⟨List.mem_of_getElem? hB⟩
  have eH:bv B=aj (cv c) ((n -1)/c.pages):=by rw[←nS];simp[List.getD,hB]
  have fP:=dX.1 ((eU.1 hk).2.2.2.2 (bv B) (List.mem_of_getElem? (iV hB)))
  have iO:=jo B.pages.xs
  have zx:(B.pages.xs.length:Int)=c.pages:=by have:=fP.1;simp only[bv,cv,iO]at this;exact this
  obtain⟨y,hy⟩:=get_some (xs:=B.pages.xs) (i:=((n -1)%c.pages).toNat) (by omega)
  have vj:Mb y B.pages:=⟨List.mem_of_getElem? hy⟩
  have oH:bJ (cv c) (n -1)=y.xs:=by
   show(aj (cv c) ((n -1)/c.pages)).pages.getD ((n -1)%c.pages).toNat []=y.xs
   rw[←eH]
   simp[bv,List.getD,kS hy]
  refine Gc ?_
  iterate 3 refine Gs ?_
  refine ag (bg rfl rfl (((n -1)/c.pages).toNat) (by omega) (by omega)) ?_
  refine ag (aH rfl rfl) ?_
  refine ag (bL (j:=0) rfl (((n -1)/c.pages).toNat) hB rfl (by decide)) ?_
  have agJ:Mb B _:=⟨List.mem_of_getElem? hB⟩
  refine Gs ?_
  refine ag (bg rfl rfl (((n -1)%c.pages).toNat) (by omega) (by omega)) ?_
  refine ag (bL (j:=0) rfl (((n -1)%c.pages).toNat) hy rfl (by decide)) ?_
  have agK:Mb y _:=⟨List.mem_of_getElem? hy⟩
  refine bq rfl trivial fun nT vk=> ?_
  have e1:nT.kind=(cr y.xs).1.kind:=congrArg PV.kind vk
  have e2:nT.id=(cr y.xs).1.id:=congrArg PV.id vk
  refine Gs ?_
  refine ag (aV (v:= .agg (cG nT)) rfl rfl) ?_
  refine ag (aV (v:= .int .i64 ((cr y.xs).2)) rfl rfl) ?_
  refine bK fun b9=> ?_
  iterate 2 refine Gs ?_
  refine Gc ?_
  iterate 3 refine Gs ?_
  iterate 3 refine Gg ?_
  iterate 2 refine Gs ?_
  iterate 4 refine Gg ?_
  iterate 2 refine Gs ?_
  refine Gc ?_
  refine aq (.inl rfl) (aI rfl (ak rfl)) (fun w1 hw=> ?_)
  exact⟨congrArg (fun b=>Ending.returned (Value.bool b)) ((by rw[lS,bU,oH,BN,←e1,←e2];rfl)),ah.mem hw⟩
instance agL{w0:World}{L:List ai}{c:Cp}{id:Int}{n:Int}[hc:aU w0 L c]:cB Tryz.prog 132 w0 L [.agg (aB c), .int .i64 id, .int .i64 n] (.bool (lS (cv c) id n)) (aT (cv c)=true∧1≤n∧n≤1000000):=⟨fun hp w hw=>Vb w c id n (hc.h w hw) hp⟩
open Go.aC Go.Kb
open Go.RowKit
def mE(n:Int):Value:= .int .i64 n
def oL(_:Unit):Value:= .agg #[]
instance:zo mE:=⟨fun h=>by simpa[mE]using h⟩
instance:zn Tryz.prog 3:=⟨Maps.int_keyed Tryz.underlying3⟩
instance:w8 Tryz.prog 162 3 163:=⟨Tryz.underlying162⟩
instance:fe Tryz.prog 163 (.agg #[]):=⟨by kernel_rfl⟩
instance:fW (#[]:Array Value) 0:=⟨rfl,by simp⟩
theorem Gd{n:Int}(h: -9223372036854775808≤n∧n≤9223372036854775807): ∃l,keyOf Tryz.prog 3 (mE n)=some l:=⟨_,Maps.keyOf_int_mk Tryz.underlying3 (by simp[Lit.wf,IntKind.min,IntKind.max,IntKind.signed,IntKind.bits];omega)⟩
theorem Vc(w:World)(c:Cp)(t:Sv)(ts:List Int)(hc:Deep.aY (hp w) c)(ht:bQ bG 1 (hp w) t ts)(bb:aT (cv c)=true∧ ∀x∈ts,0≤x∧x≤65535):Calls Tryz.prog 91 #[.agg (aB c),t.val] w fun e w'=>e= .returned (.bool (ra (cv c) ts))∧Mem w [] w':=by
 have jR:cg w c:=⟨hc⟩
 have CA:Gv w t bG 1 ts:=⟨ht⟩
 obtain⟨hk,nj⟩:=bb
 have iJ:=ht.bd
 refine ba (args:=[_,_]) Tryz.func91 rfl Tryz.ntmps91 rfl ?_
 change Cw _ _ _ _ _ [(0, .agg (aB c)),(1,t.val)] []
 refine Gc ?_
 refine bX rfl fun b2=> ?_
 refine Gs ?_
 refine Gc ?_
 iterate 2 refine Gs ?_
 refine Um mE oL rfl fun tM=> ?_
 refine Gs ?_
 refine Gc ?_
 iterate 3 refine Gs ?_
 refine Gc ?_
 refine ca (X:=Nat) (fun zz=>[(15, .int .i64 (zz:Nat)),(5, .map (some tM)),(2, .pointer (some ⟨b2,0,none⟩)),(13,t.val),(14, .int .i64 (ts.length:Nat))]) (fun zz=>[omap Tryz.prog 3 mE oL tM (jK ts zz),ar b2 (aB c) 25]) (fun zz=>zz≤ts.length∧ ∀j,j<zz→po (cv c) ts j=true) (fun zz=>ts.length -zz) 0 ⟨Nat.zero_le _,fun j hj=>by first|omega|(simp only[];omega)⟩ (Sub.cons rfl (Sub.cons rfl (Sub.cons rfl (Sub.cons rfl (Sub.cons rfl (Sub.nil _)))))) (fun w hw=>by
  rw[←Kl];exact ah.mem hw) ?_
 rintro i ⟨bh,aF⟩
 refine Gc ?_
 refine Gs ?_
 refine Gc ?_
 refine au rfl (fun h0=> ?_) (fun h0=> ?_)
 ·
  replace h0:=bz h0
  obtain⟨y,hy⟩:=get_some (xs:=ts) (i:=i) (by omega)
  have Vd:=nj y (List.mem_of_getElem? hy)
  have nk:=nL hy
  have tN:=Gd (n:=y) (by omega)
  refine Gc ?_
  refine Gs ?_
  refine ag (bg rfl rfl i rfl (by omega)) ?_
  refine ag (bL (j:=0) rfl i hy rfl (by decide)) ?_
  iterate 2 refine Gs ?_
  refine Gc ?_
  iterate 2 refine Gs ?_
  refine Gc ?_
  refine au rfl (fun h1=> ?_) (fun h1=> ?_)
  ·
   replace h1:=bz h1
   subst h1
   have bP:po (cv c) ts i=true:=by rw[po,nk];rfl
   refine Gc ?_
   iterate 2 refine Gs ?_
   refine Gi ?_
   exact bx (x:=(i)) (i+1) ⟨by first|omega|(simp only[];omega),fun j hj=>if e:j=i then e▸bP else aF j (by first|omega|(simp only[];omega))⟩ (by first|omega|(simp only[];omega)) (Sub.cons rfl (Sub.cons rfl (Sub.cons rfl (Sub.cons rfl (Sub.cons rfl (Sub.nil _)))))) (fun w hw=>by
    rw[Km hy];exact ah.mem hw)
  ·
   replace h1:=bz h1
   refine Gc ?_
   iterate 2 refine Gs ?_
   refine ag (FX (cZ:=mE) (dW:=oL) (f:=jK ts i) (v:=y) (z:=()) rfl rfl tN) ?_
   refine Gs ?_
   refine ag (aV (v:= .agg #[]) rfl rfl) ?_
   refine ag (aV (v:= .bool ((jK ts i y).isSome)) rfl rfl) ?_
   refine bK fun b8=> ?_
   iterate 2 refine Gs ?_
   refine Gc ?_
   iterate 2 refine Gs ?_
   refine bZ rfl rfl rfl (fun hg=>(Ry.yl (fI rfl))) ?_
   iterate 2 refine Gg ?_
   refine bZ rfl rfl rfl (fun hg=>cC (dA (aG hg rfl) (dA (aG hg rfl) (dA (aG hg rfl) gE))) ⟨hk,by omega,by omega⟩) ?_
   refine bZ rfl rfl rfl (fun hg=>(Ry.yl (iR (aG hg rfl)))) ?_
   refine Gs ?_
   refine Gc ?_
   refine au rfl (fun h2=> ?_) (fun h2=> ?_)
   ·
    replace h2:=bz h2
    have hz:ra (cv c) ts=false:=by
     cases rA:ra (cv c) ts with
     |false=>rfl
     |true=>
      have g:=y5.1 rA i (by omega)
      rw[po,nk]at g
      rw[y6]at h2
      simp only[Bool.or_eq_true,Bool.and_eq_true,decide_eq_true_eq,Bool.not_eq_true',List.contains_eq_mem,decide_eq_false_iff_not]at g h2
      rcases g with g|g
      ·
       exact absurd g h1
      ·
       rcases h2 with h2|h2
       ·
        exact absurd h2.2 g.1
       ·
        rw[g.2]at h2;cases h2
    refine Gc ?_
    refine Gs ?_
    refine Gc ?_
    refine aq (.inl rfl) (aI rfl (ak rfl)) (fun w1 hw=> ?_)
    exact⟨congrArg (fun b=>Ending.returned (Value.bool b)) (hz.symm),ah.mem hw⟩
   ·
    replace h2:=bz h2
    have bP:po (cv c) ts i=true:=by
     rw[y6]at h2
     rw[po,nk]
     simp only[Bool.or_eq_true,Bool.and_eq_true,decide_eq_true_eq,Bool.not_eq_true',List.contains_eq_mem,decide_eq_false_iff_not]at h2⊢
     exact .inr ⟨fun hm=>h2.1 ⟨h1,hm⟩,h2.2⟩
    have eM:=Kn hy h1
    refine Gc ?_
    iterate 2 refine Gs ?_
    refine ag (cR (v:= .agg #[]) rfl (fun w=>by kernel_rfl)) ?_
    refine FY (cZ:=mE) (dW:=oL) (v:=y) (u:=()) rfl rfl rfl tN ?_
    refine Gc ?_
    iterate 2 refine Gs ?_
    refine Gi ?_
    exact bx (x:=(i)) (i+1) ⟨by first|omega|(simp only[];omega),fun j hj=>if e:j=i then e▸bP else aF j (by first|omega|(simp only[];omega))⟩ (by first|omega|(simp only[];omega)) (Sub.cons rfl (Sub.cons rfl (Sub.cons rfl (Sub.cons rfl (Sub.cons rfl (Sub.nil _)))))) (fun w hw=>by
     rw[←eM];exact ah.mem hw)
 ·
  replace h0:=bz h0
  obtain rfl:i=ts.length:=by omega
  have hz:ra (cv c) ts=true:=y5.2 fun j hj=>aF j hj
  refine Gc ?_
  refine Gs ?_
  refine Gc ?_
  refine aq (.inl rfl) (aI rfl (ak rfl)) (fun w1 hw=> ?_)
  exact⟨congrArg (fun b=>Ending.returned (Value.bool b)) (hz.symm),ah.mem hw⟩
instance agM{w0:World}{L:List ai}{c:Cp}{t:Sv}{ts:List Int}[hc:aU w0 L c][ht:c0 w0 L bG 1 t ts]:cB Tryz.prog 91 w0 L [.agg (aB c),t.val] (.bool (ra (cv c) ts)) (aT (cv c)=true∧ ∀x∈ts,0≤x∧x≤65535):=⟨fun hp w hw=>Vc w c t ts (hc.h w hw) (ht.h w hw) hp⟩
open Go.aC Go.Kb
open Go.RowKit
instance:fe Tryz.prog 50 (.agg (br dH)):=⟨by kernel_rfl⟩
theorem Ve(u v:Int)(b:Bool)(w:World):(Instr.build 50 #[(1, .int .i64 u),(2, .int .i64 v),(3, .bool b)]).run Tryz.prog w= .ok (.agg (br ⟨0,u,v,b⟩)) w:=by
 unfold br
 kernel_rfl
theorem Vf(w:World)(c:Cp)(l:Sl (Sl Int))(hc:Deep.aY (hp w) c)(hl:Deep.aY (hp w) l)(bb:qe (cv c) (aw l.xs)):Calls Tryz.prog 51 #[.agg (aB c),l.sv.val] w fun e w'=> ∃zz:Sv,e= .returned (zz.val)∧(True)∧Mem w [own br 4 zz (iD (cv c) (aw l.xs))] w':=by
 have jR:cg w c:=⟨hc⟩
 have oM:cg w l:=⟨hl⟩
 obtain⟨⟨hk,lQ⟩,ql,hG⟩:=bb
 have iJ:=hl.1.bd
 have dt:=fu c.blocks.xs
 have oI:(cv c).blocks.length=c.blocks.xs.length:=dt
 have gX:=jI.1 (eU.1 hk).1
 simp only[cv,dt]at gX
 have mn:=wI (cv c) (aw l.xs)
 rw[oI]at mn
 have tH:(List.replicate (c.blocks.xs.length -2) dH).length=c.blocks.xs.length -2:=List.length_replicate
 refine ba (args:=[_,_]) Tryz.func51 rfl Tryz.ntmps51 rfl ?_
 change Cw _ _ _ _ _ [(0, .agg (aB c)),(1,l.sv.val)] []
 refine Gc ?_
 refine bX rfl fun b2=> ?_
 refine Gs ?_
 refine Gc ?_
 iterate 4 refine Gs ?_
 refine s9 (enc:=br) (n:=(c.blocks.xs.length -2)) (cap:=(c.blocks.xs.length -2)) dH rfl rfl rfl (by omega) (by omega) (by omega) (by omega) (by omega) fun pE=> ?_
 refine Gs ?_
 refine Gc ?_
 iterate 3 refine Gs ?_
 refine Gc ?_
 refine ca (X:=Nat×List ax) (fun zz=>[(22, .int .i64 (zz.1:Nat)),(5,(⟨false,pE,0,c.blocks.xs.length -2,c.blocks.xs.length -2,none⟩:Sv).val),(1,l.sv.val),(2, .pointer (some ⟨b2,0,none⟩)),(21, .int .i64 ((List.replicate (c.blocks.xs.length -2) dH).length:Nat))]) (fun zz=>[own br 4 ⟨false,pE,0,c.blocks.xs.length -2,c.blocks.xs.length -2,none⟩ zz.2,ar b2 (aB c) 25]) (fun zz=>zz.1≤c.blocks.xs.length -2∧zz.2.length=c.blocks.xs.length -2∧zz.2.take zz.1=(jv (cv c) (aw l.xs) 0).take zz.1) (fun zz=>c.blocks.xs.length -2 -zz.1) (0,List.replicate (c.blocks.xs.length -2) dH) ⟨Nat.zero_le _,by simp,by simp⟩ (Sub.cons rfl (Sub.cons rfl (Sub.cons rfl (Sub.cons rfl (Sub.cons rfl (Sub.nil _)))))) (fun w hw=>ah.mem hw) ?_
 rintro⟨i,zs⟩ ⟨bh,aF,bt⟩
 dsimp only
 simp only at bh aF bt
 refine Gc ?_
 refine Gs ?_
 refine Gc ?_
 refine au rfl (fun h0=> ?_) (fun h0=> ?_)
 ·
  replace h0:=bz h0
  obtain⟨B,hB⟩:=get_some (xs:=c.blocks.xs) (i:=i+2) (by omega)
  have qx:Mb B c.blocks:=⟨List.mem_of_getElem? hB⟩
  obtain⟨z,hz⟩:=get_some (xs:=zs) (i:=i) (by omega)
  have wu:(zs.set i (⟨0,B.used,B.aS,B.bad⟩:ax)).take (i+1)=(jv (cv c) (aw l.xs) 0).take (i+1):=by
   have e1:=BJ (f:=id) (z':=(⟨0,B.used,B.aS,B.bad⟩:ax)) hz
   simp only[List.map_id]at e1
   rw[e1,bt,List.take_add_one,SQ,List.getElem?_map,List.getElem?_range (by omega),Option.map_some,show aj (cv c) ((i:Int)+2)=bv B from E3 (i:=i+2) hB]
   rfl
  refine Gc ?_
  iterate 2 refine Gs ?_
  refine Gc ?_
  iterate 4 refine Gs ?_
  refine ag (bg rfl rfl (i+2) rfl (by omega)) ?_
  refine ag (gG rfl (i+2) hB rfl) ?_
  have Ma:Mb B c.blocks:=⟨List.mem_of_getElem? hB⟩
  refine bK fun b7=> ?_
  refine Gs ?_
  refine Gc ?_
  iterate 8 refine Gs ?_
  refine ag (cR (v:= .agg (br (⟨0,B.used,B.aS,B.bad⟩:ax))) rfl (Ve B.used B.aS B.bad)) ?_
  refine ag (bg rfl rfl i rfl (by omega)) ?_
  refine kO (s:=⟨false,pE,0,c.blocks.xs.length -2,c.blocks.xs.length -2,none⟩) (n:=4) (k:=i) (j:=0) (a:=z) (a':=(⟨0,B.used,B.aS,B.bad⟩:ax)) (xs:=zs) (enc:=br) (c:=4) (v:= .agg (br (⟨0,B.used,B.aS,B.bad⟩:ax))) (by kernel_rfl) rfl rfl rfl hz (bu.one (enc:=br) (c:=4) _) rfl (by decide) (by rfl) ?_
  refine Gc ?_
  iterate 2 refine Gs ?_
  refine Gi ?_
  exact bx (x:=(i,zs)) (i+1,zs.set i (⟨0,B.used,B.aS,B.bad⟩:ax)) ⟨by first|omega|(simp only[];omega),by rw[List.length_set];exact aF,wu⟩ (by simp only;omega) (Sub.cons rfl (Sub.cons rfl (Sub.cons rfl (Sub.cons rfl (Sub.cons rfl (Sub.nil _)))))) (fun w hw=>ah.mem hw)
 ·
  replace h0:=bz h0
  obtain rfl:i=zs.length:=by omega
  rw[List.take_length,List.take_of_length_le (by rw[mn];omega)]at bt
  subst bt
  refine Gc ?_
  refine L6 mE oL fun CB=> ?_
  refine Gs ?_
  refine Gc ?_
  iterate 3 refine Gs ?_
  refine Gc ?_
  refine ca (X:=Nat) (fun zz=>[(45, .int .i64 (zz:Nat)),(5,(⟨false,pE,0,c.blocks.xs.length -2,c.blocks.xs.length -2,none⟩:Sv).val),(8, .map (some CB)),(2, .pointer (some ⟨b2,0,none⟩)),(43,l.sv.val),(44, .int .i64 (l.xs.length:Nat))]) (fun zz=>[omap Tryz.prog 3 mE oL CB (jK (aw l.xs) (aw (l.xs.take zz)).length),own br 4 ⟨false,pE,0,c.blocks.xs.length -2,c.blocks.xs.length -2,none⟩ (jv (cv c) (aw l.xs) (aw (l.xs.take zz)).length),ar b2 (aB c) 25]) (fun zz=>zz≤l.xs.length) (fun zz=>l.xs.length -zz) 0 (Nat.zero_le _) (Sub.cons rfl (Sub.cons rfl (Sub.cons rfl (Sub.cons rfl (Sub.cons rfl (Sub.cons rfl (Sub.nil _))))))) (fun w hw=>by
   have e0:(aw (l.xs.take 0)).length=0:=by simp[aw]
   simp only[e0];rw[←Kl];exact ah.mem hw) ?_
  rintro a ha1
  refine Gc ?_
  refine Gs ?_
  refine Gc ?_
  refine au rfl (fun h1=> ?_) (fun h1=> ?_)
  ·
   replace h1:=bz h1
   obtain⟨x,hx⟩:=get_some (xs:=l.xs) (i:=a) (by omega)
   have zy:Mb x l:=⟨List.mem_of_getElem? hx⟩
   have dL:=(hl.2 x zy.h).1.bd
   refine Gc ?_
   refine ag (bg rfl rfl a rfl (by omega)) ?_
   refine ag (bL (j:=0) rfl a hx rfl (by decide)) ?_
   have agN:Mb x _:=⟨List.mem_of_getElem? hx⟩
   refine Gs ?_
   refine Gc ?_
   iterate 3 refine Gs ?_
   refine Gc ?_
   refine ca (X:=Nat) (fun zz=>[(51, .int .i64 (zz:Nat)),(5,(⟨false,pE,0,c.blocks.xs.length -2,c.blocks.xs.length -2,none⟩:Sv).val),(8, .map (some CB)),(2, .pointer (some ⟨b2,0,none⟩)),(43,l.sv.val),(44, .int .i64 (l.xs.length:Nat)),(45, .int .i64 (a:Nat)),(49,x.sv.val),(50, .int .i64 (x.xs.length:Nat))]) (fun zz=>[omap Tryz.prog 3 mE oL CB (jK (aw l.xs) ((aw (l.xs.take a)).length+zz)),own br 4 ⟨false,pE,0,c.blocks.xs.length -2,c.blocks.xs.length -2,none⟩ (jv (cv c) (aw l.xs) ((aw (l.xs.take a)).length+zz)),ar b2 (aB c) 25]) (fun zz=>zz≤x.xs.length) (fun zz=>x.xs.length -zz) 0 (Nat.zero_le _) (Sub.cons rfl (Sub.cons rfl (Sub.cons rfl (Sub.cons rfl (Sub.cons rfl (Sub.cons rfl (Sub.cons rfl (Sub.cons rfl (Sub.cons rfl (Sub.nil _)))))))))) (fun w hw=>ah.mem hw) ?_
   rintro j ic
   refine Gc ?_
   refine Gs ?_
   refine Gc ?_
   refine au rfl (fun h2=> ?_) (fun h2=> ?_)
   ·
    replace h2:=bz h2
    obtain⟨y,hy⟩:=get_some (xs:=x.xs) (i:=j) (by omega)
    have xj:=SP hx hy
    have Ge:=hG y (List.mem_of_getElem? xj)
    have nk:=nL xj
    have tN:=Gd (n:=y) (by omega)
    refine Gc ?_
    refine ag (bg rfl rfl j rfl (by omega)) ?_
    refine ag (bL (j:=0) rfl j hy rfl (by decide)) ?_
    refine Gs ?_
    refine Gc ?_
    iterate 2 refine Gs ?_
    refine ag (FX (cZ:=mE) (dW:=oL) (f:=jK (aw l.xs) ((aw (l.xs.take a)).length+j)) (v:=y) (z:=()) rfl rfl tN) ?_
    refine Gs ?_
    refine ag (aV (v:= .agg #[]) rfl rfl) ?_
    refine ag (aV (v:= .bool ((jK (aw l.xs) ((aw (l.xs.take a)).length+j) y).isSome)) rfl rfl) ?_
    refine bK fun jB=> ?_
    iterate 2 refine Gs ?_
    refine Gc ?_
    iterate 3 refine Gs ?_
    refine Gg ?_
    refine Gs ?_
    refine Gc ?_
    refine au rfl (fun h3=> ?_) (fun h3=> ?_)
    ·
     replace h3:=bz h3
     have rB:lT (aw l.xs) ((aw (l.xs.take a)).length+j)=false:=by
      rw[lT,nk]
      rw[y6]at h3
      rcases h3 with h|h
      ·
       simp[h]
      ·
       simp only[decide_eq_true_eq]at h;simp[h.2]
     have Vg:jK (aw l.xs) (((aw (l.xs.take a)).length+j)+1)=jK (aw l.xs) ((aw (l.xs.take a)).length+j):=by
      rw[y6]at h3
      rcases h3 with h|h
      ·
       exact Km (h▸xj)
      ·
       exact SN xj (by simpa using h)
     refine Gc ?_
     iterate 2 refine Gs ?_
     refine Gi ?_
     exact bx (x:=(j)) (j+1) (by first|omega|(simp only[];omega)) (by first|omega|(simp only[];omega)) (Sub.cons rfl (Sub.cons rfl (Sub.cons rfl (Sub.cons rfl (Sub.cons rfl (Sub.cons rfl (Sub.cons rfl (Sub.cons rfl (Sub.cons rfl (Sub.nil _)))))))))) (fun w hw=>by
      rw[←Nat.add_assoc,Vg,SM rB];exact ah.mem hw)
    ·
     replace h3:=bz h3
     have me:y≠0:=h3.1
     obtain⟨b1,b2,b3,b4⟩:=Ge.resolve_left me
     change 2≤((y -1)/c.pages)at b3
     change((y -1)/c.pages)<((gu c.blocks.xs).length:Int)at b4
     rw[dt]at b4
     have rB:lT (aw l.xs) ((aw (l.xs.take a)).length+j)=true:=by
      rw[lT,nk]
      have h9:=h3.2
      rw[y6]at h9
      simp only[decide_eq_false_iff_not]at h9
      simp only[Bool.and_eq_true,decide_eq_true_eq,Bool.not_eq_true',List.contains_eq_mem,decide_eq_false_iff_not]
      exact⟨me,fun hm=>h9 ⟨me,hm⟩⟩
     have eM:=Kn xj me
     have yI:=wI (cv c) (aw l.xs) ((aw (l.xs.take a)).length+j)
     rw[oI]at yI
     obtain⟨z,hz⟩:=get_some (xs:=jv (cv c) (aw l.xs) ((aw (l.xs.take a)).length+j)) (i:=(((y -1)/c.pages) -2).toNat) (by omega)
     have oN:=SO rB (i:=(((y -1)/c.pages) -2).toNat) (by rw[nk];show((y -1)/c.pages)=_;omega) hz
     have oK:=SR hz
     have bU:=(List.getElem?_eq_some_iff.1 xj).1
     refine Gc ?_
     iterate 2 refine Gs ?_
     refine ag (cR (v:= .agg #[]) rfl (fun w=>by kernel_rfl)) ?_
     refine FY (cZ:=mE) (dW:=oL) (v:=y) (u:=()) rfl rfl rfl tN ?_
     refine Gc ?_
     iterate 5 refine Gs ?_
     refine ag (oc rfl rfl (by omega) (by omega)) ?_
     refine Gs ?_
     refine ag (bg rfl rfl ((((y -1)/c.pages) -2).toNat) (by omega) (by omega)) ?_
     refine ag (aH rfl rfl) ?_
     refine ag (bL (j:=0) rfl ((((y -1)/c.pages) -2).toNat) hz rfl (by decide)) ?_
     refine Gs ?_
     refine ag (bg rfl rfl ((((y -1)/c.pages) -2).toNat) (by omega) (by omega)) ?_
     refine ag (aH rfl rfl) ?_
     refine kO (s:=⟨false,pE,0,c.blocks.xs.length -2,c.blocks.xs.length -2,none⟩) (n:=1) (k:=(((y -1)/c.pages) -2).toNat) (j:=0) (a:=z) (a':={z with live:=z.live+1}) (xs:=(jv (cv c) (aw l.xs) ((aw (l.xs.take a)).length+j))) (enc:=br) (c:=4) (v:= .int .i64 (z.live+1)) (by kernel_rfl) rfl rfl rfl hz (by simp[Value.cells,Value.oneCell']) (by rfl) (by decide) (by rfl) ?_
     refine Gc ?_
     iterate 2 refine Gs ?_
     refine Gi ?_
     exact bx (x:=(j)) (j+1) (by first|omega|(simp only[];omega)) (by first|omega|(simp only[];omega)) (Sub.cons rfl (Sub.cons rfl (Sub.cons rfl (Sub.cons rfl (Sub.cons rfl (Sub.cons rfl (Sub.cons rfl (Sub.cons rfl (Sub.cons rfl (Sub.nil _)))))))))) (fun w hw=>by
      rw[←Nat.add_assoc,←eM,oN];exact ah.mem hw)
   ·
    replace h2:=bz h2
    obtain rfl:j=x.xs.length:=by omega
    refine Gc ?_
    iterate 2 refine Gs ?_
    refine Gi ?_
    exact bx (x:=(a)) (a+1) (by first|omega|(simp only[];omega)) (by first|omega|(simp only[];omega)) (Sub.cons rfl (Sub.cons rfl (Sub.cons rfl (Sub.cons rfl (Sub.cons rfl (Sub.cons rfl (Sub.nil _))))))) (fun w hw=>by
     rw[Kx hx,List.length_append];exact ah.mem hw)
  ·
   replace h1:=bz h1
   obtain rfl:a=l.xs.length:=by omega
   rw[List.take_length]
   refine Gc ?_
   iterate 2 refine Gs ?_
   refine Gc ?_
   refine aq (.inl rfl) (aI rfl (ak rfl)) (fun w1 hw=> ?_)
   exact⟨⟨false,pE,0,c.blocks.xs.length -2,c.blocks.xs.length -2,none⟩,rfl,trivial,by rw[iD];exact ah.mem hw⟩
instance agO{w0:World}{L:List ai}{c:Cp}{l:Sl (Sl Int)}[hc:aU w0 L c][hl:aU w0 L l]:cl Tryz.prog 51 w0 L [.agg (aB c),l.sv.val] (Sv) (fun zz=>zz.val) (fun zz=>own br 4 zz (iD (cv c) (aw l.xs))::L) (fun zz=>True) (qe (cv c) (aw l.xs)):=⟨fun hp w hw=>(Vf w c l (hc.h w hw) (hl.h w hw) hp).mono fun e w' ⟨x,h1,h2,h3⟩=>⟨x,h1,h2,hw.call h3⟩⟩
end Go.Proofs.YtaipiecplldinaaGreat
namespace Go.aC
open Go.RowKit
section
variable {P:Program} {N:cz} {w0:World} {env:Env} {L:List ai} {d:Option Tmp} {ty:TypeId} {ps:String} {af:Array Edge} {gd:Option (Nat×Bool)}
class lz(w0:World)(L:List ai)(b:Nat)(cs:outParam (Array Value))(T:outParam TypeId):Prop where
 h: ∀w,Mem w0 L w→w.heap[b]? =some (.cells cs T (0,0))
class pF(w0:World)(b:Nat)(cs:outParam (Array Value))(T:outParam TypeId):Prop where
 h:w0.heap[b]? =some (.cells cs T (0,0))
instance (priority:=high) lz.has {b i:Nat}{cs:Array Value}{T:TypeId}[q:Has L b cs T i]:lz w0 L b cs T:=⟨fun w hw=>hw.block q.h⟩
instance lz.xk{b:Nat}{cs:Array Value}{T:TypeId}[q:pF w0 b cs T]:lz w0 L b cs T:=⟨fun w hw=>by
 have bp:b<w0.heap.size:=by
  rcases Nat.lt_or_ge b w0.heap.size with h|h
  ·
   exact h
  ·
   have:=q.h;simp[Array.getElem?_eq_none h]at this
 rw[hw.below.block b bp];exact q.h⟩
theorem lz.cell{b:Nat}{cs:Array Value}{T:TypeId}(q:lz w0 L b cs T){w:World}(hw:Mem w0 L w)(o:Nat):w.cell? ⟨b,o,none⟩=cs[o]? :=by
 simp[World.cell?,q.h w hw]
theorem mF{t:TypeId}{x:Operand}{b o:Nat}{cs:Array Value}{T:TypeId}{v:Value}(hx:ev env x=some (.pointer (some ⟨b,o,none⟩)))[ht:gM P t][hi:lz w0 L b cs T][hc:cq cs o v]:
  Ry P N w0 env L ⟨d, .load t x,ty,ps,af,gd⟩ v:=vM ht hx fun w hw=>by rw[hi.cell hw];exact hc.h
theorem Vh{t:TypeId}{x:Operand}{b o n:Nat}{cs sub:Array Value}{T:TypeId}(hx:ev env x=some (.pointer (some ⟨b,o,none⟩)))[ht:gn P t n][hi:lz w0 L b cs T][hs:ob cs o n sub]:
  Ry P N w0 env L ⟨d, .load t x,ty,ps,af,gd⟩ (.agg sub):=yi ht hx hs.size fun w hw j hj=>by rw[Addr.gp,hi.cell hw];exact hs.h j hj
end
section
variable {w0:World} {L:List ai}
theorem xm{w0 w:World}{L R1 R2 R3:List ai}{e1 e2 e3:ai}{i j k:Nat}(h1:L[i]? =some e1)(d1:L.eraseIdx i=R1)(h2:R1[j]? =some e2)(d2:R1.eraseIdx j=R2)(h3:R2[k]? =some e3)(d3:R2.eraseIdx k=R3)(h:Mem w0 L w):Mem w0 (e1::e2::e3::R3) w:=by
 subst d1;subst d2;subst d3
 exact h.perm ((nA h1).trans (((nA h2).trans ((nA h3).cons _)).cons _))
theorem Vi{w0 w:World}{L R1 R2 R3 R4:List ai}{e1 e2 e3 e4:ai}{i j k l:Nat}(h1:L[i]? =some e1)(d1:L.eraseIdx i=R1)(h2:R1[j]? =some e2)(d2:R1.eraseIdx j=R2)(h3:R2[k]? =some e3)(d3:R2.eraseIdx k=R3)(h4:R3[l]? =some e4)(d4:R3.eraseIdx l=R4)(h:Mem w0 L w):Mem w0 (e1::e2::e3::e4::R4) w:=by
 subst d1;subst d2;subst d3;subst d4
 exact h.perm ((nA h1).trans (((nA h2).trans (((nA h3).trans ((nA h4).cons _)).cons _)).cons _))
end
instance (priority:=low) Hd.tail {w0:World}{L:List ai}{e:ai}{s:Sv}{α:Type}{enc:α→Array Value}{c:Nat}{xs:List α}[q:Hd w0 L s enc c xs]:Hd w0 (e::L) s enc c xs:=⟨fun w hw=>q.h w (hw.sub (List.sublist_cons_self _ _))⟩
instance (priority:=low) aU.tail {w0:World}{L:List ai}{e:ai}{τ:Type}[Deep τ]{a:τ}[q:aU w0 L a]:aU w0 (e::L) a:=⟨fun w hw=>q.h w (hw.sub (List.sublist_cons_self _ _))⟩
theorem Vj{P:Program}{N:cz}{env:Env}{α:Type}{enc:α→Array Value}{c n:Nat}{t e:TypeId}{cE:Nat}{z:Value}{x y:Operand}{d:Option Tmp}{ty:TypeId}{ps:String}{af:Array Edge}{gd:Option (Nat×Bool)}{k k':IntKind}{ix iy:Int}[he:bu enc c][ht:fg P t e c cE][hz:fe P e z](x0:α)(h0:enc x0=z.cells)(hx:ev env x=some (.int k ix))(hy:ev env y=some (.int k' iy))(ex:ix=(n:Int))(ey:iy=(n:Int))(hb:cE*n≤281474976710656)(iS:n≤140737488355328):
  ∀a,db N env a→rY P ⟨d, .makeSlice t x y,ty,ps,af,gd⟩ a.eval (qY enc c n (List.replicate n x0)):=fun a ha w0 w L hw=>by
 subst ex ey
 obtain⟨w',h1,h2⟩:=D0 ht hz (k:=k) (k':=k') (n:=n) x0 h0 (Nat.le_refl _) hb iS w
 exact⟨w.heap.size,w',by simp only[execOp,ha.ev hx,ha.ev hy,Sem.run_bind,h1,Result.andThen,Sem.run_pure],hw.call h2⟩
def pG(f:FuncId):Array Value:= #[.func (.func f) #[] #[]]
instance:bu pG 1:=⟨fun _=>rfl,fun _=>by simp[pG,Value.oneCell']⟩
instance (f:FuncId):cq (pG f) 0 (.func (.func f) #[] #[]):=⟨rfl⟩
class qy(P:Program)(w0:World)(L:List ai)(f:FuncId)(jQ:Array Value){α:outParam Type}(enc:outParam (α→Array Value))(R:outParam (α→Bool)):Prop where
 fn:aQ P f
 h: ∀w,Mem w0 L w→ ∀x,Calls P f ((Value.agg (enc x)::jQ.toList).toArray) w fun e w'=>e= .returned (.bool (R x))∧Mem w [] w'
theorem qy.at{P:Program}{w0:World}{L:List ai}{f:FuncId}{jQ:Array Value}{α:Type}{enc:α→Array Value}{R:α→Bool}(q:qy P w0 L f jQ enc R){w:World}(hw:Mem w0 L w):qy P w [] f jQ enc R:=
 ⟨q.fn,fun w1 h1 x=>q.h w1 (by simpa using hw.call h1) x⟩
end Go.aC
namespace Go.Proofs.YtaipiecplldinaaGreat
open Go.aC Go.Kb
open Go.RowKit
instance:fe Tryz.prog 234 (.agg (dn St)):=⟨by kernel_rfl⟩
theorem Gf(x:ax)(p:Int)(w:World):(Instr.build 234 #[(0, .agg (br x)),(1, .int .i64 p)]).run Tryz.prog w= .ok (.agg (dn ⟨x,p⟩)) w:=by
 obtain⟨a,b,c,d⟩:=x
 unfold dn br
 kernel_rfl
theorem Vk(w:World)(a:Int):Calls Tryz.prog 198 #[.int .i64 a] w fun e w'=>e= .returned (.bool false)∧Mem w [] w':=by
 refine ba (args:=[_]) Tryz.func198 rfl Tryz.ntmps198 rfl ?_
 change Cw _ _ _ _ _ [(0, .int .i64 a)] []
 refine Gc ?_
 refine Gs ?_
 refine Gc ?_
 iterate 4 refine Gs ?_
 refine Gc ?_
 refine aq (.inl rfl) (aI rfl (ak rfl)) (fun w1 hw=> ?_)
 exact⟨congrArg (fun b=>Ending.returned (Value.bool b)) ((by simp)),ah.mem hw⟩
instance agP{w0:World}{L:List ai}{a:Int}:cB Tryz.prog 198 w0 L [.int .i64 a] (.bool false) (True):=⟨fun hp w hw=>Vk w a⟩
theorem Vl(w:World)(a:Int)(b:Int):Calls Tryz.prog 197 #[.int .i64 a, .int .i64 b] w fun e w'=>e= .returned (.int .i64 (tp a b))∧Mem w [] w':=by
 refine ba (args:=[_,_]) Tryz.func197 rfl Tryz.ntmps197 rfl ?_
 change Cw _ _ _ _ _ [(0, .int .i64 a),(1, .int .i64 b)] []
 refine Gc ?_
 refine Gs ?_
 refine Gc ?_
 iterate 3 refine Gs ?_
 refine Gc ?_
 iterate 3 refine Gs ?_
 refine Gc ?_
 refine Gs ?_
 refine Gc ?_
 refine au rfl (fun h0=> ?_) (fun h0=> ?_)
 ·
  exfalso;simp at h0
 ·
  replace h0:=bz h0
  refine Gc ?_
  refine Gs ?_
  refine Gc ?_
  refine au rfl (fun h2=> ?_) (fun h2=> ?_)
  ·
   exfalso;simp at h2
  ·
   replace h2:=bz h2
   refine Gc ?_
   iterate 3 refine Gs ?_
   refine Gc ?_
   refine au rfl (fun h3=> ?_) (fun h3=> ?_)
   ·
    replace h3:=bz h3
    refine Gc ?_
    refine Gs ?_
    refine Gc ?_
    refine aq (.inl rfl) (aI rfl (ak rfl)) (fun w1 hw=> ?_)
    exact⟨congrArg (fun b=>Ending.returned (Value.int .i64 b)) ((by rw[tp,if_pos (by omega)])),ah.mem hw⟩
   ·
    replace h3:=bz h3
    refine Gc ?_
    iterate 3 refine Gs ?_
    refine Gc ?_
    refine au rfl (fun h4=> ?_) (fun h4=> ?_)
    ·
     replace h4:=bz h4
     refine Gc ?_
     refine Gs ?_
     refine Gc ?_
     refine aq (.inl rfl) (aI rfl (ak rfl)) (fun w1 hw=> ?_)
     exact⟨congrArg (fun b=>Ending.returned (Value.int .i64 b)) ((by rw[tp,if_neg (by omega),if_pos (by omega)])),ah.mem hw⟩
    ·
     replace h4:=bz h4
     refine Gc ?_
     refine Gs ?_
     refine Gc ?_
     refine aq (.inl rfl) (aI rfl (ak rfl)) (fun w1 hw=> ?_)
     exact⟨congrArg (fun b=>Ending.returned (Value.int .i64 b)) ((by rw[tp,if_neg (by omega),if_neg (by omega)])),ah.mem hw⟩
instance agQ{w0:World}{L:List ai}{a:Int}{b:Int}:cB Tryz.prog 197 w0 L [.int .i64 a, .int .i64 b] (.int .i64 (tp a b)) (True):=⟨fun hp w hw=>Vl w a b⟩
theorem Mg(w:World)(b:hY):Calls Tryz.prog 187 #[.agg (dn b)] w fun e w'=>e= .returned (.bool (ln b.pages b.w))∧Mem w [] w':=by
 refine ba (args:=[_]) Tryz.func187 rfl Tryz.ntmps187 rfl ?_
 change Cw _ _ _ _ _ [(0, .agg (dn b))] []
 refine Gc ?_
 refine bX rfl fun b1=> ?_
 refine Gs ?_
 refine Gc ?_
 iterate 5 refine Gs ?_
 refine Gg ?_
 refine gN rfl rfl rfl (fun hg=>(Ry.yl (aH (o':=1) (aG hg rfl) rfl))) ?_
 iterate 4 refine Gg ?_
 iterate 2 refine Gs ?_
 refine Gc ?_
 refine aq (.inl rfl) (aI rfl (ak rfl)) (fun w1 hw=> ?_)
 exact⟨congrArg (fun b=>Ending.returned (Value.bool b)) (by simp only[ln,Bool.and_assoc]),ah.mem hw⟩
instance agR{w0:World}{L:List ai}{b:hY}:cB Tryz.prog 187 w0 L [.agg (dn b)] (.bool (ln b.pages b.w)) (True):=⟨fun hp w hw=>Mg w b⟩
theorem Mh(w:World)(b:hY):Calls Tryz.prog 185 #[.agg (dn b)] w fun e w'=>e= .returned (.bool (kW b.w))∧Mem w [] w':=by
 refine ba (args:=[_]) Tryz.func185 rfl Tryz.ntmps185 rfl ?_
 change Cw _ _ _ _ _ [(0, .agg (dn b))] []
 refine Gc ?_
 refine bX rfl fun b1=> ?_
 refine Gs ?_
 refine Gc ?_
 iterate 5 refine Gs ?_
 refine Gg ?_
 refine gN rfl rfl rfl (fun hg=>(Ry.yl (aH (o':=0) (aG hg rfl) rfl))) ?_
 iterate 2 refine Gg ?_
 iterate 2 refine Gs ?_
 refine Gg ?_
 refine gN rfl rfl rfl (fun hg=>(Ry.yl (aH (o':=1) (aG hg rfl) rfl))) ?_
 iterate 2 refine Gg ?_
 iterate 2 refine Gs ?_
 refine Gc ?_
 refine aq (.inl rfl) (aI rfl (ak rfl)) (fun w1 hw=> ?_)
 exact⟨congrArg (fun b=>Ending.returned (Value.bool b)) (by simp only[kW,Bool.and_assoc]),ah.mem hw⟩
instance agS{w0:World}{L:List ai}{b:hY}:cB Tryz.prog 185 w0 L [.agg (dn b)] (.bool (kW b.w)) (True):=⟨fun hp w hw=>Mh w b⟩
theorem Vm(w:World)(b:hY):Calls Tryz.prog 189 #[.agg (dn b)] w fun e w'=>e= .returned (.bool (uY b.pages b.w))∧Mem w [] w':=by
 refine ba (args:=[_]) Tryz.func189 rfl Tryz.ntmps189 rfl ?_
 change Cw _ _ _ _ _ [(0, .agg (dn b))] []
 refine Gc ?_
 refine bX rfl fun b1=> ?_
 refine Gs ?_
 refine Gc ?_
 iterate 3 refine Gs ?_
 refine Gc ?_
 refine au rfl (fun h0=> ?_) (fun h0=> ?_)
 ·
  replace h0:=bz h0
  refine Gc ?_
  iterate 5 refine Gs ?_
  refine Gc ?_
  refine aq (.inl rfl) (aI rfl (ak rfl)) (fun w1 hw=> ?_)
  exact⟨congrArg (fun b=>Ending.returned (Value.bool b)) (by rw[uY,if_pos h0]),ah.mem hw⟩
 ·
  replace h0:=bz h0
  refine Gc ?_
  iterate 7 refine Gs ?_
  refine Gg ?_
  refine gN rfl rfl rfl (fun hg=>(Ry.yl (aH (o':=0) (aG hg rfl) rfl))) ?_
  iterate 2 refine Gg ?_
  iterate 2 refine Gs ?_
  refine Gg ?_
  refine gN rfl rfl rfl (fun hg=>(Ry.yl (aH (o':=0) (aG hg rfl) rfl))) ?_
  iterate 4 refine Gg ?_
  iterate 2 refine Gs ?_
  refine Gc ?_
  refine aq (.inl rfl) (aI rfl (ak rfl)) (fun w1 hw=> ?_)
  exact⟨congrArg (fun b=>Ending.returned (Value.bool b)) (by rw[uY,if_neg (by rw[h0];simp)]),ah.mem hw⟩
theorem Vn(w:World)(a:hY)(b:hY):Calls Tryz.prog 188 #[.agg (dn a), .agg (dn b)] w fun e w'=>e= .returned (.int .i64 (wJ a.w b.w))∧Mem w [] w':=by
 refine ba (args:=[_,_]) Tryz.func188 rfl Tryz.ntmps188 rfl ?_
 change Cw _ _ _ _ _ [(0, .agg (dn a)),(1, .agg (dn b))] []
 refine Gc ?_
 refine bX rfl fun b2=> ?_
 refine bX rfl fun b3=> ?_
 refine Gs ?_
 refine Gc ?_
 iterate 8 refine Gs ?_
 refine Gc ?_
 refine aq (.inl rfl) (aI rfl (ak rfl)) (fun w1 hw=> ?_)
 exact⟨congrArg (fun b=>Ending.returned (Value.int .i64 b)) (rfl),ah.mem hw⟩
theorem Vo(w:World)(a:hY)(b:hY):Calls Tryz.prog 186 #[.agg (dn a), .agg (dn b)] w fun e w'=>e= .returned (.int .i64 (qf a.w b.w))∧Mem w [] w':=by
 refine ba (args:=[_,_]) Tryz.func186 rfl Tryz.ntmps186 rfl ?_
 change Cw _ _ _ _ _ [(0, .agg (dn a)),(1, .agg (dn b))] []
 refine Gc ?_
 refine bX rfl fun b2=> ?_
 refine bX rfl fun b3=> ?_
 refine Gs ?_
 refine Gc ?_
 iterate 8 refine Gs ?_
 refine Gc ?_
 refine aq (.inl rfl) (aI rfl (ak rfl)) (fun w1 hw=> ?_)
 exact⟨congrArg (fun b=>Ending.returned (Value.int .i64 b)) (rfl),ah.mem hw⟩
theorem Vp(w:World)(a:hY)(b:hY):Calls Tryz.prog 191 #[.agg (dn a), .agg (dn b)] w fun e w'=>e= .returned (.int .i64 (E6 a.w b.w))∧Mem w [] w':=by
 refine ba (args:=[_,_]) Tryz.func191 rfl Tryz.ntmps191 rfl ?_
 change Cw _ _ _ _ _ [(0, .agg (dn a)),(1, .agg (dn b))] []
 refine Gc ?_
 refine bX rfl fun b2=> ?_
 refine bX rfl fun b3=> ?_
 refine Gs ?_
 refine Gc ?_
 iterate 8 refine Gs ?_
 refine Gc ?_
 refine aq (.inl rfl) (aI rfl (ak rfl)) (fun w1 hw=> ?_)
 exact⟨congrArg (fun b=>Ending.returned (Value.int .i64 b)) (rfl),ah.mem hw⟩
theorem Vq(w:World)(a:hY)(b:hY):Calls Tryz.prog 190 #[.agg (dn a), .agg (dn b)] w fun e w'=>e= .returned (.int .i64 (wK a.w b.w))∧Mem w [] w':=by
 refine ba (args:=[_,_]) Tryz.func190 rfl Tryz.ntmps190 rfl ?_
 change Cw _ _ _ _ _ [(0, .agg (dn a)),(1, .agg (dn b))] []
 refine Gc ?_
 refine bX rfl fun b2=> ?_
 refine bX rfl fun b3=> ?_
 refine Gs ?_
 refine Gc ?_
 iterate 6 refine Gs ?_
 refine ag (PK rfl rfl Tryz.underlying4) ?_
 refine Gs ?_
 refine Gc ?_
 refine au rfl (fun h0=> ?_) (fun h0=> ?_)
 ·
  replace h0:=bz h0
  refine Gc ?_
  refine Gs ?_
  refine Gc ?_
  refine aq (.inl rfl) (aI rfl (ak rfl)) (fun w1 hw=> ?_)
  exact⟨congrArg (fun b=>Ending.returned (Value.int .i64 b)) ((by rw[wK,if_pos (by simpa using h0)])),ah.mem hw⟩
 ·
  replace h0:=bz h0
  refine Gc ?_
  iterate 4 refine Gs ?_
  refine Gc ?_
  refine au rfl (fun h1=> ?_) (fun h1=> ?_)
  ·
   replace h1:=bz h1
   refine Gc ?_
   refine Gs ?_
   refine Gc ?_
   refine aq (.inl rfl) (aI rfl (ak rfl)) (fun w1 hw=> ?_)
   exact⟨congrArg (fun b=>Ending.returned (Value.int .i64 b)) ((by rw[wK,if_neg (by simpa using h0),if_pos h1])),ah.mem hw⟩
  ·
   replace h1:=bz h1
   refine Gc ?_
   refine Gs ?_
   refine Gc ?_
   refine aq (.inl rfl) (aI rfl (ak rfl)) (fun w1 hw=> ?_)
   exact⟨congrArg (fun b=>Ending.returned (Value.int .i64 b)) ((by rw[wK,if_neg (by simpa using h0),if_neg (by rw[h1];simp)])),ah.mem hw⟩
theorem Vr(w:World)(l:Sv)(ls:List ax)(p:Int)(hl:bQ br 4 (hp w) l ls):Calls Tryz.prog 195 #[l.val, .int .i64 p] w fun e w'=>e= .returned (.bool (ky ls p))∧Mem w [] w':=by
 have oM:Gv w l br 4 ls:=⟨hl⟩
 have oE:cI=1099511627776:=rfl
 refine ba (args:=[_,_]) Tryz.func195 rfl Tryz.ntmps195 rfl ?_
 change Cw _ _ _ _ _ [(0,l.val),(1, .int .i64 p)] []
 refine Gc ?_
 refine Gs ?_
 refine Gc ?_
 iterate 4 refine Gs ?_
 iterate 3 refine Gg ?_
 iterate 2 refine Gs ?_
 iterate 2 refine Gg ?_
 iterate 2 refine Gs ?_
 iterate 2 refine Gg ?_
 refine Gs ?_
 refine Gc ?_
 refine au rfl (fun h0=> ?_) (fun h0=> ?_)
 ·
  replace h0:=bz h0
  have hz:ky ls p=false:=by
   cases hk:ky ls p with
   |false=>rfl
   |true=>have g:=qg.1 hk;omega
  refine Gc ?_
  refine Gs ?_
  refine Gc ?_
  refine aq (.inl rfl) (aI rfl (ak rfl)) (fun w1 hw=> ?_)
  exact⟨congrArg (fun b=>Ending.returned (Value.bool b)) (hz.symm),ah.mem hw⟩
 ·
  replace h0:=bz h0
  refine Gc ?_
  iterate 3 refine Gs ?_
  refine Gc ?_
  refine ca (X:=Nat) (fun zz=>[(25, .int .i64 (zz:Nat)),(1, .int .i64 p),(23,l.val),(24, .int .i64 (ls.length:Nat))]) (fun zz=>[]) (fun zz=>zz≤ls.length∧ ∀j x,j<zz→ls[j]? =Option.some x→tq p x=true) (fun zz=>ls.length -zz) 0 ⟨Nat.zero_le _,fun j x hj=>by first|omega|(simp only[];omega)⟩ (Sub.cons rfl (Sub.cons rfl (Sub.cons rfl (Sub.cons rfl (Sub.nil _))))) (fun w hw=>ah.mem hw) ?_
  rintro i ⟨bh,aF⟩
  refine Gc ?_
  refine Gs ?_
  refine Gc ?_
  refine au rfl (fun h1=> ?_) (fun h1=> ?_)
  ·
   replace h1:=bz h1
   iterate 6 refine Gi ?_
   obtain⟨x,hx⟩:=get_some (xs:=ls) (i:=i) (by omega)
   refine ag (bg rfl rfl i rfl (by omega)) ?_
   refine ag (gG rfl i hx rfl) ?_
   refine bK fun b6=> ?_
   refine Gs ?_
   refine Gc ?_
   iterate 4 refine Gs ?_
   iterate 5 refine Gg ?_
   iterate 2 refine Gs ?_
   iterate 4 refine Gg ?_
   iterate 2 refine Gs ?_
   iterate 3 refine Gg ?_
   iterate 2 refine Gs ?_
   iterate 3 refine Gg ?_
   refine Gs ?_
   refine Gc ?_
   refine au rfl (fun h2=> ?_) (fun h2=> ?_)
   ·
    replace h2:=bz h2
    have hz:ky ls p=false:=by
     cases hk:ky ls p with
     |false=>rfl
     |true=>
      have g:=pq.1 ((qg.1 hk).2.2.2.2 x (List.mem_of_getElem? hx))
      omega
    refine Gc ?_
    refine Gs ?_
    refine Gc ?_
    refine aq (.inl rfl) (aI rfl (ak rfl)) (fun w1 hw=> ?_)
    exact⟨congrArg (fun b=>Ending.returned (Value.bool b)) (hz.symm),ah.mem hw⟩
   ·
    replace h2:=bz h2
    have rl:tq p x=true:=pq.2 ⟨by omega,by omega,by omega,by omega,by omega⟩
    refine Gc ?_
    iterate 2 refine Gs ?_
    refine Gi ?_
    exact bx (x:=(i)) (i+1) ⟨by first|omega|(simp only[];omega),fun j y hj hy=>if e:j=i then(by subst e;rw[hx]at hy;cases hy;exact rl)else aF j y (by first|omega|(simp only[];omega)) hy⟩ (by first|omega|(simp only[];omega)) (Sub.cons rfl (Sub.cons rfl (Sub.cons rfl (Sub.cons rfl (Sub.nil _))))) (fun w hw=>ah.mem hw)
  ·
   replace h1:=bz h1
   obtain rfl:i=ls.length:=by omega
   have hz:ky ls p=true:=qg.2 ⟨by omega,by omega,by omega,by omega,fun x hx=>by
    obtain⟨j,hj⟩:=List.getElem?_of_mem hx
    exact aF j x (List.getElem?_eq_some_iff.1 hj).1 hj⟩
   refine Gc ?_
   refine Gs ?_
   refine Gc ?_
   refine aq (.inl rfl) (aI rfl (ak rfl)) (fun w1 hw=> ?_)
   exact⟨congrArg (fun b=>Ending.returned (Value.bool b)) (hz.symm),ah.mem hw⟩
instance agT{w0:World}{L:List ai}{l:Sv}{ls:List ax}{p:Int}[hl:c0 w0 L br 4 l ls]:cB Tryz.prog 195 w0 L [l.val, .int .i64 p] (.bool (ky ls p)) (True):=⟨fun hp w hw=>Vr w l ls p (hl.h w hw)⟩
def gk(f:FuncId):ax→ax→Int:=if f=188 then wJ else if f=186 then qf else if f=191 then E6 else wK
theorem Vs{f:FuncId}(h:f∈[188,186,191,190]):aQ Tryz.prog f∧ ∀(w:World) (a b:hY),Calls Tryz.prog f #[.agg (dn a), .agg (dn b)] w fun e w'=>e= .returned (.int .i64 (gk f a.w b.w))∧Mem w [] w':=by
 simp only[List.mem_cons,List.not_mem_nil,or_false]at h
 rcases h with rfl|rfl|rfl|rfl
 ·
  exact⟨inferInstance,fun w a b=>Vn w a b⟩
 ·
  exact⟨inferInstance,fun w a b=>Vo w a b⟩
 ·
  exact⟨inferInstance,fun w a b=>Vp w a b⟩
 ·
  exact⟨inferInstance,fun w a b=>Vq w a b⟩
def kH(f:FuncId)(p:Int):ax→Bool:=if f=187 then ln p else if f=185 then kW else uY p
theorem Vt{f:FuncId}(h:f∈[187,185,189]):aQ Tryz.prog f∧ ∀(w:World) (b:hY),Calls Tryz.prog f #[.agg (dn b)] w fun e w'=>e= .returned (.bool (kH f b.pages b.w))∧Mem w [] w':=by
 simp only[List.mem_cons,List.not_mem_nil,or_false]at h
 rcases h with rfl|rfl|rfl
 ·
  exact⟨inferInstance,fun w b=>Mg w b⟩
 ·
  exact⟨inferInstance,fun w b=>Mh w b⟩
 ·
  exact⟨inferInstance,fun w b=>Vm w b⟩
theorem Vu(w:World)(a:hY)(b:hY)(o:Sv)(os:List FuncId)(ho:bQ pG 1 (hp w) o os)(bb: ∀f∈os,f∈[188,186,191,190]):Calls Tryz.prog 196 #[.agg (dn a), .agg (dn b),o.val] w fun e w'=>e= .returned (.bool (qh a.w b.w (os.map gk)))∧Mem w [] w':=by
 have Vv:Gv w o pG 1 os:=⟨ho⟩
 have iJ:=ho.bd
 refine ba (args:=[_,_,_]) Tryz.func196 rfl Tryz.ntmps196 rfl ?_
 change Cw _ _ _ _ _ [(0, .agg (dn a)),(1, .agg (dn b)),(2,o.val)] []
 refine Gc ?_
 refine bX rfl fun b3=> ?_
 refine bX rfl fun b4=> ?_
 refine Gs ?_
 refine Gc ?_
 iterate 3 refine Gs ?_
 refine Gc ?_
 refine ca (X:=Nat) (fun zz=>[(12, .int .i64 (zz:Nat)),(3, .pointer (some ⟨b3,0,none⟩)),(4, .pointer (some ⟨b4,0,none⟩)),(10,o.val),(11, .int .i64 (os.length:Nat))]) (fun zz=>[ar b4 (dn b) 234,ar b3 (dn a) 234]) (fun zz=>zz≤os.length∧qh a.w b.w (os.map gk)=qh a.w b.w ((os.drop zz).map gk)) (fun zz=>os.length -zz) 0 ⟨Nat.zero_le _,rfl⟩ (Sub.cons rfl (Sub.cons rfl (Sub.cons rfl (Sub.cons rfl (Sub.cons rfl (Sub.nil _)))))) (fun w hw=>ah.mem hw) ?_
 rintro i ⟨bh,aF⟩
 refine Gc ?_
 refine Gs ?_
 refine Gc ?_
 refine au rfl (fun h0=> ?_) (fun h0=> ?_)
 ·
  replace h0:=bz h0
  obtain⟨f,hf⟩:=get_some (xs:=os) (i:=i) (by omega)
  obtain⟨Vw,Vx⟩:=Vs (bb f (List.mem_of_getElem? hf))
  have bA:qh a.w b.w ((os.drop i).map gk)=if gk f a.w b.w≠0 then decide (gk f a.w b.w<0)else qh a.w b.w ((os.drop (i+1)).map gk):=by
   rw[wN hf,List.map_cons,qh]
  refine Gc ?_
  refine ag (bg rfl rfl i rfl (by omega)) ?_
  refine ag (bL (j:=0) rfl i hf rfl (by decide)) ?_
  refine Gs ?_
  refine Gc ?_
  iterate 3 refine Gs ?_
  refine fy (Cs (f:=f) (vs:=[.agg (dn a), .agg (dn b)]) rfl rfl (fun w1 _=>Vx w1 a b)) ?_
  refine Gs ?_
  refine Gc ?_
  iterate 2 refine Gs ?_
  refine Gc ?_
  refine au rfl (fun h1=> ?_) (fun h1=> ?_)
  ·
   replace h1:=bz h1
   have hz:qh a.w b.w (os.map gk)=decide (gk f a.w b.w<0):=by rw[aF,bA,if_pos h1]
   refine Gc ?_
   iterate 3 refine Gs ?_
   refine Gc ?_
   refine aq (.inl rfl) (aI rfl (ak rfl)) (fun w1 hw=> ?_)
   exact⟨congrArg (fun b=>Ending.returned (Value.bool b)) (hz.symm),ah.mem hw⟩
  ·
   replace h1:=bz h1
   rw[if_neg (by omega)]at bA
   refine Gc ?_
   iterate 2 refine Gs ?_
   refine Gi ?_
   exact bx (x:=(i)) (i+1) ⟨by first|omega|(simp only[];omega),by rw[aF,bA]⟩ (by first|omega|(simp only[];omega)) (Sub.cons rfl (Sub.cons rfl (Sub.cons rfl (Sub.cons rfl (Sub.cons rfl (Sub.nil _)))))) (fun w hw=>ah.mem hw)
 ·
  replace h0:=bz h0
  obtain rfl:i=os.length:=by omega
  have hz:qh a.w b.w (os.map gk)=false:=by rw[aF,List.drop_length];rfl
  refine Gc ?_
  refine Gs ?_
  refine Gc ?_
  refine aq (.inl rfl) (aI rfl (ak rfl)) (fun w1 hw=> ?_)
  exact⟨congrArg (fun b=>Ending.returned (Value.bool b)) (hz.symm),ah.mem hw⟩
instance agU{w0:World}{L:List ai}{a:hY}{b:hY}{o:Sv}{os:List FuncId}[ho:c0 w0 L pG 1 o os]:cB Tryz.prog 196 w0 L [.agg (dn a), .agg (dn b),o.val] (.bool (qh a.w b.w (os.map gk))) (∀f∈os,f∈[188,186,191,190]):=⟨fun hp w hw=>Vu w a b o os (ho.h w hw) hp⟩
theorem Vy(w:World)(r:FuncId)(l:Sv)(ls:List ax)(p:Int)(o:Sv)(os:List FuncId)(hl:bQ br 4 (hp w) l ls)(ho:bQ pG 1 (hp w) o os)(bb:r∈[187,185,189]∧ ∀f∈os,f∈[188,186,191,190]):Calls Tryz.prog 184 #[l.val, .int .i64 p, .func (.func r) #[] #[],o.val] w fun e w'=>e= .returned (.tuple #[.int .i64 ((fj ls p (kH r p) (os.map gk)).1), .bool ((fj ls p (kH r p) (os.map gk)).2)])∧Mem w [] w':=by
 have oM:Gv w l br 4 ls:=⟨hl⟩
 have Vv:Gv w o pG 1 os:=⟨ho⟩
 obtain⟨gA,Vz⟩:=bb
 obtain⟨isr,VA⟩:=Vt gA
 have iJ:=hl.bd
 refine ba (args:=[_,_,_,_]) Tryz.func184 rfl Tryz.ntmps184 rfl ?_
 change Cw _ _ _ _ _ [(0,l.val),(1, .int .i64 p),(2, .func (.func r) #[] #[]),(3,o.val)] []
 refine Gc ?_
 iterate 2 refine Gs ?_
 refine Gc ?_
 iterate 4 refine Gs ?_
 refine Gc ?_
 refine au rfl (fun h0=> ?_) (fun h0=> ?_)
 ·
  replace h0:=bz h0
  have hE:fj ls p (kH r p) (os.map gk)=(0,false):=if_neg (by rw[h0];simp)
  refine Gc ?_
  iterate 2 refine Gs ?_
  refine Gc ?_
  refine aq (.inl rfl) (bm rfl (ak rfl) (ak rfl)) (fun w1 hw=> ?_)
  exact⟨by rw[hE],ah.mem hw⟩
 ·
  replace h0:=bz h0
  have hE:fj ls p (kH r p) (os.map gk)=gS ls (kH r p) (os.map gk) ls.length:=if_pos h0
  refine Gc ?_
  iterate 2 refine Gs ?_
  refine Gc ?_
  iterate 3 refine Gs ?_
  refine Gc ?_
  refine ca (X:=Nat) (fun zz=>[(21, .int .i64 (zz:Nat)),(10, .int .i64 ((gS ls (kH r p) (os.map gk) zz).1)),(11, .bool ((gS ls (kH r p) (os.map gk) zz).2)),(0,l.val),(1, .int .i64 p),(2, .func (.func r) #[] #[]),(3,o.val),(19,l.val),(20, .int .i64 (ls.length:Nat))]) (fun zz=>[]) (fun zz=>zz≤ls.length) (fun zz=>ls.length -zz) 0 (Nat.zero_le _) (Sub.cons rfl (Sub.cons rfl (Sub.cons rfl (Sub.cons rfl (Sub.cons rfl (Sub.cons rfl (Sub.cons rfl (Sub.cons rfl (Sub.cons rfl (Sub.nil _)))))))))) (fun w hw=>ah.mem hw) ?_
  rintro i bh
  refine Gc ?_
  refine Gs ?_
  refine Gc ?_
  refine au rfl (fun h1=> ?_) (fun h1=> ?_)
  ·
   replace h1:=bz h1
   obtain⟨x,hx⟩:=get_some (xs:=ls) (i:=i) (by omega)
   have Gj:ls.getD i dH=x:=by simp[List.getD,hx]
   have hle:=E7 ls (kH r p) (os.map gk) i
   refine Gc ?_
   refine Gs ?_
   refine ag (bg rfl rfl i rfl (by omega)) ?_
   refine ag (gG rfl i hx rfl) ?_
   refine bK fun jB=> ?_
   iterate 2 refine Gs ?_
   refine Gc ?_
   iterate 2 refine Gs ?_
   refine ag (cR (v:= .agg (dn ⟨x,p⟩)) rfl (Gf x p)) ?_
   refine bK fun Cx=> ?_
   refine Gs ?_
   refine Gc ?_
   iterate 2 refine Gs ?_
   refine fy (Cs (f:=r) (vs:=[.agg (dn ⟨x,p⟩)]) rfl rfl (fun w1 _=>VA w1 ⟨x,p⟩)) ?_
   refine Gs ?_
   refine Gc ?_
   refine au rfl (fun h2=> ?_) (fun h2=> ?_)
   ·
    replace h2:=bz h2
    have bA:(gS ls (kH r p) (os.map gk) (i+1))=(gS ls (kH r p) (os.map gk) i):=by rw[gS,wL,Gj,if_neg (by rw[h2];simp)]
    refine Gc ?_
    iterate 2 refine Gs ?_
    refine Gi ?_
    exact bx (x:=(i)) (i+1) (by first|omega|(simp only[];omega)) (by first|omega|(simp only[];omega)) (Sub.cons rfl (Sub.cons (look_eq rfl (by rw[bA])) (Sub.cons (look_eq rfl (by rw[bA])) (Sub.cons rfl (Sub.cons rfl (Sub.cons rfl (Sub.cons rfl (Sub.cons rfl (Sub.cons rfl (Sub.nil _)))))))))) (fun w hw=>ah.mem hw)
   ·
    replace h2:=bz h2
    refine Gc ?_
    refine gO (by kernel_rfl) (by kernel_rfl) ?_
    iterate 3 refine Gq ?_
    refine iH rfl rfl rfl (fun hg=>(Ry.yl (fI rfl))) ?_
    iterate 2 refine Gh ?_
    refine iH rfl rfl rfl (fun hg=>(Ry.yl (bg (aG hg rfl) (aG hg rfl) ((gS ls (kH r p) (os.map gk) i).1.toNat) (by omega) (by have:=hle.1;have:=hle.2.1;have:=(List.getElem?_eq_some_iff.1 hx).1;omega)))) ?_
    refine iH rfl rfl rfl (fun hg=>(Ry.yl (gG (aG hg rfl) ((gS ls (kH r p) (os.map gk) i).1.toNat) (oh (d:=dH) (by have:=hle.1;have:=hle.2.1;have:=(List.getElem?_eq_some_iff.1 hx).1;omega)) rfl))) ?_
    refine Gh ?_
    refine iH rfl rfl rfl (fun hg=>(Ry.yl (cR (v:= .agg (dn ⟨(ls.getD (gS ls (kH r p) (os.map gk) i).1.toNat dH),p⟩)) (ym (aG hg rfl) (ym (aG hg rfl) Ip)) (Gf (ls.getD (gS ls (kH r p) (os.map gk) i).1.toNat dH) p)))) ?_
    refine Gh ?_
    refine iH rfl rfl rfl (fun hg=>cC (dA (aG hg rfl) (dA (aG hg rfl) (dA (aG hg rfl) gE))) Vz) ?_
    refine Gq ?_
    refine Gc ?_
    refine au rfl (fun h3=> ?_) (fun h3=> ?_)
    ·
     replace h3:=bz h3
     have bA:(gS ls (kH r p) (os.map gk) (i+1))=((i:Int),true):=by
      rw[gS,wL,Gj,if_pos ⟨h2,h3⟩]
     refine Gi ?_
     iterate 3 refine Gs ?_
     refine Gc ?_
     iterate 2 refine Gs ?_
     refine Gi ?_
     exact bx (x:=(i)) (i+1) (by first|omega|(simp only[];omega)) (by first|omega|(simp only[];omega)) (Sub.cons rfl (Sub.cons (look_eq rfl (by rw[bA])) (Sub.cons (look_eq rfl (by rw[bA])) (Sub.cons rfl (Sub.cons rfl (Sub.cons rfl (Sub.cons rfl (Sub.cons rfl (Sub.cons rfl (Sub.nil _)))))))))) (fun w hw=>ah.mem hw)
    ·
     replace h3:=bz h3
     have bA:(gS ls (kH r p) (os.map gk) (i+1))=(gS ls (kH r p) (os.map gk) i):=by
      rw[gS,wL,Gj,if_neg]
      rintro⟨_,g⟩
      rcases g with g|g
      ·
       exact absurd (h3.1.symm.trans g) (by simp)
      ·
       exact absurd (h3.2.symm.trans g) (by simp)
     refine Gc ?_
     iterate 2 refine Gs ?_
     refine Gi ?_
     exact bx (x:=(i)) (i+1) (by first|omega|(simp only[];omega)) (by first|omega|(simp only[];omega)) (Sub.cons rfl (Sub.cons (look_eq rfl (by rw[bA])) (Sub.cons (look_eq rfl (by rw[bA])) (Sub.cons rfl (Sub.cons rfl (Sub.cons rfl (Sub.cons rfl (Sub.cons rfl (Sub.cons rfl (Sub.nil _)))))))))) (fun w hw=>ah.mem hw)
  ·
   replace h1:=bz h1
   obtain rfl:i=ls.length:=by omega
   refine Gc ?_
   iterate 4 refine Gs ?_
   refine Gc ?_
   refine aq (.inl rfl) (bm rfl (ak rfl) (ak rfl)) (fun w1 hw=> ?_)
   exact⟨by rw[hE],ah.mem hw⟩
instance agV{w0:World}{L:List ai}{r:FuncId}{l:Sv}{ls:List ax}{p:Int}{o:Sv}{os:List FuncId}[hl:c0 w0 L br 4 l ls][ho:c0 w0 L pG 1 o os]:cB Tryz.prog 184 w0 L [l.val, .int .i64 p, .func (.func r) #[] #[],o.val] (.tuple #[.int .i64 ((fj ls p (kH r p) (os.map gk)).1), .bool ((fj ls p (kH r p) (os.map gk)).2)]) (r∈[187,185,189]∧ ∀f∈os,f∈[188,186,191,190]):=⟨fun hp w hw=>Vy w r l ls p o os (hl.h w hw) (ho.h w hw) hp⟩
theorem VB(w:World)(l:Sv)(ls:List ax)(p:Int)(hl:bQ br 4 (hp w) l ls):Calls Tryz.prog 174 #[l.val, .int .i64 p] w fun e w'=>e= .returned (.tuple #[.int .i64 ((eE ls p).1), .bool ((eE ls p).2)])∧Mem w [] w':=by
 have oM:Gv w l br 4 ls:=⟨hl⟩
 refine ba (args:=[_,_]) Tryz.func174 rfl Tryz.ntmps174 rfl ?_
 change Cw _ _ _ _ _ [(0,l.val),(1, .int .i64 p)] []
 refine Gc ?_
 iterate 2 refine Gs ?_
 refine Gc ?_
 iterate 2 refine Gs ?_
 refine pc (enc:=pG) (vals:=[.func (.func 188) #[] #[], .func (.func 186) #[] #[]]) [188,186] rfl rfl rfl (by decide) (by decide) fun b8=> ?_
 refine fy (cC rfl (by decide)) ?_
 refine ag (aV rfl rfl) ?_
 refine ag (aV rfl rfl) ?_
 iterate 2 refine Gs ?_
 refine Gc ?_
 refine aq (.inl rfl) (bm rfl (ak rfl) (ak rfl)) (fun w1 hw=> ?_)
 exact⟨rfl,ah.mem hw⟩
instance agW{w0:World}{L:List ai}{l:Sv}{ls:List ax}{p:Int}[hl:c0 w0 L br 4 l ls]:cB Tryz.prog 174 w0 L [l.val, .int .i64 p] (.tuple #[.int .i64 ((eE ls p).1), .bool ((eE ls p).2)]) (True):=⟨fun hp w hw=>VB w l ls p (hl.h w hw)⟩
theorem VC(w:World)(l:Sv)(ls:List ax)(p:Int)(hl:bQ br 4 (hp w) l ls):Calls Tryz.prog 171 #[l.val, .int .i64 p] w fun e w'=>e= .returned (.tuple #[.int .i64 ((eK ls p).1), .bool ((eK ls p).2)])∧Mem w [] w':=by
 have oM:Gv w l br 4 ls:=⟨hl⟩
 refine ba (args:=[_,_]) Tryz.func171 rfl Tryz.ntmps171 rfl ?_
 change Cw _ _ _ _ _ [(0,l.val),(1, .int .i64 p)] []
 refine Gc ?_
 iterate 2 refine Gs ?_
 refine Gc ?_
 iterate 2 refine Gs ?_
 refine pc (enc:=pG) (vals:=[.func (.func 186) #[] #[]]) [186] rfl rfl rfl (by decide) (by decide) fun b8=> ?_
 refine fy (cC rfl (by decide)) ?_
 refine ag (aV rfl rfl) ?_
 refine ag (aV rfl rfl) ?_
 iterate 2 refine Gs ?_
 refine Gc ?_
 refine aq (.inl rfl) (bm rfl (ak rfl) (ak rfl)) (fun w1 hw=> ?_)
 exact⟨rfl,ah.mem hw⟩
instance agX{w0:World}{L:List ai}{l:Sv}{ls:List ax}{p:Int}[hl:c0 w0 L br 4 l ls]:cB Tryz.prog 171 w0 L [l.val, .int .i64 p] (.tuple #[.int .i64 ((eK ls p).1), .bool ((eK ls p).2)]) (True):=⟨fun hp w hw=>VC w l ls p (hl.h w hw)⟩
theorem VD(w:World)(l:Sv)(ls:List ax)(p:Int)(hl:bQ br 4 (hp w) l ls):Calls Tryz.prog 179 #[l.val, .int .i64 p] w fun e w'=>e= .returned (.tuple #[.int .i64 ((qi ls p).1), .bool ((qi ls p).2)])∧Mem w [] w':=by
 have oM:Gv w l br 4 ls:=⟨hl⟩
 refine ba (args:=[_,_]) Tryz.func179 rfl Tryz.ntmps179 rfl ?_
 change Cw _ _ _ _ _ [(0,l.val),(1, .int .i64 p)] []
 refine Gc ?_
 iterate 2 refine Gs ?_
 refine Gc ?_
 iterate 2 refine Gs ?_
 refine pc (enc:=pG) (vals:=[.func (.func 190) #[] #[], .func (.func 191) #[] #[], .func (.func 186) #[] #[]]) [190,191,186] rfl rfl rfl (by decide) (by decide) fun b8=> ?_
 refine fy (cC rfl (by decide)) ?_
 refine ag (aV rfl rfl) ?_
 refine ag (aV rfl rfl) ?_
 iterate 2 refine Gs ?_
 refine Gc ?_
 refine aq (.inl rfl) (bm rfl (ak rfl) (ak rfl)) (fun w1 hw=> ?_)
 exact⟨rfl,ah.mem hw⟩
instance agY{w0:World}{L:List ai}{l:Sv}{ls:List ax}{p:Int}[hl:c0 w0 L br 4 l ls]:cB Tryz.prog 179 w0 L [l.val, .int .i64 p] (.tuple #[.int .i64 ((qi ls p).1), .bool ((qi ls p).2)]) (True):=⟨fun hp w hw=>VD w l ls p (hl.h w hw)⟩
theorem VE(w:World)(l:Sv)(ls:List ax)(p:Int)(hl:bQ br 4 (hp w) l ls):Calls Tryz.prog 182 #[l.val, .int .i64 p] w fun e w'=>e= .returned (.int .i64 (y9 ls p))∧Mem w [] w':=by
 have oM:Gv w l br 4 ls:=⟨hl⟩
 refine ba (args:=[_,_]) Tryz.func182 rfl Tryz.ntmps182 rfl ?_
 change Cw _ _ _ _ _ [(0,l.val),(1, .int .i64 p)] []
 refine Gc ?_
 refine Gs ?_
 refine Gc ?_
 iterate 4 refine Gs ?_
 refine Gc ?_
 refine au rfl (fun h0=> ?_) (fun h0=> ?_)
 ·
  replace h0:=bz h0
  have hE:y9 ls p=0:=if_neg (by rw[h0];simp)
  refine Gc ?_
  refine Gs ?_
  refine Gc ?_
  refine aq (.inl rfl) (aI rfl (ak rfl)) (fun w1 hw=> ?_)
  exact⟨congrArg (fun b=>Ending.returned (Value.int .i64 b)) (by rw[hE]),ah.mem hw⟩
 ·
  replace h0:=bz h0
  have hE:y9 ls p=fk (ls.map (mv p)):=if_pos h0
  obtain⟨k1,k2,k3,k4,k5⟩:=qg.1 h0
  refine Gc ?_
  refine Gs ?_
  refine Gc ?_
  iterate 3 refine Gs ?_
  refine Gc ?_
  refine ca (X:=Nat) (fun zz=>[(15, .int .i64 (zz:Nat)),(5, .int .i64 (fk ((ls.take zz).map (mv p)))),(1, .int .i64 p),(13,l.val),(14, .int .i64 (ls.length:Nat))]) (fun zz=>[]) (fun zz=>zz≤ls.length) (fun zz=>ls.length -zz) 0 (Nat.zero_le _) (Sub.cons rfl (Sub.cons rfl (Sub.cons rfl (Sub.cons rfl (Sub.cons rfl (Sub.nil _)))))) (fun w hw=>ah.mem hw) ?_
  rintro i bh
  refine Gc ?_
  refine Gs ?_
  refine Gc ?_
  refine au rfl (fun h1=> ?_) (fun h1=> ?_)
  ·
   replace h1:=bz h1
   obtain⟨x,hx⟩:=get_some (xs:=ls) (i:=i) (by omega)
   have rl:=pq.1 (k5 x (List.mem_of_getElem? hx))
   have eM:(fk ((ls.take (i+1)).map (mv p)))=(fk ((ls.take i).map (mv p)))+mv p x:=by rw[List.take_add_one,hx,List.map_append,Kz];simp[fk]
   have hsb:=KB p (ls.take i) (fun x hx=>k5 x (List.mem_of_mem_take hx)) (by omega)
   have nF:(ls.take i).length≤32:=by rw[List.length_take];omega
   have kf:((ls.take i).length:Int)*p≤512:=room_le nF (by omega) (by omega)
   refine Gc ?_
   refine ag (bg rfl rfl i rfl (by omega)) ?_
   refine ag (gG rfl i hx rfl) ?_
   refine bK fun b7=> ?_
   refine Gs ?_
   refine Gc ?_
   iterate 2 refine Gs ?_
   refine ag (cR (v:= .agg (dn ⟨x,p⟩)) rfl (Gf x p)) ?_
   refine bK fun b8=> ?_
   refine Gs ?_
   refine Gc ?_
   iterate 3 refine Gs ?_
   refine Gc ?_
   refine au rfl (fun h2=> ?_) (fun h2=> ?_)
   ·
    replace h2:=bz h2
    have hr:mv p x=p:=if_pos h2
    refine Gi ?_
    iterate 4 refine Gs ?_
    refine Gc ?_
    iterate 2 refine Gs ?_
    refine Gi ?_
    exact bx (x:=(i)) (i+1) (by first|omega|(simp only[];omega)) (by first|omega|(simp only[];omega)) (Sub.cons rfl (Sub.cons (look_eq rfl (by rw[eM,hr])) (Sub.cons rfl (Sub.cons rfl (Sub.cons rfl (Sub.nil _)))))) (fun w hw=>ah.mem hw)
   ·
    replace h2:=bz h2
    refine Gc ?_
    iterate 3 refine Gs ?_
    refine Gc ?_
    refine au rfl (fun h3=> ?_) (fun h3=> ?_)
    ·
     replace h3:=bz h3
     have hr:mv p x=p -x.used:=by rw[mv,if_neg (by rw[h2];simp),if_pos h3]
     refine Gi ?_
     iterate 4 refine Gs ?_
     refine ag (Ry.to (v':= .int .i64 x.used) (bH rfl) rfl) ?_
     iterate 3 refine Gs ?_
     refine Gc ?_
     iterate 2 refine Gs ?_
     refine Gi ?_
     exact bx (x:=(i)) (i+1) (by first|omega|(simp only[];omega)) (by first|omega|(simp only[];omega)) (Sub.cons rfl (Sub.cons (look_eq rfl (by rw[eM,hr])) (Sub.cons rfl (Sub.cons rfl (Sub.cons rfl (Sub.nil _)))))) (fun w hw=>ah.mem hw)
    ·
     replace h3:=bz h3
     have hr:mv p x=0:=by rw[mv,if_neg (by rw[h2];simp),if_neg (by rw[h3];simp)]
     refine Gc ?_
     iterate 2 refine Gs ?_
     refine Gi ?_
     exact bx (x:=(i)) (i+1) (by first|omega|(simp only[];omega)) (by first|omega|(simp only[];omega)) (Sub.cons rfl (Sub.cons (look_eq rfl (by rw[eM,hr,Int.add_zero])) (Sub.cons rfl (Sub.cons rfl (Sub.cons rfl (Sub.nil _)))))) (fun w hw=>ah.mem hw)
  ·
   replace h1:=bz h1
   obtain rfl:i=ls.length:=by omega
   refine Gc ?_
   iterate 2 refine Gs ?_
   refine Gc ?_
   refine aq (.inl rfl) (aI rfl (ak rfl)) (fun w1 hw=> ?_)
   exact⟨congrArg (fun b=>Ending.returned (Value.int .i64 b)) (by rw[hE,List.take_length]),ah.mem hw⟩
instance agZ{w0:World}{L:List ai}{l:Sv}{ls:List ax}{p:Int}[hl:c0 w0 L br 4 l ls]:cB Tryz.prog 182 w0 L [l.val, .int .i64 p] (.int .i64 (y9 ls p)) (True):=⟨fun hp w hw=>VE w l ls p (hl.h w hw)⟩
open Go.aC Go.Kb
open Go.RowKit
theorem VF(w:World)(n:Nat)(bb:n≤1000000000):Calls Tryz.prog 131 #[.slice none 0 0, .int .i64 (n:Nat)] w fun e w'=> ∃zz:Sv,e= .returned (zz.val)∧(True)∧Mem w [own (bY (τ:=UInt8)) 1 zz ([]:List (Sl UInt8))] w':=by
 refine ba (args:=[_,_]) Tryz.func131 rfl Tryz.ntmps131 rfl ?_
 change Cw _ _ _ _ _ [(0, .slice none 0 0),(1, .int .i64 (n:Nat))] []
 refine Gc ?_
 refine Gs ?_
 refine Gc ?_
 iterate 2 refine Gs ?_
 refine Gc ?_
 refine au rfl (fun h0=> ?_) (fun h0=> ?_)
 ·
  replace h0:=bz h0
  exfalso;omega
 ·
  replace h0:=bz h0
  refine Gc ?_
  iterate 2 refine Gs ?_
  refine ag (Bt rfl) ?_
  refine Gs ?_
  refine ag (uq rfl) ?_
  iterate 3 refine Gs ?_
  refine Gc ?_
  iterate 2 refine Gs ?_
  refine Gc ?_
  refine au rfl (fun h1=> ?_) (fun h1=> ?_)
  ·
   replace h1:=bz h1
   refine Gi ?_
   iterate 2 refine Gs ?_
   refine ag (Bt rfl) ?_
   refine ag (Ry.to (v':= .slice none 0 0) (sZ (s:=Sv.none) (h:=0) rfl rfl rfl Sv.vW (Nat.le_refl _)) rfl) ?_
   refine Gs ?_
   refine JF (enc:=(bY (τ:=UInt8))) (k:=n) (⟨Sv.none,[]⟩:Sl UInt8) rfl rfl (by omega) (by omega) (by decide) rfl Tryz.underlying3 (by omega) (by omega) fun xf zr F4=> ?_
   refine Gs ?_
   refine ag (uq rfl) ?_
   refine ag (sZ (s:=⟨false,xf,0,n,zr,none⟩) (h:=0) rfl rfl rfl ⟨(fun h=>by cases h),F4,by simp only;omega,fun _=>rfl⟩ (Nat.zero_le _)) ?_
   refine Gs ?_
   refine Gc ?_
   iterate 2 refine Gs ?_
   refine Gc ?_
   refine aq (.inl rfl) (aI rfl (ak rfl)) (fun w1 hw=> ?_)
   refine⟨Sv.sub ⟨false,xf,0,n,zr,none⟩ 1 0 0,rfl,trivial,?_⟩
   have eL:=Mem.JE (i:=0) (k:=0) hw rfl (Nat.zero_le _)
   rw[List.take_zero]at eL
   exact eL
  ·
   replace h1:=bz h1
   have hn:n=0:=by omega
   refine Gc ?_
   iterate 2 refine Gs ?_
   refine Gc ?_
   refine aq (.inl rfl) (aI rfl (ak rfl)) (fun w1 hw=> ?_)
   exact⟨Sv.none,rfl,trivial,(ah.mem hw:Mem w [] _).dP (bY (τ:=UInt8)) 1⟩
instance ag0{w0:World}{L:List ai}{n:Nat}:cl Tryz.prog 131 w0 L [.slice none 0 0, .int .i64 (n:Nat)] (Sv) (fun zz=>zz.val) (fun zz=>own (bY (τ:=UInt8)) 1 zz ([]:List (Sl UInt8))::L) (fun zz=>True) (n≤1000000000):=⟨fun hp w hw=>(VF w n hp).mono fun e w' ⟨x,h1,h2,h3⟩=>⟨x,h1,h2,hw.call h3⟩⟩
theorem VG(w:World)(a:Sl (Sl (Sl UInt8)))(ha:Deep.aY (hp w) a)(bb:(eX a.xs).length≤1000000):Calls Tryz.prog 90 #[a.sv.val] w fun e w'=> ∃zz:Sv,e= .returned (zz.val)∧(True)∧Mem w [own (bY (τ:=UInt8)) 1 zz (eX a.xs)] w':=by
 have xh:cg w a:=⟨ha⟩
 have Av:=ha.1.bd
 have ei:=SG a.xs
 refine ba (args:=[_]) Tryz.func90 rfl Tryz.ntmps90 rfl ?_
 change Cw _ _ _ _ _ [(0,a.sv.val)] []
 refine Gc ?_
 refine Gs ?_
 refine Gc ?_
 refine Gs ?_
 refine Gc ?_
 iterate 3 refine Gs ?_
 refine Gc ?_
 refine ca (X:=Nat) (fun zz=>[(11, .int .i64 (zz:Nat)),(3, .int .i64 ((eX (a.xs.take zz)).length:Nat)),(0,a.sv.val),(9,a.sv.val),(10, .int .i64 (a.xs.length:Nat))]) (fun zz=>[]) (fun zz=>zz≤a.xs.length) (fun zz=>a.xs.length -zz) 0 (Nat.zero_le _) (Sub.cons rfl (Sub.cons rfl (Sub.cons rfl (Sub.cons rfl (Sub.cons rfl (Sub.nil _)))))) (fun w hw=>ah.mem hw) ?_
 rintro i hi
 have wo:=ei i
 have kQ:=ei (i+1)
 refine Gc ?_
 refine Gs ?_
 refine Gc ?_
 refine au rfl (fun h0=> ?_) (fun h0=> ?_)
 ·
  replace h0:=bz h0
  iterate 6 refine Gi ?_
  obtain⟨x,hx⟩:=get_some (xs:=a.xs) (i:=i) (by omega)
  refine ag (bg rfl rfl i rfl (by omega)) ?_
  refine ag (bL (j:=0) rfl i hx rfl (by decide)) ?_
  have UO:(eX (a.xs.take (i+1))).length=(eX (a.xs.take i)).length+x.xs.length:=by rw[BO hx,List.length_append]
  have Cy:Mb x _:=⟨List.mem_of_getElem? hx⟩
  refine Gs ?_
  refine Gc ?_
  iterate 5 refine Gs ?_
  refine Gc ?_
  iterate 2 refine Gs ?_
  refine Gc ?_
  refine au rfl (fun h1=> ?_) (fun h1=> ?_)
  ·
   replace h1:=bz h1
   exfalso;omega
  ·
   replace h1:=bz h1
   refine Gc ?_
   iterate 2 refine Gs ?_
   refine Gi ?_
   exact bx (x:=(i)) (i+1) (by first|omega|(simp only[];omega)) (by first|omega|(simp only[];omega)) (Sub.cons rfl (Sub.cons (look_eq rfl (by rw[BO hx,List.length_append];simp)) (Sub.cons rfl (Sub.cons rfl (Sub.cons rfl (Sub.nil _)))))) (fun w hw=>ah.mem hw)
 ·
  replace h0:=bz h0
  obtain rfl:i=a.xs.length:=by omega
  have mf:=ei a.xs.length
  refine Gc ?_
  refine Gs ?_
  refine bq rfl (by omega) fun tJ F5=> ?_
  refine Gs ?_
  refine Gc ?_
  iterate 3 refine Gs ?_
  refine Gc ?_
  refine ca (X:=Nat×Sv) (fun zz=>[(27, .int .i64 (zz.1:Nat)),(6,zz.2.val),(25,a.sv.val),(26, .int .i64 (a.xs.length:Nat))]) (fun zz=>[own (bY (τ:=UInt8)) 1 zz.2 (eX (a.xs.take zz.1))]) (fun zz=>zz.1≤a.xs.length) (fun zz=>a.xs.length -zz.1) (0,tJ) (Nat.zero_le _) (Sub.cons rfl (Sub.cons rfl (Sub.cons rfl (Sub.cons rfl (Sub.nil _))))) (fun w hw=>(ah.mem hw:Mem _ [own (bY (τ:=UInt8)) 1 tJ ([]:List (Sl UInt8))] _)) ?_
  rintro⟨k,s1⟩ hk
  dsimp only
  simp only at hk
  have wo:=ei k
  have kQ:=ei (k+1)
  refine Gc ?_
  refine Gs ?_
  refine Gc ?_
  refine au rfl (fun h2=> ?_) (fun h2=> ?_)
  ·
   replace h2:=bz h2
   iterate 6 refine Gi ?_
   obtain⟨y,hy⟩:=get_some (xs:=a.xs) (i:=k) (by omega)
   refine ag (bg rfl rfl k rfl (by omega)) ?_
   refine ag (bL (j:=0) rfl k hy rfl (by decide)) ?_
   have UP:(eX (a.xs.take (k+1))).length=(eX (a.xs.take k)).length+y.xs.length:=by rw[BO hy,List.length_append]
   have Ma:Mb y _:=⟨List.mem_of_getElem? hy⟩
   refine Gs ?_
   refine Gc ?_
   iterate 2 refine Gs ?_
   refine mg (s:=s1) (enc:=(bY (τ:=UInt8))) (ys:=y.xs) rfl rfl (by decide) (fun w hw=>kN (s:=y.sv) Tryz.underlying46 (by decide) ((inferInstance:c0 _ _ (bY (τ:=UInt8)) 1 y.sv y.xs).h w hw)) (by omega) (by omega) fun F6 UQ UR=> ?_
   refine Gs ?_
   refine Gc ?_
   iterate 2 refine Gs ?_
   refine Gi ?_
   exact bx (x:=(k,s1)) (k+1,F6) (by simp only;omega) (by simp only;omega) (Sub.cons rfl (Sub.cons rfl (Sub.cons rfl (Sub.cons rfl (Sub.nil _))))) (fun w hw=>by rw[BO hy];exact ah.mem hw)
  ·
   replace h2:=bz h2
   obtain rfl:k=a.xs.length:=by omega
   refine Gc ?_
   iterate 2 refine Gs ?_
   refine Gc ?_
   refine aq (.inl rfl) (aI rfl (ak rfl)) (fun w1 hw=> ?_)
   exact⟨s1,rfl,trivial,by rw[List.take_length]at hw;exact ah.mem hw⟩
instance Mi{w0:World}{L:List ai}{a:Sl (Sl (Sl UInt8))}[ha:aU w0 L a]:cl Tryz.prog 90 w0 L [a.sv.val] (Sv) (fun zz=>zz.val) (fun zz=>own (bY (τ:=UInt8)) 1 zz (eX a.xs)::L) (fun zz=>True) ((eX a.xs).length≤1000000):=⟨fun hp w hw=>(VG w a (ha.h w hw) hp).mono fun e w' ⟨x,h1,h2,h3⟩=>⟨x,h1,h2,hw.call h3⟩⟩
theorem VH(w:World)(x:Sv)(xs:List Int)(y:Sv)(ys:List Int)(hx:bQ bG 1 (hp w) x xs)(hy:bQ bG 1 (hp w) y ys):Calls Tryz.prog 52 #[x.val,y.val] w fun e w'=>e= .returned (.bool (decide (xs=ys)))∧Mem w [] w':=by
 have tK:Gv w x bG 1 xs:=⟨hx⟩
 have Gk:Gv w y bG 1 ys:=⟨hy⟩
 have Mj:=hx.bd
 refine ba (args:=[_,_]) Tryz.func52 rfl Tryz.ntmps52 rfl ?_
 change Cw _ _ _ _ _ [(0,x.val),(1,y.val)] []
 refine Gc ?_
 refine Gs ?_
 refine Gc ?_
 iterate 5 refine Gs ?_
 refine Gc ?_
 refine au rfl (fun h0=> ?_) (fun h0=> ?_)
 ·
  replace h0:=bz h0
  have hz:decide (xs=ys)=false:=decide_eq_false fun e=>h0 (by rw[e])
  refine Gc ?_
  refine Gs ?_
  refine Gc ?_
  refine aq (.inl rfl) (aI rfl (ak rfl)) (fun w1 hw=> ?_)
  exact⟨congrArg (fun b=>Ending.returned (Value.bool b)) (hz.symm),ah.mem hw⟩
 ·
  replace h0:=bz h0
  have lQ:xs.length=ys.length:=by omega
  refine Gc ?_
  iterate 3 refine Gs ?_
  refine Gc ?_
  refine ca (X:=Nat) (fun zz=>[(13, .int .i64 (zz:Nat)),(0,x.val),(1,y.val),(12, .int .i64 (xs.length:Nat))]) (fun zz=>[]) (fun zz=>zz≤xs.length∧ ∀j,j<zz→xs[j]? =ys[j]?) (fun zz=>xs.length -zz) 0 ⟨Nat.zero_le _,fun j hj=>by first|omega|(simp only[];omega)⟩ (Sub.cons rfl (Sub.cons rfl (Sub.cons rfl (Sub.cons rfl (Sub.nil _))))) (fun w hw=>ah.mem hw) ?_
  rintro i ⟨bh,aF⟩
  refine Gc ?_
  refine Gs ?_
  refine Gc ?_
  refine au rfl (fun h1=> ?_) (fun h1=> ?_)
  ·
   replace h1:=bz h1
   obtain⟨p,iB⟩:=get_some (xs:=xs) (i:=i) (by omega)
   obtain⟨q,nU⟩:=get_some (xs:=ys) (i:=i) (by omega)
   refine Gc ?_
   iterate 2 refine Gs ?_
   refine Gc ?_
   refine gO (by kernel_rfl) (by kernel_rfl) ?_
   iterate 2 refine Gq ?_
   refine bc (bg rfl rfl i rfl (by omega)) ?_
   refine bc (bL (j:=0) rfl i iB rfl (by decide)) ?_
   iterate 2 refine Gq ?_
   refine bc (bg rfl rfl i rfl (by omega)) ?_
   refine bc (bL (j:=0) rfl i nU rfl (by decide)) ?_
   refine Gq ?_
   refine Gc ?_
   refine au rfl (fun h2=> ?_) (fun h2=> ?_)
   ·
    replace h2:=bz h2
    have hz:decide (xs=ys)=false:=decide_eq_false fun e=>h2 (by rw[e]at iB;rw[iB]at nU;cases nU;rfl)
    refine Gc ?_
    refine Gs ?_
    refine Gc ?_
    refine aq (.inl rfl) (aI rfl (ak rfl)) (fun w1 hw=> ?_)
    exact⟨congrArg (fun b=>Ending.returned (Value.bool b)) (hz.symm),ah.mem hw⟩
   ·
    replace h2:=bz h2
    refine Gc ?_
    iterate 2 refine Gs ?_
    refine Gi ?_
    exact bx (x:=(i)) (i+1) ⟨by first|omega|(simp only[];omega),fun j hj=>if e:j=i then(by subst e;rw[iB,nU,h2])else aF j (by first|omega|(simp only[];omega))⟩ (by first|omega|(simp only[];omega)) (Sub.cons rfl (Sub.cons rfl (Sub.cons rfl (Sub.cons rfl (Sub.nil _))))) (fun w hw=>ah.mem hw)
  ·
   replace h1:=bz h1
   obtain rfl:i=xs.length:=by omega
   have hz:decide (xs=ys)=true:=decide_eq_true (List.ext_getElem? fun j=>by
    rcases Nat.lt_or_ge j xs.length with hj|hj
    ·
     exact aF j hj
    ·
     rw[List.getElem?_eq_none hj,List.getElem?_eq_none (by omega)])
   refine Gc ?_
   refine Gs ?_
   refine Gc ?_
   refine aq (.inl rfl) (aI rfl (ak rfl)) (fun w1 hw=> ?_)
   exact⟨congrArg (fun b=>Ending.returned (Value.bool b)) (hz.symm),ah.mem hw⟩
instance ag1{w0:World}{L:List ai}{x:Sv}{xs:List Int}{y:Sv}{ys:List Int}[hx:c0 w0 L bG 1 x xs][hy:c0 w0 L bG 1 y ys]:cB Tryz.prog 52 w0 L [x.val,y.val] (.bool (decide (xs=ys))) (True):=⟨fun hp w hw=>VH w x xs y ys (hx.h w hw) (hy.h w hw)⟩
open Go.aC Go.Kb
open Go.RowKit
theorem VI(g:UInt64)(w:World):(Instr.build 147 #[(0, .int .u64 (g.toNat:Int))]).run Tryz.prog w= .ok (.agg (dB ⟨g,⟨Sv.none,[]⟩⟩)) w:=by
 unfold dB
 kernel_rfl
theorem VJ(w:World)(b:Sv)(bs:List UInt8)(hb:bQ aM 1 (hp w) b bs):Calls Tryz.prog 130 #[b.val] w fun e w'=> ∃zz:dd,e= .returned (.tuple #[.agg (dB zz), .int .i64 ((bB bs).2)])∧(df zz=(bB bs).1)∧Mem w [own bG 1 zz.at_.sv zz.at_.xs] w':=by
 have vh:Gv w b aM 1 bs:=⟨hb⟩
 refine ba (args:=[_]) Tryz.func130 rfl Tryz.ntmps130 rfl ?_
 change Cw _ _ _ _ _ [(0,b.val)] []
 refine Gc ?_
 refine bK fun b2=> ?_
 refine Gs ?_
 refine Gc ?_
 refine Gs ?_
 refine bq rfl trivial fun dM xn=> ?_
 have Mk:dM.kind=(cr bs).1.kind:=congrArg PV.kind xn
 have Gl:dM.id=(cr bs).1.id:=congrArg PV.id xn
 have nV:dM.gen.toNat=(cr bs).1.gen:=congrArg PV.gen xn
 have sm:dM.body.xs=(cr bs).1.body:=congrArg PV.body xn
 have dt:=EX bs
 rw[←sm]at dt
 refine Gs ?_
 refine ag (aV (v:= .agg (cG dM)) rfl rfl) ?_
 refine ag (aV (v:= .int .i64 ((cr bs).2)) rfl rfl) ?_
 refine bK fun b4=> ?_
 iterate 2 refine Gs ?_
 refine Gc ?_
 iterate 2 refine Gs ?_
 refine Gc ?_
 refine au rfl (fun h0=> ?_) (fun h0=> ?_)
 ·
  replace h0:=bz h0
  have hE:bB bs=(gx,(cr bs).2):=by rw[bB,if_pos h0]
  refine Gc ?_
  refine ag (cR (v:= .agg (dB kT)) rfl (fun w=>by kernel_rfl)) ?_
  iterate 3 refine Gs ?_
  refine Gc ?_
  refine aq (.inl rfl) (bm rfl (cc rfl) (ak rfl)) (fun w1 hw=> ?_)
  exact⟨kT,by rw[hE],by rw[hE];rfl,Mem.dP bG 1 (ah.mem hw:Mem w [] _)⟩
 ·
  replace h0:=bz h0
  refine Gc ?_
  iterate 3 refine Gs ?_
  refine Gc ?_
  refine au rfl (fun h1=> ?_) (fun h1=> ?_)
  ·
   replace h1:=bz h1
   have hE:bB bs=(gx,6):=by rw[bB,if_neg (by omega),if_pos (by omega)]
   refine Gc ?_
   refine ag (cR (v:= .agg (dB kT)) rfl (fun w=>by kernel_rfl)) ?_
   iterate 2 refine Gs ?_
   refine Gc ?_
   refine aq (.inl rfl) (bm rfl (cc rfl) (ak rfl)) (fun w1 hw=> ?_)
   exact⟨kT,by rw[hE],by rw[hE];rfl,Mem.dP bG 1 (ah.mem hw:Mem w [] _)⟩
  ·
   replace h1:=bz h1
   refine Gc ?_
   iterate 3 refine Gs ?_
   refine ag (oc rfl rfl (by omega) (by omega)) ?_
   refine Gs ?_
   refine Gc ?_
   iterate 4 refine Gs ?_
   iterate 3 refine Gg ?_
   refine bZ rfl rfl rfl (fun hg=>(Ry.yl (yx (p:=dM.body.xs.length) (q:=2) (aG hg rfl) rfl rfl rfl (by simp only[Z0,Z1,Z2,Z3,Z4,Z5,Z6,Z7,Z8,Z9]at hg;omega)))) ?_
   refine Gg ?_
   iterate 2 refine Gs ?_
   iterate 3 refine Gg ?_
   refine bZ rfl rfl rfl (fun hg=>(Ry.yl (yj (aG hg rfl) rfl (by simp only[Z0,Z1,Z2,Z3,Z4,Z5,Z6,Z7,Z8,Z9]at hg;omega)))) ?_
   refine bZ rfl rfl rfl (fun hg=>(Ry.yl (uv rfl (aG hg rfl)))) ?_
   refine Gg ?_
   refine Gs ?_
   refine Gc ?_
   refine au rfl (fun h2=> ?_) (fun h2=> ?_)
   ·
    replace h2:=bz h2
    have ke:sh (cr bs).1=false:=by
     cases hk:sh (cr bs).1 with
     |false=>rfl
     |true=>
      simp only[sh,Bool.and_eq_true,decide_eq_true_eq,←Mk,←Gl,←sm]at hk
      omega
    have hE:bB bs=(gx,2):=by rw[bB,if_neg (by omega),if_neg (by omega),if_pos ke]
    refine Gc ?_
    refine ag (cR (v:= .agg (dB kT)) rfl (fun w=>by kernel_rfl)) ?_
    iterate 2 refine Gs ?_
    refine Gc ?_
    refine aq (.inl rfl) (bm rfl (cc rfl) (ak rfl)) (fun w1 hw=> ?_)
    exact⟨kT,by rw[hE],by rw[hE];rfl,Mem.dP bG 1 (ah.mem hw:Mem w [] _)⟩
   ·
    replace h2:=bz h2
    have ke:sh (cr bs).1=true:=by
     simp only[sh,Bool.and_eq_true,decide_eq_true_eq,←Mk,←Gl,←sm]
     omega
    have hE:bB bs=(⟨dM.gen.toNat,nK dM.body.xs⟩,0):=by rw[bB,if_neg (by omega),if_neg (by omega),if_neg (by rw[ke];simp),nV,sm]
    have tO:=BM dM.body.xs
    refine Gc ?_
    iterate 2 refine Gs ?_
    refine ag (cR (v:= .agg (dB ⟨dM.gen,⟨Sv.none,[]⟩⟩)) rfl (VI dM.gen)) ?_
    refine bK fun b7=> ?_
    refine Gs ?_
    refine Gc ?_
    iterate 2 refine Gs ?_
    refine Gc ?_
    refine ca (X:=Nat×Sv) (fun zz=>[(49, .int .i64 (zz.1:Nat)),(7, .pointer (some ⟨b7,0,none⟩)),(2, .pointer (some ⟨b2,0,none⟩)),(4, .pointer (some ⟨b4,0,none⟩)),(48, .int .i64 ((dM.body.xs.length/2):Nat))]) (fun zz=>[ar b7 (dB ⟨dM.gen,⟨zz.2,(nK dM.body.xs).take zz.1⟩⟩) 147,own bG 1 zz.2 ((nK dM.body.xs).take zz.1),ar b4 (cG dM) 110,own aM 1 dM.body.sv dM.body.xs,ar b2 (dB kT) 147]) (fun zz=>zz.1≤dM.body.xs.length/2) (fun zz=>dM.body.xs.length/2 -zz.1) (0,Sv.none) (Nat.zero_le _) (Sub.cons rfl (Sub.cons rfl (Sub.cons rfl (Sub.cons rfl (Sub.cons rfl (Sub.nil _)))))) (fun w hw=>by
     simp only[List.take_zero];exact ah.mem (Mem.dP bG 1 hw)) ?_
    rintro⟨i,s1⟩ bh
    dsimp only
    simp only at bh
    refine Gc ?_
    refine Gs ?_
    refine Gc ?_
    refine au rfl (fun h3=> ?_) (fun h3=> ?_)
    ·
     replace h3:=bz h3
     have eM:=SC (b:=dM.body.xs) (i:=i) (by omega)
     refine Gc ?_
     iterate 2 refine Gs ?_
     refine Gc ?_
     refine qa [19,20,22,1001,2019] [[],[],[],[],[],[],[],[],[],[],[],[],[],[],[],[],[],[],[],[],[1,19],[1,19,20],[1,19,20]] [0,1,2,3,4,5,6,7,8,9,10,11,12,13,14,15,16,17,18,19,20,21,22] [ar b4 (cG dM) 110,own aM 1 dM.body.sv dM.body.xs] [(19,qY bG 1 1 [(pn dM.body.xs i)])] (by kernel_rfl) (fun _ hw=>ah.mem hw) (by kernel_rfl) (by kernel_rfl) ?_
     refine al rfl (aH (o':=1) rfl rfl) ?_
     refine kr rfl (bH rfl) ?_
     refine al rfl (aH (o':=3) rfl rfl) ?_
     refine al rfl (bH rfl) ?_
     refine al rfl (aD rfl) ?_
     refine al rfl (ur rfl rfl (by omega)) ?_
     refine al rfl (bg rfl rfl (2*i) rfl (by omega)) ?_
     refine al rfl (bL (j:=0) rfl (2*i) (oh (xs:=dM.body.xs) (i:=2*i) (d:=0) (by omega)) rfl (by decide)) ?_
     refine al rfl (uE rfl) ?_
     refine al rfl (IH rfl rfl) ?_
     refine al rfl (aH (o':=3) rfl rfl) ?_
     refine al rfl (bH rfl) ?_
     refine al rfl (aD rfl) ?_
     refine al rfl (ur rfl rfl (by omega)) ?_
     refine al rfl (pR rfl rfl (by omega)) ?_
     refine al rfl (bg rfl rfl (2*i+1) rfl (by omega)) ?_
     refine al rfl (bL (j:=0) rfl (2*i+1) (oh (xs:=dM.body.xs) (i:=2*i+1) (d:=0) (by omega)) rfl (by decide)) ?_
     refine al rfl (uE rfl) ?_
     refine al rfl (II rfl rfl) ?_
     refine oy (m:=qY bG 1 1 [(pn dM.body.xs i)]) rfl rfl (Ev (enc:=bG) (c:=1) (n:=1) (vals:=[.int .i64 (pn dM.body.xs i)]) [(pn dM.body.xs i)] rfl rfl rfl (by decide) (by decide)) (Cert.none rfl) fun CC=> ?_
     change Ln _ _ _ _ _ _ _ _ (cw _ _ (Sv.val ⟨false,CC,0,1,1,none⟩)) (own bG 1 ⟨false,CC,0,1,1,none⟩ [(pn dM.body.xs i)]::_) _
     refine dE rfl (Rd (s:=s1) (ys:=[(pn dM.body.xs i)]) rfl rfl (by decide) (fun w hw=>kN (s:=⟨false,CC,0,1,1,none⟩) Tryz.underlying26 (by decide) ((inferInstance:Hd _ _ ⟨false,CC,0,1,1,none⟩ bG 1 [(pn dM.body.xs i)]).h w hw)) (by simp only[List.length_take,List.length_cons,List.length_nil];omega) (by simp only[List.length_take,List.length_cons,List.length_nil];omega) fun Ml ag2 ag3=>⟨fun _ hw=>ah.mem hw,?_⟩)
     refine al rfl (aH (o':=1) rfl rfl) ?_
     refine dE rfl (wk (cs':=dB (⟨dM.gen,⟨Ml,(((nK dM.body.xs).take i)++[(pn dM.body.xs i)])⟩⟩:dd)) rfl rfl (by show 1<2;decide) (by first|rfl|exact Sv.one _) rfl ⟨fun _ hw=>ah.mem hw,?_⟩)
     refine Gc ?_
     iterate 2 refine Gs ?_
     refine Gi ?_
     exact bx (x:=(i,s1)) (i+1,Ml) (by simp only;omega) (by simp only;omega) (Sub.cons rfl (Sub.cons rfl (Sub.cons rfl (Sub.cons rfl (Sub.cons rfl (Sub.nil _)))))) (fun w hw=>by
      simp only[eM];exact ah.mem hw)
    ·
     replace h3:=bz h3
     obtain rfl:i=dM.body.xs.length/2:=by omega
     rw[List.take_of_length_le (by omega)]at*
     refine Gc ?_
     iterate 3 refine Gs ?_
     refine Gc ?_
     refine aq (.inl rfl) (bm rfl (cc rfl) (ak rfl)) (fun w1 hw=> ?_)
     exact⟨⟨dM.gen,⟨s1,nK dM.body.xs⟩⟩,by rw[hE],by rw[hE];rfl,ah.mem hw⟩
instance ag4{w0:World}{L:List ai}{b:Sv}{bs:List UInt8}[hb:c0 w0 L aM 1 b bs]:cl Tryz.prog 130 w0 L [b.val] (dd) (fun zz=> .tuple #[.agg (dB zz), .int .i64 ((bB bs).2)]) (fun zz=>own bG 1 zz.at_.sv zz.at_.xs::L) (fun zz=>df zz=(bB bs).1) (True):=⟨fun hp w hw=>(VJ w b bs (hb.h w hw)).mono fun e w' ⟨x,h1,h2,h3⟩=>⟨x,h1,h2,hw.call h3⟩⟩
open Go.aC Go.Kb
open Go.RowKit
theorem VK(w:World)(l:Sl (Sl UInt8))(hl:Deep.aY (hp w) l):Calls Tryz.prog 89 #[l.sv.val] w fun e w'=> ∃zz:dd,e= .returned (.tuple #[.int .i64 ((fh (aJ l.xs)).1), .agg (dB zz), .int .i64 ((fh (aJ l.xs)).2.2)])∧(df zz=(fh (aJ l.xs)).2.1)∧Mem w [own bG 1 zz.at_.sv zz.at_.xs] w':=by
 have oM:cg w l:=⟨hl⟩
 have iJ:=hl.1.bd
 have iO:=jo l.xs
 refine ba (args:=[_]) Tryz.func89 rfl Tryz.ntmps89 rfl ?_
 change Cw _ _ _ _ _ [(0,l.sv.val)] []
 refine Gc ?_
 refine Gs ?_
 refine bK fun b3=> ?_
 refine Gs ?_
 refine Gc ?_
 refine ag (cR (v:= .agg (dB kT)) rfl (fun w=>by kernel_rfl)) ?_
 refine bK fun b6=> ?_
 iterate 4 refine Gs ?_
 refine Gc ?_
 iterate 3 refine Gs ?_
 refine Gc ?_
 refine ca (X:=Nat×dd) (fun zz=>[(16, .int .i64 (zz.1:Nat)),(5, .int .i64 ((dj (aJ l.xs) zz.1).at_)),(6, .pointer (some ⟨b6,0,none⟩)),(7, .bool ((dj (aJ l.xs) zz.1).found)),(8, .bool ((dj (aJ l.xs) zz.1).blank)),(3, .pointer (some ⟨b3,0,none⟩)),(14,l.sv.val),(15, .int .i64 (l.xs.length:Nat))]) (fun zz=>[ar b6 (dB zz.2) 147,own bG 1 zz.2.at_.sv zz.2.at_.xs,ar b3 (dB kT) 147]) (fun zz=>zz.1≤l.xs.length∧df zz.2=(dj (aJ l.xs) zz.1).new) (fun zz=>l.xs.length -zz.1) (0,kT) ⟨Nat.zero_le _,rfl⟩ (Sub.cons rfl (Sub.cons rfl (Sub.cons rfl (Sub.cons rfl (Sub.cons rfl (Sub.cons rfl (Sub.cons rfl (Sub.cons rfl (Sub.nil _))))))))) (fun w hw=>by
  have h9:Mem _ [ar b6 (dB kT) 147,own bG 1 Sv.none [],ar b3 (dB kT) 147] _:=ah.mem (Mem.dP bG 1 hw)
  exact h9) ?_
 rintro⟨i,d⟩ ⟨bh,aF⟩
 dsimp only
 simp only at bh aF
 refine Gc ?_
 refine Gs ?_
 refine Gc ?_
 refine au rfl (fun h0=> ?_) (fun h0=> ?_)
 ·
  replace h0:=bz h0
  obtain⟨y,hy⟩:=get_some (xs:=l.xs) (i:=i) (by omega)
  have vj:Mb y l:=⟨List.mem_of_getElem? hy⟩
  have Mm:=kS hy
  have Mn:d.gen.toNat=(dj (aJ l.xs) i).new.gen:=congrArg RV.gen aF
  refine Gc ?_
  refine Gs ?_
  refine ag (bg rfl rfl i rfl (by omega)) ?_
  refine ag (bL (j:=0) rfl i hy rfl (by decide)) ?_
  iterate 2 refine Gs ?_
  refine Gc ?_
  iterate 2 refine Gs ?_
  refine Gg ?_
  refine gN rfl rfl rfl (fun hg=>cC (dA (aG hg rfl) gE) trivial) ?_
  iterate 2 refine Gs ?_
  refine Gc ?_
  refine Gs ?_
  refine bq rfl trivial fun du mG=> ?_
  have Mo:du.gen.toNat=(bB y.xs).1.gen:=congrArg RV.gen mG
  refine Gs ?_
  refine ag (aV (v:= .agg (dB du)) rfl rfl) ?_
  refine ag (aV (v:= .int .i64 ((bB y.xs).2)) rfl rfl) ?_
  refine bK fun jf=> ?_
  iterate 2 refine Gs ?_
  refine Gc ?_
  iterate 3 refine Gs ?_
  refine Gg ?_
  refine gN rfl rfl rfl (fun hg=>(Ry.yl (iR (aG hg rfl)))) ?_
  refine gN rfl rfl rfl (fun hg=>(Ry.yl (aD (aG hg rfl)))) ?_
  refine rT rfl rfl rfl (fun hg=>(Ry.yl (aH (o':=0) rfl rfl))) ?_
  refine rT rfl rfl rfl (fun hg=>(Ry.yl (bH (aG hg rfl)))) ?_
  refine rT rfl rfl rfl (fun hg=>(Ry.yl (aH (o':=0) rfl rfl))) ?_
  refine rT rfl rfl rfl (fun hg=>(Ry.yl (bH (aG hg rfl)))) ?_
  refine rT rfl rfl rfl (fun hg=>(Ry.yl (cx (aG hg rfl) (aG hg rfl) rfl))) ?_
  refine gN rfl rfl rfl (fun hg=>(Ry.yl (mL (aG hg rfl) rfl (vS hg rfl)))) ?_
  refine Gs ?_
  refine Gc ?_
  refine au rfl (fun h1=> ?_) (fun h1=> ?_)
  ·
   replace h1:=bz h1
   have hq:(bB y.xs).2=0∧((dj (aJ l.xs) i).found=false∨(dj (aJ l.xs) i).new.gen≤(bB y.xs).1.gen):=⟨h1.1,h1.2.imp (fun h=>h) (fun h=>by rw[←Mn,←Mo];omega)⟩
   have sA:=Kj Mm hq
   refine jn [3] [[],[],[],[],[3]] [0,1,2,3,4] [ar jf (dB du) 147] (fun _ hw=>ah.mem hw) (by kernel_rfl) (by kernel_rfl) ?_
   refine al rfl (aD rfl) ?_
   refine al rfl (fI rfl) ?_
   refine al rfl (bl rfl) ?_
   refine dE rfl (ox rfl rfl ⟨fun _ hw=>ah.mem hw,?_⟩)
   refine al rfl (bl rfl) ?_
   refine Gc ?_
   iterate 2 refine Gs ?_
   refine Gi ?_
   exact bx (x:=(i,d)) (i+1,du) ⟨by first|omega|(simp only[];omega),by rw[sA];exact mG⟩ (by simp only;omega) (Sub.cons rfl (Sub.cons (look_eq rfl (by simp only[sA])) (Sub.cons rfl (Sub.cons (look_eq rfl (by simp only[sA])) (Sub.cons (look_eq rfl (by simp only[sA])) (Sub.cons rfl (Sub.cons rfl (Sub.cons rfl (Sub.nil _))))))))) (fun w hw=>ah.mem hw)
  ·
   replace h1:=bz h1
   have hq: ¬((bB y.xs).2=0∧((dj (aJ l.xs) i).found=false∨(dj (aJ l.xs) i).new.gen≤(bB y.xs).1.gen)):=fun hq=>by
    rw[←Mn,←Mo]at hq
    rcases h1 with h|h
    ·
     exact h hq.1
    ·
     rcases hq.2 with g|g
     ·
      exact absurd (h.1.symm.trans g) (by simp)
     ·
      omega
   have sA:=Kk Mm hq
   refine Gc ?_
   iterate 2 refine Gs ?_
   refine Gi ?_
   exact bx (x:=(i,d)) (i+1,d) ⟨by first|omega|(simp only[];omega),by rw[sA];exact aF⟩ (by simp only;omega) (Sub.cons rfl (Sub.cons (look_eq rfl (by simp only[sA])) (Sub.cons rfl (Sub.cons (look_eq rfl (by simp only[sA])) (Sub.cons (look_eq rfl (by simp only[sA])) (Sub.cons rfl (Sub.cons rfl (Sub.cons rfl (Sub.nil _))))))))) (fun w hw=>ah.mem hw)
 ·
  replace h0:=bz h0
  obtain rfl:i=l.xs.length:=by omega
  rw[←iO]at aF
  refine Gc ?_
  iterate 2 refine Gs ?_
  refine Gc ?_
  refine au rfl (fun h2=> ?_) (fun h2=> ?_)
  ·
   replace h2:=bz h2
   have hE:fh (aJ l.xs)=((dj (aJ l.xs) (aJ l.xs).length).at_,(dj (aJ l.xs) (aJ l.xs).length).new,0):=by rw[fh,if_pos (by rw[iO];exact h2)]
   refine Gi ?_
   refine jn [3] [[],[],[],[],[3]] [0,1,2,3,4] [ar b6 (dB d) 147] (fun _ hw=>ah.mem hw) (by kernel_rfl) (by kernel_rfl) ?_
   refine al rfl (aD rfl) ?_
   refine al rfl (fI rfl) ?_
   refine al rfl (bl rfl) ?_
   refine dE rfl (ox rfl rfl ⟨fun _ hw=>ah.mem hw,?_⟩)
   refine al rfl (bl rfl) ?_
   refine Gc ?_
   refine aq (.inl rfl) (ta rfl (ak rfl) (cc rfl) (ak rfl)) (fun w1 hw=> ?_)
   exact⟨d,by rw[hE,iO],by rw[hE];exact aF,ah.mem hw⟩
  ·
   replace h2:=bz h2
   refine Gc ?_
   iterate 2 refine Gs ?_
   refine Gc ?_
   refine au rfl (fun h3=> ?_) (fun h3=> ?_)
   ·
    replace h3:=bz h3
    have hE:fh (aJ l.xs)=(0,gx,6):=by rw[fh,if_neg (by rw[iO,h2];simp),if_pos (by rw[iO];exact h3)]
    refine Gc ?_
    refine ag (cR (v:= .agg (dB kT)) rfl (fun w=>by kernel_rfl)) ?_
    iterate 3 refine Gs ?_
    refine Gc ?_
    refine aq (.inl rfl) (ta rfl (ak rfl) (cc rfl) (ak rfl)) (fun w1 hw=> ?_)
    exact⟨kT,by rw[hE],by rw[hE];rfl,Mem.dP bG 1 (ah.mem hw:Mem w [] _)⟩
   ·
    replace h3:=bz h3
    have hE:fh (aJ l.xs)=(0,gx,2):=by rw[fh,if_neg (by rw[iO,h2];simp),if_neg (by rw[iO,h3];simp)]
    refine Gc ?_
    refine ag (cR (v:= .agg (dB kT)) rfl (fun w=>by kernel_rfl)) ?_
    iterate 3 refine Gs ?_
    refine Gc ?_
    refine aq (.inl rfl) (ta rfl (ak rfl) (cc rfl) (ak rfl)) (fun w1 hw=> ?_)
    exact⟨kT,by rw[hE],by rw[hE];rfl,Mem.dP bG 1 (ah.mem hw:Mem w [] _)⟩
instance Mp{w0:World}{L:List ai}{l:Sl (Sl UInt8)}[hl:aU w0 L l]:cl Tryz.prog 89 w0 L [l.sv.val] (dd) (fun zz=> .tuple #[.int .i64 ((fh (aJ l.xs)).1), .agg (dB zz), .int .i64 ((fh (aJ l.xs)).2.2)]) (fun zz=>own bG 1 zz.at_.sv zz.at_.xs::L) (fun zz=>df zz=(fh (aJ l.xs)).2.1) (True):=⟨fun hp w hw=>(VK w l (hl.h w hw)).mono fun e w' ⟨x,h1,h2,h3⟩=>⟨x,h1,h2,hw.call h3⟩⟩
open Go.aC Go.Kb
open Go.RowKit
theorem VL(c:Cp)(s:Sl Int)(g:UInt64)(l:Int)(w:World):(Instr.build 29 #[(0, .agg (aB c)),(1,s.sv.val),(2, .int .u64 (g.toNat:Int)),(3, .int .i64 l)]).run Tryz.prog w= .ok (.agg (bF ⟨c,s,g,l⟩)) w:=by
 obtain⟨s,xs⟩:=s
 obtain⟨a1,a2,⟨a3,a4⟩,a5,a6,⟨a7,a8⟩⟩:=c
 unfold bF aB
 obtain⟨e,b,o,l,c,p⟩:=s
 obtain⟨e3,b3,o3,l3,c3,p3⟩:=a3
 obtain⟨e7,b7,o7,l7,c7,p7⟩:=a7
 cases e<;>cases e3<;>cases e7<;>kernel_rfl
theorem VM(w:World)(c:Cp)(hc:Deep.aY (hp w) c):Calls Tryz.prog 43 #[.agg (aB c)] w fun e w'=> ∃zz:bM,e= .returned (.tuple #[.agg (bF zz), .int .i64 ((bw (cv c)).2)])∧(vv zz=(bw (cv c)).1∧((bw (cv c)).2=0→zz.ae=c))∧Mem w [own bG 1 zz.at_.sv zz.at_.xs] w':=by
 have jR:cg w c:=⟨hc⟩
 refine ba (args:=[_]) Tryz.func43 rfl Tryz.ntmps43 rfl ?_
 change Cw _ _ _ _ _ [(0, .agg (aB c))] []
 refine Gc ?_
 refine bX rfl fun b1=> ?_
 refine bK fun b2=> ?_
 refine Gs ?_
 refine Gc ?_
 iterate 3 refine Gs ?_
 refine Gc ?_
 refine au rfl (fun h0=> ?_) (fun h0=> ?_)
 ·
  replace h0:=bz h0
  have hE:bw (cv c)=(j6,1):=by rw[bw,if_pos h0]
  have bW:(1:Int)≠0:=by decide
  refine Gc ?_
  refine ag (cR (v:= .agg (bF kU)) rfl (fun w=>by kernel_rfl)) ?_
  iterate 2 refine Gs ?_
  refine Gc ?_
  refine aq (.inl rfl) (bm rfl (cc rfl) (ak rfl)) (fun w1 hw=> ?_)
  exact⟨kU,by rw[hE],⟨by rw[hE];rfl,fun h=>absurd (by rw[hE]at h;exact h) bW⟩,Mem.dP bG 1 (ah.mem hw:Mem w [] _)⟩
 ·
  replace h0:=bz h0
  have nS:=fv.1 h0
  have hk:=nS.1
  have oI:(cv c).blocks.length=c.blocks.xs.length:=fu _
  have gX:=jI.1 (eU.1 hk).1
  obtain⟨B0,xo⟩:=get_some (xs:=c.blocks.xs) (i:=0) (by omega)
  obtain⟨B1,rC⟩:=get_some (xs:=c.blocks.xs) (i:=1) (by omega)
  have VN:Mb B0 c.blocks:=⟨List.mem_of_getElem? xo⟩
  have VO:Mb B1 c.blocks:=⟨List.mem_of_getElem? rC⟩
  have o0:=(dX.1 ((eU.1 hk).2.2.2.2 (bv B0) (List.mem_of_getElem? (iV xo)))).1
  have o1:=(dX.1 ((eU.1 hk).2.2.2.2 (bv B1) (List.mem_of_getElem? (iV rC)))).1
  have Gm:=jo B0.pages.xs
  have Gn:=jo B1.pages.xs
  simp only[bv,cv]at o0 o1 gX
  have hT:aJ (eX [B0.pages,B1.pages])=(aj (cv c) 0).pages++(aj (cv c) 1).pages:=by
   rw[EZ,show aj (cv c) 0=bv B0 from E3 xo,show aj (cv c) 1=bv B1 from E3 rC];rfl
  have kC:=EY (l:=(aj (cv c) 0).pages++(aj (cv c) 1).pages) (by rw[←hT,EZ,List.length_append];omega)
  have iO:((aj (cv c) 0).pages++(aj (cv c) 1).pages).length=B0.pages.xs.length+B1.pages.xs.length:=by rw[←hT,EZ,List.length_append];omega
  have tP:0≤(bN (cv c)).1:=kC.1
  have xi:(bN (cv c)).1<c.pages+c.pages:=by have:=kC.2;rw[iO]at this;change(bN (cv c)).1<_ at this;omega
  have gva:Ko w (eX [B0.pages,B1.pages]):=⟨fun y hy=>by
   simp only[eX,List.map_cons,List.map_nil,List.flatten_cons,List.flatten_nil,List.append_nil,List.mem_append]at hy
   rcases hy with hy|hy
   ·
    exact(hc.1.2 B0 VN.h).2 y hy
   ·
    exact(hc.1.2 B1 VO.h).2 y hy⟩
  have ag5:0≤((bN (cv c)).1/c.pages):=Int.ediv_nonneg tP (by omega)
  have ag6:((bN (cv c)).1/c.pages)<2:=Int.ediv_lt_of_lt_mul (by omega) (by omega)
  have bP:=Ks ((aj (cv c) 0).pages++(aj (cv c) 1).pages)
  have Gb:(c.blocks.xs.getD ((bN (cv c)).1/c.pages).toNat oA).used=(aj (cv c) ((bN (cv c)).1/c.pages)).used:=congrArg BV.used (uU (c:=c))
  refine Gc ?_
  iterate 2 refine Gs ?_
  refine Gc ?_
  refine au rfl (fun h1=> ?_) (fun h1=> ?_)
  ·
   replace h1:=bz h1
   have hE:bw (cv c)=(j6,7):=by rw[bw,if_neg (by rw[h0];simp),if_pos (show(cv c).off=true from h1)]
   have bW:(7:Int)≠0:=by decide
   refine Gc ?_
   refine ag (cR (v:= .agg (bF kU)) rfl (fun w=>by kernel_rfl)) ?_
   iterate 2 refine Gs ?_
   refine Gc ?_
   refine aq (.inl rfl) (bm rfl (cc rfl) (ak rfl)) (fun w1 hw=> ?_)
   exact⟨kU,by rw[hE],⟨by rw[hE];rfl,fun h=>absurd (by rw[hE]at h;exact h) bW⟩,Mem.dP bG 1 (ah.mem hw:Mem w [] _)⟩
  ·
   replace h1:=bz h1
   have oV: ¬(cv c).off=true:=by rw[show(cv c).off=c.off from rfl,h1];simp
   refine Gc ?_
   refine qa [10,11,12,17,19,2010,2017,4011,4012] [[],[],[],[],[],[],[],[],[],[],[],[10],[10,11],[10,11,12],[10,11,12],[10,11,12],[10,11,12],[],[10,11,12,17],[10,11,12,17],[10,11,12,17,19]] [0,1,2,3,4,5,6,7,8,9,10,11,12,13,14,15,16,17,18,19,20] [ar b1 (aB c) 25] [(10,qY (bY (τ:=Sl UInt8)) 1 2 [B0.pages,B1.pages]),(17,kR Tryz.prog 147)] (by kernel_rfl) (fun _ hw=>ah.mem hw) (by kernel_rfl) (by kernel_rfl) ?_
   refine al rfl (aH (o':=2) rfl rfl) ?_
   refine al rfl (bH rfl) ?_
   refine al rfl (bg rfl rfl 0 rfl (by omega)) ?_
   refine al rfl (aH rfl rfl) ?_
   refine al rfl (bL (j:=0) rfl 0 xo rfl (by decide)) ?_
   refine al rfl (aH (o':=2) rfl rfl) ?_
   refine al rfl (bH rfl) ?_
   refine al rfl (bg rfl rfl 1 rfl (by omega)) ?_
   refine al rfl (aH rfl rfl) ?_
   refine al rfl (bL (j:=0) rfl 1 rC rfl (by decide)) ?_
   refine oy (m:=qY (bY (τ:=Sl UInt8)) 1 2 [B0.pages,B1.pages]) rfl rfl (Ev (enc:=(bY (τ:=Sl UInt8))) (c:=1) (n:=2) (vals:=[B0.pages.sv.val,B1.pages.sv.val]) [B0.pages,B1.pages] rfl (by simp only[List.map_cons,List.map_nil,Sv.iU];rfl) rfl (by decide) (by decide)) (Cert.one (i:=17) rfl rfl rfl jX (Cert.none rfl)) fun CD=> ?_
   change Ln _ _ _ _ _ _ _ _ (cw _ _ (Sv.val ⟨false,CD,0,2,2,none⟩)) (own (bY (τ:=Sl UInt8)) 1 ⟨false,CD,0,2,2,none⟩ [B0.pages,B1.pages]::_) _
   refine sd (hc:=Mi (a:=(⟨⟨false,CD,0,2,2,none⟩,[B0.pages,B1.pages]⟩:Sl (Sl (Sl UInt8))))) (Et:=fun e_=>Mi (a:=(⟨⟨false,CD,0,2,2,none⟩,[B0.pages,B1.pages]⟩:Sl (Sl (Sl UInt8))))) rfl rfl (by simp only[eX,List.map_cons,List.map_nil,List.flatten_cons,List.flatten_nil,List.length_append,List.length_nil];omega) (fun e x w hw=>ah.mem hw) (Cert.one (i:=17) rfl rfl rfl jX (Cert.none rfl)) fun pH rD=>⟨fun _ hw=>ah.mem hw,?_⟩
   refine sd (hc:=Mp (l:=(⟨pH,(eX [B0.pages,B1.pages])⟩:Sl (Sl UInt8)))) (Et:=fun e_=>Mp (l:=(⟨pH,(eX [B0.pages,B1.pages])⟩:Sl (Sl UInt8)))) rfl rfl trivial (fun e x w hw=>ah.mem hw) (Cert.one (i:=17) rfl rfl rfl jX (Cert.none rfl)) fun du mG=>⟨fun _ hw=>ah.mem hw,?_⟩
   have gA:(fh (aJ (eX [B0.pages,B1.pages]))).1=(bN (cv c)).1:=by rw[hT];rfl
   have Gp:(fh (aJ (eX [B0.pages,B1.pages]))).2.2=(bN (cv c)).2.2:=by rw[hT];rfl
   have zA:df du=(bN (cv c)).2.1:=by rw[mG,hT];rfl
   have nj:du.gen.toNat=(bN (cv c)).2.1.gen:=congrArg RV.gen zA
   have wW:du.at_.xs=(bN (cv c)).2.1.at_:=congrArg RV.at_ zA
   refine al rfl (aD rfl) ?_
   refine al rfl (aV (v:= .int .i64 ((fh (aJ (eX [B0.pages,B1.pages]))).1)) rfl rfl) ?_
   refine al rfl (aV (v:= .agg (dB du)) rfl rfl) ?_
   refine al rfl (aV (v:= .int .i64 ((fh (aJ (eX [B0.pages,B1.pages]))).2.2)) rfl rfl) ?_
   refine oy (m:=kR Tryz.prog 147) rfl rfl jX (Cert.none rfl) fun b5=> ?_
   change Ln _ _ _ _ _ _ _ _ (cw _ _ (.pointer (some ⟨b5,0,none⟩))) (ar b5 (dB kT) 147::_) _
   refine al rfl (bl rfl) ?_
   refine dE rfl (ox rfl rfl ⟨fun _ hw=>ah.mem hw,?_⟩)
   refine al rfl (bl rfl) ?_
   refine Gc ?_
   iterate 2 refine Gs ?_
   refine Gc ?_
   refine au rfl (fun h2=> ?_) (fun h2=> ?_)
   ·
    replace h2:=bz h2
    rw[Gp]at h2
    have hE:bw (cv c)=(j6,(bN (cv c)).2.2):=by rw[bw,if_neg (by rw[h0];simp),if_neg oV,if_pos h2]
    have bW:=h2
    refine Gc ?_
    refine ag (cR (v:= .agg (bF kU)) rfl (fun w=>by kernel_rfl)) ?_
    iterate 3 refine Gs ?_
    refine Gc ?_
    refine aq (.inl rfl) (bm rfl (cc rfl) (ak rfl)) (fun w1 hw=> ?_)
    exact⟨kU,by rw[hE,Gp],⟨by rw[hE];rfl,fun h=>absurd (by rw[hE]at h;exact h) bW⟩,Mem.dP bG 1 (ah.mem hw:Mem w [] _)⟩
   ·
    replace h2:=bz h2
    rw[Gp]at h2
    refine Gc ?_
    iterate 3 refine Gs ?_
    refine ag (oc rfl rfl (by omega) (by omega)) ?_
    refine Gs ?_
    refine Gc ?_
    refine gO (by kernel_rfl) (by kernel_rfl) ?_
    iterate 3 refine Gq ?_
    refine bc (yk rfl rfl (by omega) (by omega)) ?_
    iterate 3 refine Gq ?_
    refine bc (bg rfl rfl (((fh (aJ (eX [B0.pages,B1.pages]))).1/c.pages).toNat) (by rw[gA];omega) (by rw[gA];omega)) ?_
    refine bc (aH rfl rfl) ?_
    refine bc (bL (j:=1) rfl (((fh (aJ (eX [B0.pages,B1.pages]))).1/c.pages).toNat) (oh (xs:=c.blocks.xs) (i:=((fh (aJ (eX [B0.pages,B1.pages]))).1/c.pages).toNat) (d:=oA) (by rw[gA];omega)) rfl (by decide)) ?_
    iterate 2 refine Gq ?_
    refine iH rfl rfl rfl (fun hg=>(Ry.yl (fI rfl))) ?_
    iterate 2 refine Gh ?_
    refine iH rfl rfl rfl (fun hg=>cC (dA (aG hg rfl) (dA (aG hg rfl) gE)) ⟨hk,fun x hx=>bP x (by rw[wW]at hx;exact hx)⟩) ?_
    refine iH rfl rfl rfl (fun hg=>(Ry.yl (iR (aG hg rfl)))) ?_
    refine Gq ?_
    refine Gc ?_
    refine au rfl (fun h3=> ?_) (fun h3=> ?_)
    ·
     replace h3:=bz h3
     have vl:ll (cv c)=false:=by
      rw[wW]at h3
      cases rA:ll (cv c)with
      |false=>rfl
      |true=>
       simp only[ll,Bool.and_eq_true,decide_eq_true_eq]at rA
       rw[rA.2]at h3
       simp only[Bool.true_eq_false,or_false]at h3
       have:=rA.1
       rw[gA,Gb]at h3
       exact absurd this (by simp only[cv]at*;omega)
     have hE:bw (cv c)=(j6,2):=by rw[bw,if_neg (by rw[h0];simp),if_neg oV,if_neg (by omega),if_pos vl]
     have bW:(2:Int)≠0:=by decide
     refine Gc ?_
     refine ag (cR (v:= .agg (bF kU)) rfl (fun w=>by kernel_rfl)) ?_
     iterate 2 refine Gs ?_
     refine Gc ?_
     refine aq (.inl rfl) (bm rfl (cc rfl) (ak rfl)) (fun w1 hw=> ?_)
     exact⟨kU,by rw[hE],⟨by rw[hE];rfl,fun h=>absurd (by rw[hE]at h;exact h) bW⟩,Mem.dP bG 1 (ah.mem hw:Mem w [] _)⟩
    ·
     replace h3:=bz h3
     have vl:ll (cv c)=true:=by
      rw[wW,gA,Gb]at h3
      simp only[ll,Bool.and_eq_true,decide_eq_true_eq]
      exact⟨by have:=h3.1;simp only[cv]at*;omega,h3.2⟩
     have hE:bw (cv c)=(⟨cv c,(bN (cv c)).2.1.at_,(bN (cv c)).2.1.gen,(bN (cv c)).1/c.pages⟩,0):=by rw[bw,if_neg (by rw[h0];simp),if_neg oV,if_neg (by omega),if_neg (by rw[vl];simp)];rfl
     refine Gc ?_
     iterate 6 refine Gs ?_
     refine ag (cR (v:= .agg (bF ⟨c,du.at_,du.gen,((fh (aJ (eX [B0.pages,B1.pages]))).1/c.pages)⟩)) rfl (VL c du.at_ du.gen ((fh (aJ (eX [B0.pages,B1.pages]))).1/c.pages))) ?_
     iterate 2 refine Gs ?_
     refine Gc ?_
     refine aq (.inl rfl) (bm rfl (cc rfl) (ak rfl)) (fun w1 hw=> ?_)
     exact⟨⟨c,du.at_,du.gen,(fh (aJ (eX [B0.pages,B1.pages]))).1/c.pages⟩,by rw[hE],⟨by rw[hE];simp only[vv,wW,nj,gA],fun _=>rfl⟩,ah.mem hw⟩
instance ag7{w0:World}{L:List ai}{c:Cp}[hc:aU w0 L c]:cl Tryz.prog 43 w0 L [.agg (aB c)] (bM) (fun zz=> .tuple #[.agg (bF zz), .int .i64 ((bw (cv c)).2)]) (fun zz=>own bG 1 zz.at_.sv zz.at_.xs::L) (fun zz=>vv zz=(bw (cv c)).1∧((bw (cv c)).2=0→zz.ae=c)) (True):=⟨fun hp w hw=>(VM w c (hc.h w hw)).mono fun e w' ⟨x,h1,h2,h3⟩=>⟨x,h1,h2,hw.call h3⟩⟩
open Go.aC Go.Kb
open Go.RowKit
theorem VP(w:World)(c:Cp)(hc:Deep.aY (hp w) c):Calls Tryz.prog 12 #[.agg (aB c)] w fun e w'=> ∃zz:bM,e= .returned (.tuple #[.agg (bF zz), .int .i64 ((bw (cv c)).2)])∧(vv zz=(if(bw (cv c)).2=0 then(bw (cv c)).1 else j6))∧Mem w [fz zz.ae,own bG 1 zz.at_.sv zz.at_.xs] w':=by
 have jR:cg w c:=⟨hc⟩
 refine ba (args:=[_]) Tryz.func12 rfl Tryz.ntmps12 rfl ?_
 change Cw _ _ _ _ _ [(0, .agg (aB c))] []
 refine Gc ?_
 refine bX rfl fun b1=> ?_
 refine bK fun b2=> ?_
 refine Gs ?_
 refine Gc ?_
 refine Gs ?_
 refine bq rfl trivial fun x8 pD=> ?_
 obtain⟨Mq,Mr⟩:=pD
 have VQ:=Ku (cv c)
 have VR:x8.at_.xs=(bw (cv c)).1.at_:=congrArg VV.at_ Mq
 rw[←VR]at VQ
 refine Gs ?_
 refine ag (aV (v:= .agg (bF x8)) rfl rfl) ?_
 refine ag (aV (v:= .int .i64 ((bw (cv c)).2)) rfl rfl) ?_
 refine bK fun b4=> ?_
 iterate 2 refine Gs ?_
 refine Gc ?_
 iterate 2 refine Gs ?_
 refine Gc ?_
 refine au rfl (fun h0=> ?_) (fun h0=> ?_)
 ·
  replace h0:=bz h0
  refine Gc ?_
  refine ag (cR (v:= .agg (bF kU)) rfl (fun w=>by kernel_rfl)) ?_
  iterate 3 refine Gs ?_
  refine Gc ?_
  refine aq (.inl rfl) (bm rfl (cc rfl) (ak rfl)) (fun w1 hw=> ?_)
  exact⟨kU,rfl,by rw[if_neg h0];rfl,SL (Mem.dP bG 1 (ah.mem hw:Mem w [] _))⟩
 ·
  replace h0:=bz h0
  have vm:(bw (cv c)).2=0:=h0
  have ec:Kv x8.ae c:=⟨Mr vm⟩
  have kf:dQ x8.ae:=by rw[Mr vm];exact ph (fv.1 (E4 vm)).1
  iterate 3 refine Gi ?_
  refine qU [Deep.cd x8.at_,ar b4 (bF x8) 29,ar b2 (bF kU) 29,ar b1 (aB c) 25] (fun w hw=>ah.mem (Mem.JI (ah.mem hw:Mem _ [own bG 1 x8.at_.sv x8.at_.xs,ar b4 (bF x8) 29,ar b2 (bF kU) 29,ar b1 (aB c) 25] _))) ?_
  refine Gi ?_
  refine Gs ?_
  refine bq rfl ⟨by assumption,by omega⟩ fun aA kg=> ?_
  iterate 2 refine Gs ?_
  refine Gc ?_
  refine aq (.inl rfl) (bm rfl (cc rfl) (ak rfl)) (fun w1 hw=> ?_)
  exact⟨(⟨aA.1,⟨aA.2,x8.at_.xs⟩,x8.gen,x8.last⟩:bM),by rw[vm],by
   rw[if_pos vm,←Mq]
   simp only[vv,kg],ah.mem hw⟩
instance ag8{w0:World}{L:List ai}{c:Cp}[hc:aU w0 L c]:cl Tryz.prog 12 w0 L [.agg (aB c)] (bM) (fun zz=> .tuple #[.agg (bF zz), .int .i64 ((bw (cv c)).2)]) (fun zz=>fz zz.ae::own bG 1 zz.at_.sv zz.at_.xs::L) (fun zz=>vv zz=(if(bw (cv c)).2=0 then(bw (cv c)).1 else j6)) (True):=⟨fun hp w hw=>(VP w c (hc.h w hw)).mono fun e w' ⟨x,h1,h2,h3⟩=>⟨x,h1,h2,hw.call h3⟩⟩
theorem VS(w:World)(v:bM)(hv:Deep.aY (hp w) v):Calls Tryz.prog 19 #[.agg (bF v)] w fun e w'=>e= .returned (.bool (kx (vv v)))∧Mem w [] w':=by
 have zu:cg w v:=⟨hv⟩
 refine ba (args:=[_]) Tryz.func19 rfl Tryz.ntmps19 rfl ?_
 change Cw _ _ _ _ _ [(0, .agg (bF v))] []
 refine Gc ?_
 refine bX rfl fun b1=> ?_
 refine Gs ?_
 refine Gc ?_
 refine Gs ?_
 refine ag (iA rfl) ?_
 refine bK fun b3=> ?_
 refine Gs ?_
 refine Gc ?_
 refine Gs ?_
 refine eN (cs':=aB (⟨v.ae.pages,v.ae.size,v.ae.blocks,v.ae.ops,false,v.ae.aR⟩:Cp)) rfl rfl (by show 4<6;decide) (by first|rfl|exact Sv.one _) rfl ?_
 refine Gc ?_
 refine Gs ?_
 refine bq rfl trivial fun dM xn=> ?_
 obtain⟨Gr,ag9⟩:=xn
 have VT:dM.gen.toNat=(bw {(vv v).ae with off:=false}).1.gen:=congrArg VV.gen Gr
 have xp:dM.last=(bw {(vv v).ae with off:=false}).1.last:=congrArg VV.last Gr
 have VU:dM.at_.xs=(bw {(vv v).ae with off:=false}).1.at_:=congrArg VV.at_ Gr
 refine Gs ?_
 refine ag (aV (v:= .agg (bF dM)) rfl rfl) ?_
 refine ag (aV (v:= .int .i64 ((bw (cv (⟨v.ae.pages,v.ae.size,v.ae.blocks,v.ae.ops,false,v.ae.aR⟩:Cp))).2)) rfl rfl) ?_
 refine bK fun b4=> ?_
 iterate 2 refine Gs ?_
 refine Gc ?_
 iterate 3 refine Gs ?_
 iterate 5 refine Gg ?_
 iterate 2 refine Gs ?_
 iterate 5 refine Gg ?_
 iterate 2 refine Gs ?_
 iterate 4 refine Gg ?_
 refine gN rfl rfl rfl (fun hg=>cC (dA (aG hg rfl) (dA (aG hg rfl) gE)) trivial) ?_
 iterate 2 refine Gs ?_
 refine Gc ?_
 refine aq (.inl rfl) (aI rfl (ak rfl)) (fun w1 hw=> ?_)
 exact⟨congrArg (fun b=>Ending.returned (Value.bool b)) ((by rw[show decide (((dM.gen.toNat:Nat):Int)=((v.gen.toNat:Nat):Int))=decide (dM.gen.toNat=v.gen.toNat)from decide_eq_decide.2 (by omega),kx,←VT,←xp,←VU];rfl)),ah.mem hw⟩
instance aha{w0:World}{L:List ai}{v:bM}[hv:aU w0 L v]:cB Tryz.prog 19 w0 L [.agg (bF v)] (.bool (kx (vv v))) (True):=⟨fun hp w hw=>VS w v (hv.h w hw)⟩
open Go.aC Go.Kb
open Go.RowKit
theorem VW(w:World)(v:bM)(id:Int)(hv:Deep.aY (hp w) v)(bb:aT (cv v.ae)=true∧ ∃y,v.at_.xs[id.toNat]? =Option.some y∧0≤id∧1≤y∧y≤1000000∧2≤(y -1)/(cv v.ae).pages∧(y -1)/(cv v.ae).pages<((cv v.ae).blocks.length:Int)):Calls Tryz.prog 49 #[.agg (bF v), .int .i64 id] w fun e w'=> ∃zz:Sv,e= .returned (zz.val)∧(True)∧Mem w [own aM 1 zz (iC (cv v.ae) (v.at_.xs.getD id.toNat 0))] w':=by
 have zu:cg w v:=⟨hv⟩
 obtain⟨hk,y,hy,ib,Cr,hy2,g1,g2⟩:=bb
 have nk:v.at_.xs.getD id.toNat 0=y:=nL hy
 have eP:=(List.getElem?_eq_some_iff.1 hy).1
 have dt:=fu v.ae.blocks.xs
 have gX:=jI.1 (eU.1 hk).1
 simp only[cv,dt]at gX
 have zw:0≤((y -1)/v.ae.pages):=Int.ediv_nonneg (by omega) (by omega)
 have mD:0≤((y -1)%v.ae.pages):=Int.emod_nonneg _ (by omega)
 have nR:((y -1)%v.ae.pages)<v.ae.pages:=Int.emod_lt_of_pos _ (by omega)
 have nS:=uU (c:=v.ae) (b:=((y -1)/v.ae.pages))
 change 2≤((y -1)/v.ae.pages)at g1
 change((y -1)/v.ae.pages)<((gu v.ae.blocks.xs).length:Int)at g2
 rw[dt]at g2
 obtain⟨B,hB⟩:=get_some (xs:=v.ae.blocks.xs) (i:=((y -1)/v.ae.pages).toNat) (by omega)
 have qx:Mb B v.ae.blocks:=⟨List.mem_of_getElem? hB⟩
 have eH:bv B=aj (cv v.ae) ((y -1)/v.ae.pages):=by rw[←nS];simp[List.getD,hB]
 have fP:=dX.1 ((eU.1 hk).2.2.2.2 (bv B) (List.mem_of_getElem? (iV hB)))
 have iO:=jo B.pages.xs
 have zx:(B.pages.xs.length:Int)=v.ae.pages:=by have:=fP.1;simp only[bv,cv,iO]at this;exact this
 obtain⟨z,hz⟩:=get_some (xs:=B.pages.xs) (i:=((y -1)%v.ae.pages).toNat) (by omega)
 have tI:Mb z B.pages:=⟨List.mem_of_getElem? hz⟩
 have oH:bJ (cv v.ae) (y -1)=z.xs:=by
  show(aj (cv v.ae) ((y -1)/v.ae.pages)).pages.getD ((y -1)%v.ae.pages).toNat []=z.xs
  rw[←eH]
  simp[bv,List.getD,kS hz]
 refine ba (args:=[_,_]) Tryz.func49 rfl Tryz.ntmps49 rfl ?_
 change Cw _ _ _ _ _ [(0, .agg (bF v)),(1, .int .i64 id)] []
 refine Gc ?_
 refine bX rfl fun b2=> ?_
 refine Gs ?_
 refine Gc ?_
 iterate 3 refine Gs ?_
 refine ag (bg rfl rfl id.toNat (by omega) (by omega)) ?_
 refine ag (bL (j:=0) rfl id.toNat hy rfl (by decide)) ?_
 iterate 2 refine Gs ?_
 refine Gc ?_
 refine qa [18,22,23,2022,4018] [[],[],[],[],[],[],[],[],[],[],[],[],[],[],[],[],[],[],[],[18],[18],[18],[],[18,22],[18,22,23]] [0,1,2,3,4,5,6,7,8,9,10,11,12,13,14,15,16,17,18,19,20,21,22,23,24] [ar b2 (bF v) 29] [(22,kR Tryz.prog 110)] (by kernel_rfl) (fun _ hw=>ah.mem hw) (by kernel_rfl) (by kernel_rfl) ?_
 refine al rfl (aH (o':=0) rfl rfl) ?_
 refine al rfl (aH (o':=2) rfl rfl) ?_
 refine al rfl (bH rfl) ?_
 refine al rfl (aD rfl) ?_
 refine al rfl (aH (o':=0) rfl rfl) ?_
 refine al rfl (aH (o':=0) rfl rfl) ?_
 refine al rfl (bH rfl) ?_
 refine al rfl (oc rfl rfl (by omega) (by omega)) ?_
 refine al rfl (bg rfl rfl (((y -1)/v.ae.pages).toNat) (by omega) (by omega)) ?_
 refine al rfl (aH rfl rfl) ?_
 refine al rfl (bL (j:=0) rfl (((y -1)/v.ae.pages).toNat) hB rfl (by decide)) ?_
 refine al rfl (aD rfl) ?_
 refine al rfl (aH (o':=0) rfl rfl) ?_
 refine al rfl (aH (o':=0) rfl rfl) ?_
 refine al rfl (bH rfl) ?_
 refine al rfl (yk rfl rfl (by omega) (by omega)) ?_
 refine al rfl (bg rfl rfl (((y -1)%v.ae.pages).toNat) (by omega) (by omega)) ?_
 refine al rfl (bL (j:=0) rfl (((y -1)%v.ae.pages).toNat) hz rfl (by decide)) ?_
 refine sd rfl rfl trivial (fun e x w hw=>ah.mem hw) (Cert.one (i:=22) rfl rfl rfl jX (Cert.none rfl)) fun jS tT=>⟨fun _ hw=>ah.mem hw,?_⟩
 have e1:jS.body.xs=(cr z.xs).1.body:=congrArg PV.body tT
 refine al rfl (aD rfl) ?_
 refine al rfl (aV (v:= .agg (cG jS)) rfl rfl) ?_
 refine al rfl (aV (v:= .int .i64 ((cr z.xs).2)) rfl rfl) ?_
 refine oy (m:=kR Tryz.prog 110) rfl rfl jX (Cert.none rfl) fun b6=> ?_
 change Ln _ _ _ _ _ _ _ _ (cw _ _ (.pointer (some ⟨b6,0,none⟩))) (ar b6 (cG m9) 110::_) _
 refine dE rfl (ox rfl rfl ⟨fun _ hw=>ah.mem hw,?_⟩)
 refine al rfl (bl rfl) ?_
 refine Gc ?_
 iterate 2 refine Gs ?_
 refine Gc ?_
 refine au rfl (fun h0=> ?_) (fun h0=> ?_)
 ·
  replace h0:=bz h0
  have hE:(iC (cv v.ae) (v.at_.xs.getD id.toNat 0))=[]:=by rw[nk,iC,oH,if_neg h0]
  refine Gc ?_
  refine Gs ?_
  refine Gc ?_
  refine aq (.inl rfl) (aI rfl (ak rfl)) (fun w1 hw=> ?_)
  exact⟨Sv.none,rfl,trivial,by rw[hE];exact Mem.dP aM 1 (ah.mem hw:Mem w [] _)⟩
 ·
  replace h0:=bz h0
  have vm:(cr z.xs).2=0:=h0
  have hE:(iC (cv v.ae) (v.at_.xs.getD id.toNat 0))=jS.body.xs:=by rw[nk,iC,oH,if_pos vm,e1]
  refine Gc ?_
  iterate 3 refine Gs ?_
  refine Gc ?_
  refine aq (.inl rfl) (aI rfl (ak rfl)) (fun w1 hw=> ?_)
  exact⟨jS.body.sv,rfl,trivial,by rw[hE];exact ah.mem hw⟩
instance Ms{w0:World}{L:List ai}{v:bM}{id:Int}[hv:aU w0 L v]:cl Tryz.prog 49 w0 L [.agg (bF v), .int .i64 id] (Sv) (fun zz=>zz.val) (fun zz=>own aM 1 zz (iC (cv v.ae) (v.at_.xs.getD id.toNat 0))::L) (fun zz=>True) (aT (cv v.ae)=true∧ ∃y,v.at_.xs[id.toNat]? =Option.some y∧0≤id∧1≤y∧y≤1000000∧2≤(y -1)/(cv v.ae).pages∧(y -1)/(cv v.ae).pages<((cv v.ae).blocks.length:Int)):=⟨fun hp w hw=>(VW w v id (hv.h w hw) hp).mono fun e w' ⟨x,h1,h2,h3⟩=>⟨x,h1,h2,hw.call h3⟩⟩
open Go.aC Go.Kb
open Go.RowKit
open Go.aC Go.Kb
open Go.RowKit
theorem VX(w:World)(x:eo)(n:Int)(hx:Deep.aY (hp w) x):Calls Tryz.prog 148 #[.agg (cG x), .int .i64 n] w fun e w'=> ∃zz:Sv,e= .returned (.tuple #[zz.val, .int .i64 ((c8 (cD x) n).2)])∧(True)∧Mem w [own aM 1 zz (c8 (cD x) n).1] w':=by
 have tK:cg w x:=⟨hx⟩
 refine ba (args:=[_,_]) Tryz.func148 rfl Tryz.ntmps148 rfl ?_
 change Cw _ _ _ _ _ [(0, .agg (cG x)),(1, .int .i64 n)] []
 refine Gc ?_
 refine bX rfl fun b2=> ?_
 iterate 2 refine Gs ?_
 refine Gc ?_
 iterate 4 refine Gs ?_
 refine Gc ?_
 refine au rfl (fun h0=> ?_) (fun h0=> ?_)
 ·
  replace h0:=bz h0
  have hE:c8 (cD x) n=([],1):=by rw[c8,if_neg (by rw[h0];simp)]
  refine Gc ?_
  iterate 2 refine Gs ?_
  refine Gc ?_
  refine aq (.inl rfl) (bm rfl (ak rfl) (ak rfl)) (fun w1 hw=> ?_)
  exact⟨Sv.none,by rw[hE];rfl,trivial,by rw[hE];exact Mem.dP aM 1 (ah.mem hw:Mem w [] _)⟩
 ·
  replace h0:=bz h0
  have hE:c8 (cD x) n=((iY (cD x) n.toNat)++be (lP (iY (cD x) n.toNat)) 4,0):=by rw[c8,if_pos h0]
  obtain⟨m1,m2,m3,m4,m5,m6⟩:=pj.1 h0
  have U9:=qd.1 m1
  have zv:dv n=n -16:=by rw[dv,if_pos m1]
  simp only[cD]at m2 m3 m4 m5 m6
  have JG:(List.replicate (n.toNat -4) (0:UInt8)).length=n.toNat -4:=List.length_replicate
  have dt:x.body.xs.length+16≤n.toNat:=by omega
  have hg6:=hO x.gen.toNat 6
  have zB:=hO x.body.xs.length 2
  have vZ:=EF (iY (cD x) n.toNat)
  have bU:(iY (cD x) n.toNat).length=n.toNat -4:=SB (by simp only[cD];omega)
  refine Gc ?_
  iterate 2 refine Gs ?_
  refine s9 (enc:=aM) (n:=(n.toNat -4)) (cap:=(n.toNat -4)) 0 rfl rfl rfl (by omega) (by omega) (by omega) (by omega) (by omega) fun jB=> ?_
  refine Gs ?_
  iterate 3 refine Gi ?_
  have zC:=BK (b:=jB) (n:=(n.toNat -4)) (by omega)
  refine jn [9,11] [[],[],[],[],[],[],[],[],[],[],[9],[9]] [0,1,2,3,4,5,6,7,8,9,10,11] [ar b2 (cG x) 110] (fun _ hw=>ah.mem hw) (by kernel_rfl) (by kernel_rfl) ?_
  refine al rfl (aD rfl) ?_
  refine al rfl (aD rfl) ?_
  refine al rfl (aH (o':=0) rfl rfl) ?_
  refine al rfl (bH rfl) ?_
  refine al rfl (rS rfl (wF _)) ?_
  refine al rfl (aH (o':=1) rfl rfl) ?_
  refine al rfl (bH rfl) ?_
  refine al rfl (rS rfl (wF _)) ?_
  refine al rfl (lK (s:=⟨false,jB,0,(n.toNat -4),(n.toNat -4),none⟩) (i:=0) rfl rfl rfl zC (by simp only;omega)) ?_
  refine dE rfl (uO (s:=⟨false,jB,0,(n.toNat -4),(n.toNat -4),none⟩) (n:=1) (k:=0) (j:=0) (a:=0) (a':=cM x.kind) (xs:=(List.replicate (n.toNat -4) (0:UInt8))) (enc:=aM) (c:=1) (v:= .int .u8 (cM x.kind).toNat) (by kernel_rfl) rfl rfl rfl (by rw[List.getElem?_replicate,if_pos (by omega)]) (by simp[Value.cells,Value.oneCell']) rfl (by omega) (by rfl) ⟨fun _ hw=>ah.mem hw,?_⟩)
  refine al rfl (lK (s:=⟨false,jB,0,(n.toNat -4),(n.toNat -4),none⟩) (i:=1) rfl rfl rfl zC (by simp only;omega)) ?_
  refine dE rfl (uO (s:=⟨false,jB,0,(n.toNat -4),(n.toNat -4),none⟩) (n:=1) (k:=1) (j:=0) (a:=0) (a':=cM x.id) (xs:=((List.replicate (n.toNat -4) (0:UInt8)).set 0 (cM x.kind))) (enc:=aM) (c:=1) (v:= .int .u8 (cM x.id).toNat) (by kernel_rfl) rfl rfl rfl (by rw[List.getElem?_set_ne (by decide),List.getElem?_replicate,if_pos (by omega)]) (by simp[Value.cells,Value.oneCell']) rfl (by omega) (by rfl) ⟨fun _ hw=>ah.mem hw,?_⟩)
  iterate 3 refine Gi ?_
  refine qU [own aM 1 ⟨false,jB,0,(n.toNat -4),(n.toNat -4),none⟩ ([cM x.kind,cM x.id]++List.replicate ((n.toNat -4) -2) (0:UInt8)),ar b2 (cG x) 110] (fun w hw=>by
   rw[SA (by omega)]at hw
   exact ah.mem hw) ?_
  refine jn [4,5] [[],[],[],[],[],[4]] [0,1,2,3,4,5] [ar b2 (cG x) 110] (fun _ hw=>ah.mem hw) (by kernel_rfl) (by kernel_rfl) ?_
  refine al rfl (aD rfl) ?_
  have VY:Rg 2 8 (List.replicate (n.toNat -4) (0:UInt8)).length:=⟨by omega⟩
  refine al rfl (AT (s:=⟨false,jB,0,(n.toNat -4),(n.toNat -4),none⟩) (l:=2) (h:=8) rfl rfl rfl rfl rfl zC (by omega) (by simp only;omega)) ?_
  refine al rfl (aH (o':=2) rfl rfl) ?_
  refine al rfl (bH rfl) ?_
  refine dE rfl (nG (vs:=[_, .int .i64 ((6:Nat):Int)]) rfl ⟨by omega,by omega,by omega⟩ fun du mG=>⟨fun _ hw=>ah.mem hw,?_⟩)
  refine dE rfl (EK (D:=Sv.sub ⟨false,jB,0,(n.toNat -4),(n.toNat -4),none⟩ 1 2 8) (S:=du) (rm:=⟨false,jB,0,(n.toNat -4),(n.toNat -4),none⟩) (k:=2) (xs:=([cM x.kind,cM x.id]++List.replicate ((n.toNat -4) -2) (0:UInt8))) (ys:=(be x.gen.toNat 6)) rfl rfl rfl rfl (by simp only[Sv.sub];rw[if_neg (by omega)]) rfl (by decide) rfl (by simp only[Sv.sub,hO];omega) (by simp only[List.length_append,hO,List.length_replicate,List.length_cons,List.length_nil];omega) ⟨fun _ hw=>ah.mem hw,?_⟩)
  iterate 3 refine Gi ?_
  refine qU [own aM 1 ⟨false,jB,0,(n.toNat -4),(n.toNat -4),none⟩ ([cM x.kind,cM x.id]++(be x.gen.toNat 6)++List.replicate ((n.toNat -4) -2 -(be x.gen.toNat 6).length) (0:UInt8)),ar b2 (cG x) 110] (fun w hw=>by
   rw[EW (A:=[cM x.kind,cM x.id]) (k:=2) rfl]at hw
   exact ah.mem hw) ?_
  refine jn [6,7] [[],[],[],[],[],[],[],[6]] [0,1,2,3,4,5,6,7] [ar b2 (cG x) 110] (fun _ hw=>ah.mem hw) (by kernel_rfl) (by kernel_rfl) ?_
  refine al rfl (aD rfl) ?_
  have ahb:Rg 8 10 (List.replicate (n.toNat -4) (0:UInt8)).length:=⟨by omega⟩
  refine al rfl (AT (s:=⟨false,jB,0,(n.toNat -4),(n.toNat -4),none⟩) (l:=8) (h:=10) rfl rfl rfl rfl rfl zC (by omega) (by simp only;omega)) ?_
  refine al rfl (aH (o':=3) rfl rfl) ?_
  refine al rfl (bH rfl) ?_
  refine al rfl (lg rfl) ?_
  refine al rfl (pS rfl (by simp only[nb];omega)) ?_
  refine dE rfl (nG (vs:=[_, .int .i64 ((2:Nat):Int)]) rfl ⟨by omega,by omega,by omega⟩ fun VZ ahc=>⟨fun _ hw=>ah.mem hw,?_⟩)
  refine dE rfl (EK (D:=Sv.sub ⟨false,jB,0,(n.toNat -4),(n.toNat -4),none⟩ 1 8 10) (S:=VZ) (rm:=⟨false,jB,0,(n.toNat -4),(n.toNat -4),none⟩) (k:=8) (xs:=([cM x.kind,cM x.id]++(be x.gen.toNat 6)++List.replicate ((n.toNat -4) -2 -(be x.gen.toNat 6).length) (0:UInt8))) (ys:=(be x.body.xs.length 2)) rfl rfl rfl rfl (by simp only[Sv.sub];rw[if_neg (by omega)]) rfl (by decide) rfl (by simp only[Sv.sub,hO];omega) (by simp only[List.length_append,hO,List.length_replicate,List.length_cons,List.length_nil];omega) ⟨fun _ hw=>ah.mem hw,?_⟩)
  iterate 3 refine Gi ?_
  refine qU [own aM 1 ⟨false,jB,0,(n.toNat -4),(n.toNat -4),none⟩ ([cM x.kind,cM x.id]++(be x.gen.toNat 6)++(be x.body.xs.length 2)++List.replicate ((n.toNat -4) -2 -(be x.gen.toNat 6).length -(be x.body.xs.length 2).length) (0:UInt8)),ar b2 (cG x) 110] (fun w hw=>by
   rw[EW (A:=[cM x.kind,cM x.id]++(be x.gen.toNat 6)) (k:=8) (by simp[hO])]at hw
   exact ah.mem hw) ?_
  refine jn [4] [[],[],[],[],[]] [0,1,2,3,4] [ar b2 (cG x) 110] (fun _ hw=>ah.mem hw) (by kernel_rfl) (by kernel_rfl) ?_
  refine al rfl (aD rfl) ?_
  have ahd:Rg 10 ((List.replicate (n.toNat -4) (0:UInt8)).length) (List.replicate (n.toNat -4) (0:UInt8)).length:=⟨by omega⟩
  refine al rfl (qQ (s:=⟨false,jB,0,(n.toNat -4),(n.toNat -4),none⟩) (l:=10) (n:=(n.toNat -4)) rfl rfl rfl zC rfl (by omega)) ?_
  refine al rfl (aH (o':=3) rfl rfl) ?_
  refine al rfl (bH rfl) ?_
  refine dE rfl (EK (D:=Sv.sub ⟨false,jB,0,(n.toNat -4),(n.toNat -4),none⟩ 1 10 (n.toNat -4)) (S:=x.body.sv) (rm:=⟨false,jB,0,(n.toNat -4),(n.toNat -4),none⟩) (k:=10) (xs:=([cM x.kind,cM x.id]++(be x.gen.toNat 6)++(be x.body.xs.length 2)++List.replicate ((n.toNat -4) -2 -(be x.gen.toNat 6).length -(be x.body.xs.length 2).length) (0:UInt8))) (ys:=x.body.xs) rfl rfl rfl rfl (by simp only[Sv.sub];rw[if_neg (by omega)]) rfl (by decide) rfl (by simp only[Sv.sub,hO];omega) (by simp only[List.length_append,hO,List.length_replicate,List.length_cons,List.length_nil];omega) ⟨fun _ hw=>ah.mem hw,?_⟩)
  iterate 3 refine Gi ?_
  refine qU [own aM 1 ⟨false,jB,0,(n.toNat -4),(n.toNat -4),none⟩ (iY (cD x) n.toNat),ar b2 (cG x) 110] (fun w hw=>by
   rw[EW (A:=[cM x.kind,cM x.id]++(be x.gen.toNat 6)++(be x.body.xs.length 2)) (k:=10) (by simp[hO]),show([cM x.kind,cM x.id]++(be x.gen.toNat 6)++(be x.body.xs.length 2)++x.body.xs++List.replicate ((n.toNat -4) -2 -(be x.gen.toNat 6).length -(be x.body.xs.length 2).length -x.body.xs.length) (0:UInt8))=(iY (cD x) n.toNat)from by
    simp only[iY,cD,hO]
    congr 2<;>omega]at hw
   exact ah.mem hw) ?_
  refine Gi ?_
  iterate 3 refine Gs ?_
  refine ag (pS rfl (by simp only[nb];omega)) ?_
  refine bq (vs:=[_, .int .i64 ((4:Nat):Int)]) rfl ⟨by omega,by omega,by omega⟩ fun xq V0=> ?_
  refine pc (enc:=(bY (τ:=UInt8))) [(⟨⟨false,jB,0,(n.toNat -4),(n.toNat -4),none⟩,(iY (cD x) n.toNat)⟩:Sl UInt8),⟨xq,be (lP (iY (cD x) n.toNat)) 4⟩] (vals:=[(⟨false,jB,0,(n.toNat -4),(n.toNat -4),none⟩:Sv).val,xq.val]) rfl (by simp only[List.map_cons,List.map_nil,Sv.iU];rfl) rfl (by decide) (by decide) fun b48=> ?_
  refine RH (τ:=Sl UInt8) (xs:=[(⟨⟨false,jB,0,(n.toNat -4),(n.toNat -4),none⟩,(iY (cD x) n.toNat)⟩:Sl UInt8),⟨xq,be (lP (iY (cD x) n.toNat)) 4⟩]) fun V1 EA g48=> ?_
  have Mt:jH V1.xs=(c8 (cD x) n).1:=by rw[EA,hE];simp[jH]
  have hf9:(c8 (cD x) n).1.length≤1000:=by rw[hE,List.length_append,hO];omega
  refine bq rfl (by rw[Mt];omega) fun V2 ahe=> ?_
  iterate 2 refine Gs ?_
  refine Gc ?_
  refine aq (.inl rfl) (bm rfl (ak rfl) (ak rfl)) (fun w1 hw=> ?_)
  exact⟨V2,by rw[hE],trivial,by rw[←Mt];exact ah.mem hw⟩
instance ahf{w0:World}{L:List ai}{x:eo}{n:Int}[hx:aU w0 L x]:cl Tryz.prog 148 w0 L [.agg (cG x), .int .i64 n] (Sv) (fun zz=> .tuple #[zz.val, .int .i64 ((c8 (cD x) n).2)]) (fun zz=>own aM 1 zz (c8 (cD x) n).1::L) (fun zz=>True) (True):=⟨fun hp w hw=>(VX w x n (hx.h w hw)).mono fun e w' ⟨x,h1,h2,h3⟩=>⟨x,h1,h2,hw.call h3⟩⟩
open Go.aC Go.Kb
open Go.RowKit
theorem V3(i:Int)(g:UInt64)(w:World):(Instr.build 110 #[(0, .int .i64 2),(1, .int .i64 i),(2, .int .u64 (g.toNat:Int))]).run Tryz.prog w= .ok (.agg (cG ⟨2,i,g,⟨Sv.none,[]⟩⟩)) w:=by
 unfold cG
 kernel_rfl
theorem V4(w:World)(r:dd)(n:Int)(hr:Deep.aY (hp w) r):Calls Tryz.prog 123 #[.agg (dB r), .int .i64 n] w fun e w'=> ∃zz:Sv,e= .returned (.tuple #[zz.val, .int .i64 ((cN (df r) n).2)])∧(True)∧Mem w [own aM 1 zz (cN (df r) n).1] w':=by
 have U1:cg w r:=⟨hr⟩
 have iJ:=hr.1.bd
 refine ba (args:=[_,_]) Tryz.func123 rfl Tryz.ntmps123 rfl ?_
 change Cw _ _ _ _ _ [(0, .agg (dB r)),(1, .int .i64 n)] []
 refine Gc ?_
 refine bX rfl fun b2=> ?_
 iterate 2 refine Gs ?_
 refine Gc ?_
 iterate 4 refine Gs ?_
 refine Gc ?_
 refine au rfl (fun h0=> ?_) (fun h0=> ?_)
 ·
  replace h0:=bz h0
  have hE:cN (df r) n=([],1):=by rw[cN,if_neg (by rw[h0];simp)]
  refine Gc ?_
  iterate 2 refine Gs ?_
  refine Gc ?_
  refine aq (.inl rfl) (bm rfl (ak rfl) (ak rfl)) (fun w1 hw=> ?_)
  exact⟨Sv.none,by rw[hE];rfl,trivial,by rw[hE];exact Mem.dP aM 1 (ah.mem hw:Mem w [] _)⟩
 ·
  replace h0:=bz h0
  have hE:cN (df r) n=c8 (⟨2,(max 0 (r.at_.xs.length -1:Int)),r.gen.toNat,fZ r.at_.xs⟩:PV) n:=by rw[cN,if_pos h0];rfl
  obtain⟨m1,m2,m3,m4⟩:=tn.1 h0
  have hmf:jt n≤64:=by rw[jt];omega
  simp only[df]at m2 m3 m4
  refine Gc ?_
  iterate 4 refine Gs ?_
  refine ag (uv rfl rfl) ?_
  iterate 2 refine Gs ?_
  refine ag (cR (v:= .agg (cG (⟨2,(max 0 (r.at_.xs.length -1:Int)),r.gen,⟨Sv.none,[]⟩⟩:eo))) rfl (V3 _ r.gen)) ?_
  refine bK fun b6=> ?_
  refine Gs ?_
  refine Gc ?_
  iterate 4 refine Gs ?_
  refine Gc ?_
  refine ca (X:=Nat×Sv) (fun zz=>[(24, .int .i64 (zz.1:Nat)),(6, .pointer (some ⟨b6,0,none⟩)),(1, .int .i64 n),(22,r.at_.sv.val),(23, .int .i64 (r.at_.xs.length:Nat))]) (fun zz=>[ar b6 (cG (⟨2,(max 0 (r.at_.xs.length -1:Int)),r.gen,⟨zz.2,fZ (r.at_.xs.take zz.1)⟩⟩:eo)) 110,own aM 1 zz.2 (fZ (r.at_.xs.take zz.1)),ar b2 (dB r) 147]) (fun zz=>zz.1≤r.at_.xs.length) (fun zz=>r.at_.xs.length -zz.1) (0,Sv.none) (Nat.zero_le _) (Sub.cons rfl (Sub.cons rfl (Sub.cons rfl (Sub.cons rfl (Sub.cons rfl (Sub.nil _)))))) (fun w hw=>by
   simp only[List.take_zero,fZ,List.map_nil,List.flatten_nil];exact ah.mem (Mem.dP aM 1 hw)) ?_
  rintro⟨i,s1⟩ bh
  dsimp only
  simp only at bh
  refine Gc ?_
  refine Gs ?_
  refine Gc ?_
  refine au rfl (fun h1=> ?_) (fun h1=> ?_)
  ·
   replace h1:=bz h1
   obtain⟨y,hy⟩:=get_some (xs:=r.at_.xs) (i:=i) (by omega)
   have F8:=y4.1 (m4 y (List.mem_of_getElem? hy))
   have eM:fZ (r.at_.xs.take (i+1))=fZ (r.at_.xs.take i)++[cM (y/256),cM y]:=SD hy
   have tO:=wH (r.at_.xs.take i)
   have hnt:(r.at_.xs.take i).length≤64:=by rw[List.length_take];omega
   refine Gc ?_
   refine ag (bg rfl rfl i rfl (by omega)) ?_
   refine ag (bL (j:=0) rfl i hy rfl (by decide)) ?_
   refine Gs ?_
   refine Gc ?_
   iterate 3 refine Gs ?_
   refine ag (Ry.to (v':= .int .i64 (y/256)) (uw (p:=y.toNat) (Eq.trans (b:=some (Value.int .i64 y)) rfl (by rw[Int.toNat_of_nonneg F8.1])) rfl (by simp only[nb];omega) (by omega)) (by rw[show(8:Int).toNat=8 from rfl];congr 1;omega)) ?_
   refine ag (rS rfl (wF _)) ?_
   refine Gs ?_
   refine ag (rS rfl (wF _)) ?_
   refine pc (enc:=aM) (vals:=[_,_]) [(cM (y/256)),(cM y)] rfl rfl rfl (by decide) (by decide) fun Mu=> ?_
   refine mg (s:=s1) (ys:=[(cM (y/256)),(cM y)]) rfl rfl (by decide) (fun w hw=>kN (s:=⟨false,Mu,0,2,2,none⟩) Tryz.underlying38 (by decide) ((inferInstance:Hd _ _ ⟨false,Mu,0,2,2,none⟩ aM 1 [(cM (y/256)),(cM y)]).h w hw)) (by simp only[List.length_cons,List.length_nil];omega) (by simp only[List.length_cons,List.length_nil];omega) fun Mv ahg ahh=> ?_
   refine Gs ?_
   refine eN (cs':=cG (⟨2,(max 0 (r.at_.xs.length -1:Int)),r.gen,⟨Mv,((fZ (r.at_.xs.take i))++[(cM (y/256)),(cM y)])⟩⟩:eo)) rfl rfl (by show 3<4;decide) (by first|rfl|exact Sv.one _) rfl ?_
   refine Gc ?_
   iterate 2 refine Gs ?_
   refine Gi ?_
   exact bx (x:=(i,s1)) (i+1,Mv) (by simp only;omega) (by simp only;omega) (Sub.cons rfl (Sub.cons rfl (Sub.cons rfl (Sub.cons rfl (Sub.cons rfl (Sub.nil _)))))) (fun w hw=>by
    simp only[eM];exact ah.mem hw)
  ·
   replace h1:=bz h1
   obtain rfl:i=r.at_.xs.length:=by omega
   rw[List.take_length]
   iterate 6 refine Gi ?_
   refine qU [Deep.cd (⟨s1,fZ r.at_.xs⟩:Sl UInt8),ar b6 (cG (⟨2,(max 0 (r.at_.xs.length -1:Int)),r.gen,⟨s1,fZ r.at_.xs⟩⟩:eo)) 110] (fun w hw=>ah.mem (Mem.JI (ah.mem hw:Mem _ [own aM 1 s1 (fZ r.at_.xs),ar b6 (cG (⟨2,(max 0 (r.at_.xs.length -1:Int)),r.gen,⟨s1,fZ r.at_.xs⟩⟩:eo)) 110] _))) ?_
   refine Gi ?_
   iterate 2 refine Gs ?_
   refine bq rfl trivial fun kI V5=> ?_
   refine ag (aV (v:=kI.val) rfl rfl) ?_
   refine ag (aV (v:= .int .i64 ((c8 (cD (⟨2,(max 0 (r.at_.xs.length -1:Int)),r.gen,⟨s1,fZ r.at_.xs⟩⟩:eo)) n).2)) rfl rfl) ?_
   iterate 2 refine Gs ?_
   refine Gc ?_
   refine aq (.inl rfl) (bm rfl (ak rfl) (ak rfl)) (fun w1 hw=> ?_)
   exact⟨kI,by rw[hE];rfl,trivial,by
    have h1:Mem w [own aM 1 kI (c8 (cD (⟨2,(max 0 (r.at_.xs.length -1:Int)),r.gen,⟨s1,fZ r.at_.xs⟩⟩:eo)) n).1] _:=ah.mem hw
    rw[hE];exact h1⟩
instance ahi{w0:World}{L:List ai}{r:dd}{n:Int}[hr:aU w0 L r]:cl Tryz.prog 123 w0 L [.agg (dB r), .int .i64 n] (Sv) (fun zz=> .tuple #[zz.val, .int .i64 ((cN (df r) n).2)]) (fun zz=>own aM 1 zz (cN (df r) n).1::L) (fun zz=>True) (True):=⟨fun hp w hw=>(V4 w r n (hr.h w hw)).mono fun e w' ⟨x,h1,h2,h3⟩=>⟨x,h1,h2,hw.call h3⟩⟩
open Go.aC Go.Kb
open Go.RowKit
theorem V6(w:World)(xb:Nat)(xc:Cp)(xa:Sl Int)(xg:UInt64)(xl:Int)(xy:Bool)(dL:w.heap[xb]? =Option.some (.cells (aL (⟨⟨xc,xa,xg,xl⟩,xy⟩:aP)) 141 (0,0)))(dU:Deep.aY (hp w) xc):Calls Tryz.prog 87 #[.pointer (some ⟨xb,0,none⟩)] w fun e w'=>e= .returned (.int .i64 (lp (cv xc):Nat))∧Mem w [] w':=by
 have sB:pF w xb (aL (⟨⟨xc,xa,xg,xl⟩,xy⟩:aP)) 141:=⟨dL⟩
 have sC:cg w xc:=⟨dU⟩
 have iJ:=dU.1.1.bd
 have dt:(cv xc).blocks.length=xc.blocks.xs.length:=fu _
 refine ba (args:=[_]) Tryz.func87 rfl Tryz.ntmps87 rfl ?_
 change Cw _ _ _ _ _ [(0, .pointer (some ⟨xb,0,none⟩))] []
 refine Gc ?_
 refine Gs ?_
 refine Gc ?_
 refine Gs ?_
 refine Gc ?_
 iterate 5 refine Gs ?_
 refine ag (Ry.to (v':=xc.blocks.sv.val) (mF rfl) rfl) ?_
 iterate 2 refine Gs ?_
 refine Gc ?_
 refine ca (X:=Nat) (fun zz=>[(13, .int .i64 (zz:Nat)),(3, .int .i64 ((((gu xc.blocks.xs).take zz).filter fun b=>b.bad).length:Nat)),(11,xc.blocks.sv.val),(12, .int .i64 (xc.blocks.xs.length:Nat))]) (fun zz=>[]) (fun zz=>zz≤xc.blocks.xs.length) (fun zz=>xc.blocks.xs.length -zz) 0 (Nat.zero_le _) (Sub.cons rfl (Sub.cons rfl (Sub.cons rfl (Sub.cons rfl (Sub.nil _))))) (fun w hw=>ah.mem hw) ?_
 rintro i bh
 refine Gc ?_
 refine Gs ?_
 refine Gc ?_
 refine au rfl (fun h0=> ?_) (fun h0=> ?_)
 ·
  replace h0:=bz h0
  obtain⟨B,hB⟩:=get_some (xs:=xc.blocks.xs) (i:=i) (by omega)
  have qx:Mb B xc.blocks:=⟨List.mem_of_getElem? hB⟩
  have eM:=S4 (iV hB)
  have hle:(((gu xc.blocks.xs).take i).filter fun b=>b.bad).length≤i:=Nat.le_trans (List.length_filter_le _ _) (by rw[List.length_take];omega)
  refine Gc ?_
  refine ag (bg rfl rfl i rfl (by omega)) ?_
  refine ag (gG rfl i hB rfl) ?_
  have V7:Mb B xc.blocks:=⟨List.mem_of_getElem? hB⟩
  refine bK fun b5=> ?_
  refine Gs ?_
  refine Gc ?_
  iterate 2 refine Gs ?_
  refine Gc ?_
  refine au rfl (fun h1=> ?_) (fun h1=> ?_)
  ·
   replace h1:=bz h1
   rw[if_pos (show(bv B).bad=true from h1)]at eM
   refine Gi ?_
   iterate 3 refine Gs ?_
   refine Gc ?_
   iterate 2 refine Gs ?_
   refine Gi ?_
   exact bx (x:=(i)) (i+1) (by first|omega|(simp only[];omega)) (by first|omega|(simp only[];omega)) (Sub.cons rfl (Sub.cons (look_eq rfl (by rw[eM];rfl)) (Sub.cons rfl (Sub.cons rfl (Sub.nil _))))) (fun w hw=>ah.mem hw)
  ·
   replace h1:=bz h1
   rw[if_neg (show ¬(bv B).bad=true by rw[show(bv B).bad=B.bad from rfl,h1];simp)]at eM
   refine Gc ?_
   iterate 2 refine Gs ?_
   refine Gi ?_
   exact bx (x:=(i)) (i+1) (by first|omega|(simp only[];omega)) (by first|omega|(simp only[];omega)) (Sub.cons rfl (Sub.cons (look_eq rfl (by rw[eM,Nat.add_zero])) (Sub.cons rfl (Sub.cons rfl (Sub.nil _))))) (fun w hw=>ah.mem hw)
 ·
  replace h0:=bz h0
  obtain rfl:i=xc.blocks.xs.length:=by omega
  have hz:lp (cv xc)=(((gu xc.blocks.xs).take xc.blocks.xs.length).filter fun b=>b.bad).length:=by rw[←dt];exact congrArg (fun l:List BV=>(l.filter fun b=>b.bad).length) (List.take_length).symm
  refine Gc ?_
  iterate 2 refine Gs ?_
  refine Gc ?_
  refine aq (.inl rfl) (aI rfl (ak rfl)) (fun w1 hw=> ?_)
  exact⟨congrArg (fun b=>Ending.returned (Value.int .i64 b)) (by rw[hz]),ah.mem hw⟩
instance ahj{w0:World}{L:List ai}{xb:Nat}{xc:Cp}{xa:Sl Int}{xg:UInt64}{xl:Int}{xy:Bool}[dL:lz w0 L xb (aL (⟨⟨xc,xa,xg,xl⟩,xy⟩:aP)) 141][dU:aU w0 L xc]:cB Tryz.prog 87 w0 L [.pointer (some ⟨xb,0,none⟩)] (.int .i64 (lp (cv xc):Nat)) (True):=⟨fun hp w hw=>V6 w xb xc xa xg xl xy (dL.h w hw) (dU.h w hw)⟩
theorem V8(w:World)(xb:Nat)(xc:Cp)(xa:Sl Int)(xg:UInt64)(xl:Int)(xy:Bool)(b:Int)(dL:w.heap[xb]? =Option.some (.cells (aL (⟨⟨xc,xa,xg,xl⟩,xy⟩:aP)) 141 (0,0)))(dU:Deep.aY (hp w) xc)(bb:aT (cv xc)=true∧0≤b∧b<(cv xc).blocks.length):Calls Tryz.prog 124 #[.pointer (some ⟨xb,0,none⟩), .int .i64 b] w fun e w'=>e= .returned (.int .i64 (dG (cv xc) b))∧Mem w [] w':=by
 have sB:pF w xb (aL (⟨⟨xc,xa,xg,xl⟩,xy⟩:aP)) 141:=⟨dL⟩
 have sC:cg w xc:=⟨dU⟩
 obtain⟨hk,oO,rE⟩:=bb
 have kf:dQ xc:=ph hk
 have dt:(cv xc).blocks.length=xc.blocks.xs.length:=fu _
 obtain⟨B,hB⟩:=get_some (xs:=xc.blocks.xs) (i:=b.toNat) (by omega)
 have qx:Mb B xc.blocks:=⟨List.mem_of_getElem? hB⟩
 have eH:=rh hB
 have fP:=dX.1 ((eU.1 hk).2.2.2.2 (bv B) (List.mem_of_getElem? (iV hB)))
 have gX:=jI.1 (eU.1 hk).1
 have oP:(aj (cv xc) b).used=B.used:=by rw[eH];rfl
 simp only[bv,cv]at fP gX
 refine ba (args:=[_,_]) Tryz.func124 rfl Tryz.ntmps124 rfl ?_
 change Cw _ _ _ _ _ [(0, .pointer (some ⟨xb,0,none⟩)),(1, .int .i64 b)] []
 refine Gc ?_
 refine Gs ?_
 refine Gc ?_
 iterate 5 refine Gs ?_
 refine ag (Ry.to (v':=xc.blocks.sv.val) (mF rfl) rfl) ?_
 refine Gs ?_
 refine ag (bg rfl rfl b.toNat (by omega) (by omega)) ?_
 refine ag (gG rfl b.toNat hB rfl) ?_
 have Cy:Mb B xc.blocks:=⟨List.mem_of_getElem? hB⟩
 refine bK fun b5=> ?_
 refine Gs ?_
 refine Gc ?_
 iterate 2 refine Gs ?_
 refine Gc ?_
 refine au rfl (fun h0=> ?_) (fun h0=> ?_)
 ·
  replace h0:=bz h0
  refine Gc ?_
  refine Gs ?_
  refine Gc ?_
  refine aq (.inl rfl) (aI rfl (ak rfl)) (fun w1 hw=> ?_)
  exact⟨congrArg (fun b=>Ending.returned (Value.int .i64 b)) ((by rw[dG,eH,if_pos (show(bv B).bad=true from h0)])),ah.mem hw⟩
 ·
  replace h0:=bz h0
  refine Gc ?_
  refine gO (by kernel_rfl) (by kernel_rfl) ?_
  iterate 5 refine Gq ?_
  refine bc (Ry.to (v':= .int .i64 xc.pages) (mF rfl) rfl) ?_
  iterate 4 refine Gq ?_
  refine Gc ?_
  refine aq (.inl rfl) (aI rfl (ak rfl)) (fun w1 hw=> ?_)
  exact⟨congrArg (fun b=>Ending.returned (Value.int .i64 b)) ((by rw[dG,eH,if_neg (show ¬(bv B).bad=true by rw[show(bv B).bad=B.bad from rfl,h0];simp)];rfl)),ah.mem hw⟩
instance ahk{w0:World}{L:List ai}{xb:Nat}{xc:Cp}{xa:Sl Int}{xg:UInt64}{xl:Int}{xy:Bool}{b:Int}[dL:lz w0 L xb (aL (⟨⟨xc,xa,xg,xl⟩,xy⟩:aP)) 141][dU:aU w0 L xc]:cB Tryz.prog 124 w0 L [.pointer (some ⟨xb,0,none⟩), .int .i64 b] (.int .i64 (dG (cv xc) b)) (aT (cv xc)=true∧0≤b∧b<(cv xc).blocks.length):=⟨fun hp w hw=>V8 w xb xc xa xg xl xy b (dL.h w hw) (dU.h w hw) hp⟩
theorem V9(w:World)(er:Int):Calls Tryz.prog 172 #[.int .i64 er] w fun e w'=>e= .returned (.int .i64 (iZ er))∧Mem w [] w':=by
 refine ba (args:=[_]) Tryz.func172 rfl Tryz.ntmps172 rfl ?_
 change Cw _ _ _ _ _ [(0, .int .i64 er)] []
 refine Gc ?_
 refine Gs ?_
 refine Gc ?_
 iterate 2 refine Gs ?_
 refine Gc ?_
 refine au rfl (fun h0=> ?_) (fun h0=> ?_)
 ·
  replace h0:=bz h0
  refine Gc ?_
  refine Gs ?_
  refine Gc ?_
  refine aq (.inl rfl) (aI rfl (ak rfl)) (fun w1 hw=> ?_)
  exact⟨congrArg (fun b=>Ending.returned (Value.int .i64 b)) ((by rw[iZ,if_pos h0])),ah.mem hw⟩
 ·
  replace h0:=bz h0
  refine Gc ?_
  iterate 2 refine Gs ?_
  refine Gc ?_
  refine aq (.inl rfl) (aI rfl (ak rfl)) (fun w1 hw=> ?_)
  exact⟨congrArg (fun b=>Ending.returned (Value.int .i64 b)) ((by rw[iZ,if_neg h0])),ah.mem hw⟩
instance ahl{w0:World}{L:List ai}{er:Int}:cB Tryz.prog 172 w0 L [.int .i64 er] (.int .i64 (iZ er)) (True):=⟨fun hp w hw=>V9 w er⟩
theorem Wa(w:World)(xb:Nat)(xc:Cp)(xa:Sl Int)(xg:UInt64)(xl:Int)(xy:Bool)(dL:w.heap[xb]? =Option.some (.cells (aL (⟨⟨xc,xa,xg,xl⟩,xy⟩:aP)) 141 (0,0)))(dU:Deep.aY (hp w) xc)(bb:xg.toNat<281474976710656):Calls Tryz.prog 167 #[.pointer (some ⟨xb,0,none⟩)] w fun e w'=>e= .returned (.bool (u3 xg.toNat))∧Mem w [] w':=by
 have sB:pF w xb (aL (⟨⟨xc,xa,xg,xl⟩,xy⟩:aP)) 141:=⟨dL⟩
 have sC:cg w xc:=⟨dU⟩
 refine ba (args:=[_]) Tryz.func167 rfl Tryz.ntmps167 rfl ?_
 change Cw _ _ _ _ _ [(0, .pointer (some ⟨xb,0,none⟩))] []
 refine Gc ?_
 refine Gs ?_
 refine Gc ?_
 iterate 4 refine Gs ?_
 refine ag (Ry.to (v':= .int .u64 (xg.toNat:Nat)) (mF rfl) rfl) ?_
 refine ag (yo (p:=xg.toNat) (q:=2) rfl rfl rfl rfl (by simp only[nb];omega)) ?_
 iterate 2 refine Gs ?_
 refine Gc ?_
 refine aq (.inl rfl) (aI rfl (ak rfl)) (fun w1 hw=> ?_)
 exact⟨congrArg (fun b=>Ending.returned (Value.bool b)) (by rw[u3];congr 1;simp only[eq_iff_iff];omega),ah.mem hw⟩
instance ahm{w0:World}{L:List ai}{xb:Nat}{xc:Cp}{xa:Sl Int}{xg:UInt64}{xl:Int}{xy:Bool}[dL:lz w0 L xb (aL (⟨⟨xc,xa,xg,xl⟩,xy⟩:aP)) 141][dU:aU w0 L xc]:cB Tryz.prog 167 w0 L [.pointer (some ⟨xb,0,none⟩)] (.bool (u3 xg.toNat)) (xg.toNat<281474976710656):=⟨fun hp w hw=>Wa w xb xc xa xg xl xy (dL.h w hw) (dU.h w hw) hp⟩
theorem Wb(w:World)(xb:Nat)(xc:Cp)(xa:Sl Int)(xg:UInt64)(xl:Int)(xy:Bool)(b:Int)(dL:w.heap[xb]? =Option.some (.cells (aL (⟨⟨xc,xa,xg,xl⟩,xy⟩:aP)) 141 (0,0)))(dU:Deep.aY (hp w) xc)(bb:aT (cv xc)=true∧0≤b∧b<(cv xc).blocks.length):Calls Tryz.prog 144 #[.pointer (some ⟨xb,0,none⟩), .int .i64 b] w fun e w'=>e= .returned (.int .u64 ((j8 (cv xc) b):Nat))∧Mem w [] w':=by
 have sB:pF w xb (aL (⟨⟨xc,xa,xg,xl⟩,xy⟩:aP)) 141:=⟨dL⟩
 have sC:cg w xc:=⟨dU⟩
 obtain⟨hk,oO,rE⟩:=bb
 have kf:dQ xc:=ph hk
 have dt:(cv xc).blocks.length=xc.blocks.xs.length:=fu _
 obtain⟨B,hB⟩:=get_some (xs:=xc.blocks.xs) (i:=b.toNat) (by omega)
 have qx:Mb B xc.blocks:=⟨List.mem_of_getElem? hB⟩
 have eH:=rh hB
 have fP:=dX.1 ((eU.1 hk).2.2.2.2 (bv B) (List.mem_of_getElem? (iV hB)))
 have gX:=jI.1 (eU.1 hk).1
 have oP:(aj (cv xc) b).used=B.used:=by rw[eH];rfl
 simp only[bv,cv]at fP gX
 have iO:=jo B.pages.xs
 have Wc:j8 (cv xc) b=ri (aJ B.pages.xs):=by rw[j8,eH];rfl
 refine ba (args:=[_,_]) Tryz.func144 rfl Tryz.ntmps144 rfl ?_
 change Cw _ _ _ _ _ [(0, .pointer (some ⟨xb,0,none⟩)),(1, .int .i64 b)] []
 refine Gc ?_
 refine Gs ?_
 refine Gc ?_
 refine Gs ?_
 refine Gc ?_
 iterate 5 refine Gs ?_
 refine ag (Ry.to (v':=xc.blocks.sv.val) (mF rfl) rfl) ?_
 refine Gs ?_
 refine ag (bg rfl rfl b.toNat (by omega) (by omega)) ?_
 refine ag (aH rfl rfl) ?_
 refine ag (bL (j:=0) rfl b.toNat hB rfl (by decide)) ?_
 iterate 2 refine Gs ?_
 refine Gc ?_
 refine ca (X:=Nat) (fun zz=>[(21, .int .i64 (zz:Nat)),(5, .int .u64 ((ri ((aJ B.pages.xs).take zz)):Nat)),(19,B.pages.sv.val),(20, .int .i64 (B.pages.xs.length:Nat))]) (fun zz=>[]) (fun zz=>zz≤B.pages.xs.length) (fun zz=>B.pages.xs.length -zz) 0 (Nat.zero_le _) (Sub.cons rfl (Sub.cons rfl (Sub.cons rfl (Sub.cons rfl (Sub.nil _))))) (fun w hw=>ah.mem hw) ?_
 rintro i bh
 refine Gc ?_
 refine Gs ?_
 refine Gc ?_
 refine au rfl (fun h0=> ?_) (fun h0=> ?_)
 ·
  replace h0:=bz h0
  obtain⟨y,hy⟩:=get_some (xs:=B.pages.xs) (i:=i) (by omega)
  have vj:Mb y B.pages:=⟨List.mem_of_getElem? hy⟩
  have eM:=S3 (kS hy)
  have vi:=Fb ((aJ B.pages.xs).take i)
  have tH:=KJ y.xs
  refine Gc ?_
  refine ag (bg rfl rfl i rfl (by omega)) ?_
  refine ag (bL (j:=0) rfl i hy rfl (by decide)) ?_
  refine Gs ?_
  refine Gc ?_
  refine Gs ?_
  refine bq rfl trivial fun pH rD=> ?_
  have nV:pH.gen.toNat=(bB y.xs).1.gen:=congrArg RV.gen rD
  refine Gs ?_
  refine ag (aV (v:= .agg (dB pH)) rfl rfl) ?_
  refine ag (aV (v:= .int .i64 ((bB y.xs).2)) rfl rfl) ?_
  refine bK fun b8=> ?_
  iterate 2 refine Gs ?_
  refine Gc ?_
  iterate 2 refine Gs ?_
  refine Gc ?_
  refine au rfl (fun h1=> ?_) (fun h1=> ?_)
  ·
   replace h1:=bz h1
   have hr:j7 y.xs=pH.gen.toNat:=by rw[j7,if_pos h1,←nV]
   refine Gi ?_
   iterate 3 refine Gs ?_
   refine ag (uv rfl rfl) ?_
   refine Gs ?_
   refine Gc ?_
   iterate 2 refine Gs ?_
   refine Gi ?_
   exact bx (x:=(i)) (i+1) (by first|omega|(simp only[];omega)) (by first|omega|(simp only[];omega)) (Sub.cons rfl (Sub.cons (look_eq rfl (by rw[eM,hr];congr 1;omega)) (Sub.cons rfl (Sub.cons rfl (Sub.nil _))))) (fun w hw=>ah.mem hw)
  ·
   replace h1:=bz h1
   have hr:j7 y.xs=0:=by rw[j7,if_neg h1]
   refine Gc ?_
   iterate 2 refine Gs ?_
   refine Gi ?_
   exact bx (x:=(i)) (i+1) (by first|omega|(simp only[];omega)) (by first|omega|(simp only[];omega)) (Sub.cons rfl (Sub.cons (look_eq rfl (by rw[eM,hr];congr 1;omega)) (Sub.cons rfl (Sub.cons rfl (Sub.nil _))))) (fun w hw=>ah.mem hw)
 ·
  replace h0:=bz h0
  obtain rfl:i=B.pages.xs.length:=by omega
  have hz:ri (aJ B.pages.xs)=(ri ((aJ B.pages.xs).take B.pages.xs.length)):=by rw[←iO,List.take_length]
  refine Gc ?_
  iterate 2 refine Gs ?_
  refine Gc ?_
  refine aq (.inl rfl) (aI rfl (ak rfl)) (fun w1 hw=> ?_)
  exact⟨by rw[Wc,hz],ah.mem hw⟩
instance ahn{w0:World}{L:List ai}{xb:Nat}{xc:Cp}{xa:Sl Int}{xg:UInt64}{xl:Int}{xy:Bool}{b:Int}[dL:lz w0 L xb (aL (⟨⟨xc,xa,xg,xl⟩,xy⟩:aP)) 141][dU:aU w0 L xc]:cB Tryz.prog 144 w0 L [.pointer (some ⟨xb,0,none⟩), .int .i64 b] (.int .u64 ((j8 (cv xc) b):Nat)) (aT (cv xc)=true∧0≤b∧b<(cv xc).blocks.length):=⟨fun hp w hw=>Wb w xb xc xa xg xl xy b (dL.h w hw) (dU.h w hw) hp⟩
theorem Wd(w:World)(xb:Nat)(xc:Cp)(xa:Sl Int)(xg:UInt64)(xl:Int)(xy:Bool)(b:Int)(dL:w.heap[xb]? =Option.some (.cells (aL (⟨⟨xc,xa,xg,xl⟩,xy⟩:aP)) 141 (0,0)))(dU:Deep.aY (hp w) xc)(bb:aT (cv xc)=true∧0≤b∧b<(cv xc).blocks.length):Calls Tryz.prog 120 #[.pointer (some ⟨xb,0,none⟩), .int .i64 b] w fun e w'=>e= .returned (.bool (wP (cv xc) b))∧Mem w [] w':=by
 have sB:pF w xb (aL (⟨⟨xc,xa,xg,xl⟩,xy⟩:aP)) 141:=⟨dL⟩
 have sC:cg w xc:=⟨dU⟩
 have We:=bb
 obtain⟨hk,oO,rE⟩:=bb
 have kf:dQ xc:=ph hk
 have dt:(cv xc).blocks.length=xc.blocks.xs.length:=fu _
 obtain⟨B,hB⟩:=get_some (xs:=xc.blocks.xs) (i:=b.toNat) (by omega)
 have qx:Mb B xc.blocks:=⟨List.mem_of_getElem? hB⟩
 have eH:=rh hB
 have fP:=dX.1 ((eU.1 hk).2.2.2.2 (bv B) (List.mem_of_getElem? (iV hB)))
 have gX:=jI.1 (eU.1 hk).1
 have oP:(aj (cv xc) b).used=B.used:=by rw[eH];rfl
 simp only[bv,cv]at fP gX
 refine ba (args:=[_,_]) Tryz.func120 rfl Tryz.ntmps120 rfl ?_
 change Cw _ _ _ _ _ [(0, .pointer (some ⟨xb,0,none⟩)),(1, .int .i64 b)] []
 refine Gc ?_
 refine Gs ?_
 refine Gc ?_
 iterate 5 refine Gs ?_
 refine ag (Ry.to (v':=xc.blocks.sv.val) (mF rfl) rfl) ?_
 refine Gs ?_
 refine ag (bg rfl rfl b.toNat (by omega) (by omega)) ?_
 refine ag (gG rfl b.toNat hB rfl) ?_
 have Cy:Mb B xc.blocks:=⟨List.mem_of_getElem? hB⟩
 refine bK fun b5=> ?_
 refine Gs ?_
 refine Gc ?_
 iterate 4 refine Gs ?_
 iterate 3 refine Gg ?_
 refine gN rfl rfl rfl (fun hg=>(Ry.yl (aD (aG hg rfl)))) ?_
 refine rT rfl rfl rfl (fun hg=>(Ry.yl (aD rfl))) ?_
 refine rT rfl rfl rfl (fun hg=>(Ry.yl (cx (aG hg rfl) rfl rfl))) ?_
 refine rT rfl rfl rfl (fun hg=>(Ry.yl (aD (aG hg rfl)))) ?_
 refine od rfl rfl rfl (fun hg=>(Ry.yl (aD rfl))) ?_
 refine od rfl rfl rfl (fun hg=>(Ry.yl (aD rfl))) ?_
 refine od rfl rfl rfl (fun hg=>cC (dA (aG hg rfl) (dA (aG hg rfl) gE)) We) ?_
 refine od rfl rfl rfl (fun hg=>(Ry.yl (cx (aG hg rfl) rfl rfl))) ?_
 refine rT rfl rfl rfl (fun hg=>(Ry.yl (vK (aG hg rfl) (vS hg rfl) rfl))) ?_
 refine gN rfl rfl rfl (fun hg=>(Ry.yl (mL (aG hg rfl) rfl (vS hg rfl)))) ?_
 iterate 2 refine Gs ?_
 refine Gc ?_
 refine aq (.inl rfl) (aI rfl (ak rfl)) (fun w1 hw=> ?_)
 exact⟨congrArg (fun b=>Ending.returned (Value.bool b)) ((by
  have e:decide ((0:Int)<((j8 (cv xc) b:Nat):Int))=decide (0<j8 (cv xc) b):=decide_eq_decide.2 (by omega)
  rw[wP,eH,e];rfl)),ah.mem hw⟩
instance aho{w0:World}{L:List ai}{xb:Nat}{xc:Cp}{xa:Sl Int}{xg:UInt64}{xl:Int}{xy:Bool}{b:Int}[dL:lz w0 L xb (aL (⟨⟨xc,xa,xg,xl⟩,xy⟩:aP)) 141][dU:aU w0 L xc]:cB Tryz.prog 120 w0 L [.pointer (some ⟨xb,0,none⟩), .int .i64 b] (.bool (wP (cv xc) b)) (aT (cv xc)=true∧0≤b∧b<(cv xc).blocks.length):=⟨fun hp w hw=>Wd w xb xc xa xg xl xy b (dL.h w hw) (dU.h w hw) hp⟩
theorem Wf(w:World)(xb:Nat)(xc:Cp)(xa:Sl Int)(xg:UInt64)(xl:Int)(xy:Bool)(b:Int)(dL:w.heap[xb]? =Option.some (.cells (aL (⟨⟨xc,xa,xg,xl⟩,xy⟩:aP)) 141 (0,0)))(dU:Deep.aY (hp w) xc)(bb:aT (cv xc)=true∧2≤(cv xc).blocks.length∧(b=0∨b=1)):Calls Tryz.prog 122 #[.pointer (some ⟨xb,0,none⟩), .int .i64 b] w fun e w'=>e= .returned (.int .u64 ((fL (cv xc) b):Nat))∧Mem w [] w':=by
 have sB:pF w xb (aL (⟨⟨xc,xa,xg,xl⟩,xy⟩:aP)) 141:=⟨dL⟩
 have sC:cg w xc:=⟨dU⟩
 obtain⟨hk,ql,Mw⟩:=bb
 have vi:=Fb (aj (cv xc) (1 -b)).pages
 change j8 (cv xc) (1 -b)<_ at vi
 refine ba (args:=[_,_]) Tryz.func122 rfl Tryz.ntmps122 rfl ?_
 change Cw _ _ _ _ _ [(0, .pointer (some ⟨xb,0,none⟩)),(1, .int .i64 b)] []
 refine Gc ?_
 refine Gs ?_
 refine Gc ?_
 iterate 3 refine Gs ?_
 refine Gc ?_
 iterate 2 refine Gs ?_
 refine fy (cC rfl ⟨hk,by omega,by omega⟩) ?_
 refine Gs ?_
 refine ag (Ry.to (v':= .int .u64 (((1 -b).toNat:Nat):Int)) (PR rfl (by omega) (by simp only[nb];omega)) (by congr 1;omega)) ?_
 refine ag (yo (p:=(j8 (cv xc) (1 -b))) (q:=((1 -b).toNat)) rfl rfl rfl rfl (by simp only[nb];omega)) ?_
 refine ag (uv rfl rfl) ?_
 refine Gs ?_
 refine Gc ?_
 refine aq (.inl rfl) (aI rfl (ak rfl)) (fun w1 hw=> ?_)
 exact⟨by rw[fL];congr 2;omega,ah.mem hw⟩
instance ahp{w0:World}{L:List ai}{xb:Nat}{xc:Cp}{xa:Sl Int}{xg:UInt64}{xl:Int}{xy:Bool}{b:Int}[dL:lz w0 L xb (aL (⟨⟨xc,xa,xg,xl⟩,xy⟩:aP)) 141][dU:aU w0 L xc]:cB Tryz.prog 122 w0 L [.pointer (some ⟨xb,0,none⟩), .int .i64 b] (.int .u64 ((fL (cv xc) b):Nat)) (aT (cv xc)=true∧2≤(cv xc).blocks.length∧(b=0∨b=1)):=⟨fun hp w hw=>Wf w xb xc xa xg xl xy b (dL.h w hw) (dU.h w hw) hp⟩
theorem Wg(w:World)(xb:Nat)(xc:Cp)(xa:Sl Int)(xg:UInt64)(xl:Int)(xy:Bool)(dL:w.heap[xb]? =Option.some (.cells (aL (⟨⟨xc,xa,xg,xl⟩,xy⟩:aP)) 141 (0,0)))(dU:Deep.aY (hp w) xc)(bb:aT (cv xc)=true∧2≤(cv xc).blocks.length∧(xl=0∨xl=1)):Calls Tryz.prog 151 #[.pointer (some ⟨xb,0,none⟩)] w fun e w'=>e= .returned (.int .i64 (rj (cv xc) xl))∧Mem w [] w':=by
 have sB:pF w xb (aL (⟨⟨xc,xa,xg,xl⟩,xy⟩:aP)) 141:=⟨dL⟩
 have sC:cg w xc:=⟨dU⟩
 obtain⟨hk,ql,Mw⟩:=bb
 have kf:dQ xc:=ph hk
 have dt:(cv xc).blocks.length=xc.blocks.xs.length:=fu _
 obtain⟨Bo,fP⟩:=get_some (xs:=xc.blocks.xs) (i:=(1 -xl).toNat) (by omega)
 obtain⟨Bl,mB⟩:=get_some (xs:=xc.blocks.xs) (i:=xl.toNat) (by omega)
 have xr:=rh fP
 have Mx:=rh mB
 refine ba (args:=[_]) Tryz.func151 rfl Tryz.ntmps151 rfl ?_
 change Cw _ _ _ _ _ [(0, .pointer (some ⟨xb,0,none⟩))] []
 refine Gc ?_
 refine Gs ?_
 refine Gc ?_
 refine gO (by kernel_rfl) (by kernel_rfl) ?_
 iterate 4 refine Gq ?_
 refine bc (Ry.to (v':= .int .i64 xl) (mF rfl) rfl) ?_
 iterate 4 refine Gq ?_
 refine bc (Ry.to (v':= .int .i64 xl) (mF rfl) rfl) ?_
 iterate 3 refine Gq ?_
 refine Gc ?_
 iterate 5 refine Gs ?_
 refine ag (Ry.to (v':=xc.blocks.sv.val) (mF rfl) rfl) ?_
 refine Gs ?_
 refine ag (bg rfl rfl ((1 -xl).toNat) (by omega) (by omega)) ?_
 refine ag (aH rfl rfl) ?_
 refine ag (bL (j:=3) rfl ((1 -xl).toNat) fP rfl (by decide)) ?_
 refine Gs ?_
 refine Gc ?_
 refine au rfl (fun h0=> ?_) (fun h0=> ?_)
 ·
  replace h0:=bz h0
  refine Gc ?_
  iterate 2 refine Gs ?_
  refine fy (cC rfl ⟨hk,by omega,by omega⟩) ?_
  refine Gs ?_
  refine Gc ?_
  refine aq (.inl rfl) (aI rfl (ak rfl)) (fun w1 hw=> ?_)
  exact⟨congrArg (fun b=>Ending.returned (Value.int .i64 b)) ((by rw[rj,xr,if_pos (show(bv Bo).bad=true from h0)])),ah.mem hw⟩
 ·
  replace h0:=bz h0
  refine Gc ?_
  iterate 5 refine Gs ?_
  refine ag (Ry.to (v':=xc.blocks.sv.val) (mF rfl) rfl) ?_
  refine Gs ?_
  refine ag (bg rfl rfl xl.toNat (by omega) (by omega)) ?_
  refine ag (aH rfl rfl) ?_
  refine ag (bL (j:=3) rfl xl.toNat mB rfl (by decide)) ?_
  refine Gs ?_
  iterate 2 refine Gg ?_
  refine gN rfl rfl rfl (fun hg=>cC (dA (aG hg rfl) (dA (aG hg rfl) gE)) ⟨hk,by omega,by omega⟩) ?_
  refine Gg ?_
  iterate 2 refine Gs ?_
  refine Gc ?_
  refine au rfl (fun h1=> ?_) (fun h1=> ?_)
  ·
   replace h1:=bz h1
   refine Gc ?_
   iterate 2 refine Gs ?_
   refine fy (cC rfl ⟨hk,by omega,by omega⟩) ?_
   refine Gs ?_
   refine Gc ?_
   refine aq (.inl rfl) (aI rfl (ak rfl)) (fun w1 hw=> ?_)
   exact⟨congrArg (fun b=>Ending.returned (Value.int .i64 b)) ((by rw[rj,xr,Mx,if_neg (show ¬(bv Bo).bad=true by rw[show(bv Bo).bad=Bo.bad from rfl,h0];simp),if_pos ⟨h1.1,h1.2⟩])),ah.mem hw⟩
  ·
   replace h1:=bz h1
   refine Gc ?_
   iterate 5 refine Gs ?_
   refine ag (Ry.to (v':= .int .i64 xc.pages) (mF rfl) rfl) ?_
   refine Gs ?_
   refine Gc ?_
   refine aq (.inl rfl) (aI rfl (ak rfl)) (fun w1 hw=> ?_)
   exact⟨congrArg (fun b=>Ending.returned (Value.int .i64 b)) ((by
    rw[rj,xr,Mx,if_neg (show ¬(bv Bo).bad=true by rw[show(bv Bo).bad=Bo.bad from rfl,h0];simp),if_neg]
    ·
     rfl
    ·
     rintro⟨g1,g2⟩
     rcases h1 with h|h
     ·
      exact absurd (h.symm.trans g1) (by simp)
     ·
      omega)),ah.mem hw⟩
instance ahq{w0:World}{L:List ai}{xb:Nat}{xc:Cp}{xa:Sl Int}{xg:UInt64}{xl:Int}{xy:Bool}[dL:lz w0 L xb (aL (⟨⟨xc,xa,xg,xl⟩,xy⟩:aP)) 141][dU:aU w0 L xc]:cB Tryz.prog 151 w0 L [.pointer (some ⟨xb,0,none⟩)] (.int .i64 (rj (cv xc) xl)) (aT (cv xc)=true∧2≤(cv xc).blocks.length∧(xl=0∨xl=1)):=⟨fun hp w hw=>Wg w xb xc xa xg xl xy (dL.h w hw) (dU.h w hw) hp⟩
open Go.aC Go.Kb
open Go.RowKit
theorem Wh(w:World)(c:Cp)(b:Int)(g:Int)(x:Sv)(xs:List UInt8)(hc:Deep.aY (hp w) c)(hx:bQ aM 1 (hp w) x xs)(bb:dQ c):Calls Tryz.prog 149 #[.agg (aB c), .int .i64 b, .int .i64 g,x.val] w fun e w'=> ∃zz:Cp,e= .returned (.tuple #[.agg (aB zz), .int .i64 (jq (cv c) b g xs)])∧(cv zz=fK (cv c) b g xs)∧Mem w [fz zz] w':=by
 have jR:cg w c:=⟨hc⟩
 have tK:Gv w x aM 1 xs:=⟨hx⟩
 have kf:dQ c:=bb
 obtain⟨kG,iK,nQ⟩:=bb
 have oE:cI=1099511627776:=rfl
 refine ba (args:=[_,_,_,_]) Tryz.func149 rfl Tryz.ntmps149 rfl ?_
 change Cw _ _ _ _ _ [(0, .agg (aB c)),(1, .int .i64 b),(2, .int .i64 g),(3,x.val)] []
 refine Gc ?_
 refine bX rfl fun b4=> ?_
 refine bK fun b8=> ?_
 refine Gs ?_
 refine Gc ?_
 refine Gs ?_
 refine bq rfl (by assumption) fun ck sD=> ?_
 refine bK fun xt=> ?_
 refine Gs ?_
 refine Gc ?_
 iterate 5 refine Gs ?_
 iterate 2 refine Gg ?_
 iterate 2 refine Gs ?_
 iterate 4 refine Gg ?_
 iterate 2 refine Gs ?_
 iterate 5 refine Gg ?_
 iterate 2 refine Gs ?_
 iterate 3 refine Gg ?_
 refine Gs ?_
 refine Gc ?_
 refine au rfl (fun h0=> ?_) (fun h0=> ?_)
 ·
  replace h0:=bz h0
  have hz: ¬mq (cv c) b g xs=true:=fun hk=>by
   obtain⟨k1,k2,k3,k4,k5⟩:=iW.1 hk
   rw[k1]at h0
   simp only[cv]at k3 k4 k5
   simp only[Bool.true_eq_false,false_or]at h0
   omega
  refine Gc ?_
  iterate 3 refine Gs ?_
  refine Gc ?_
  refine aq (.inl rfl) (bm rfl (cc rfl) (ak rfl)) (fun w1 hw=> ?_)
  exact⟨ck,by rw[jq,if_neg hz],by rw[sD,fK,if_neg (fun h=>hz h.1)],m8 ck (ah.mem hw)⟩
 ·
  replace h0:=bz h0
  have hk:mq (cv c) b g xs=true:=by
   cases k1:fY (cv c) b with
   |false=>rw[k1]at h0;simp at h0
   |true=>
    rw[k1]at h0
    simp only[Bool.true_eq_false,false_or]at h0
    exact iW.2 ⟨k1,by omega,by simp only[cv];omega,by simp only[cv];omega,by simp only[cv];omega⟩
  have hh:=(iW.1 hk).1
  have Cv:=(gv.1 hh).2
  have dt:ck.blocks.xs.length=c.blocks.xs.length:=by have:=congrArg (fun v:CV=>v.blocks.length) sD;simpa only[cv,fu]using this
  have xe:ck.ops=c.ops:=congrArg CV.ops sD
  have oI:(cv c).blocks.length=c.blocks.xs.length:=fu _
  obtain⟨B,hB⟩:=get_some (xs:=ck.blocks.xs) (i:=b.toNat) (by omega)
  have mB:b.toNat<ck.blocks.xs.length:=(List.getElem?_eq_some_iff.1 hB).1
  have eH:bv B=aj (cv c) b:=by
   have h1:=BB hh
   have h2:=iV hB
   rw[show gu ck.blocks.xs=(cv c).blocks from congrArg CV.blocks sD,h1]at h2
   exact(Option.some.inj h2).symm
  have fP:mo c.pages c.size (bv B)=true:=by rw[eH];exact oB hh
  obtain⟨o1,o2,o3,o4,o5,o6⟩:=dX.1 fP
  have gX:=jI.1 (eU.1 (gv.1 hh).1).1
  have zq:=(eU.1 (gv.1 hh).1).2.1
  simp only[bv,cv]at o1 o2 o3 o4 o5 o6 gX zq
  have L9:=jo B.pages.xs
  obtain⟨_,k2,k3,k4,k5⟩:=iW.1 hk
  simp only[cv]at k3 k4 k5
  refine Gc ?_
  iterate 2 refine Gs ?_
  refine Gc ?_
  refine au rfl (fun h1=> ?_) (fun h1=> ?_)
  ·
   replace h1:=bz h1
   refine Gc ?_
   iterate 3 refine Gs ?_
   refine Gc ?_
   refine aq (.inl rfl) (bm rfl (cc rfl) (ak rfl)) (fun w1 hw=> ?_)
   exact⟨ck,by rw[jq,if_pos hk,if_pos (show(cv c).off=true from h1)],by rw[sD,fK,if_neg (fun h=>absurd (h1.symm.trans h.2.1) (by simp))],m8 ck (ah.mem hw)⟩
  ·
   replace h1:=bz h1
   have lA:(cv c).off=false:=h1
   refine Gc ?_
   iterate 3 refine Gs ?_
   refine ag (bg rfl rfl b.toNat (by omega) mB) ?_
   refine Gs ?_
   refine Gc ?_
   iterate 2 refine Gs ?_
   refine ag (aH rfl rfl) ?_
   refine ag (bL (j:=3) rfl b.toNat hB rfl (by decide)) ?_
   refine Gs ?_
   iterate 2 refine Gg ?_
   refine bZ rfl rfl rfl (fun hg=>(Ry.yl (jG (aG hg rfl)))) ?_
   refine bZ rfl rfl rfl (fun hg=>(Ry.yl (aH (aG hg rfl) rfl))) ?_
   refine bZ rfl rfl rfl (fun hg=>(Ry.yl (bL (j:=1) (aG hg rfl) b.toNat hB rfl (by decide)))) ?_
   refine Gg ?_
   refine Gs ?_
   refine Gc ?_
   refine au rfl (fun h2=> ?_) (fun h2=> ?_)
   ·
    replace h2:=bz h2
    have eL:(aj (cv c) b).bad=true∨g≠(aj (cv c) b).used:=by rw[←eH];exact h2
    refine Gc ?_
    iterate 3 refine Gs ?_
    refine Gc ?_
    refine aq (.inl rfl) (bm rfl (cc rfl) (ak rfl)) (fun w1 hw=> ?_)
    exact⟨ck,by rw[jq,if_pos hk,if_neg (by rw[lA];simp),if_pos eL],by rw[sD,fK,if_neg (fun h=>eL.elim (fun g1=>absurd (g1.symm.trans h.2.2.1) (by simp)) (fun g1=>g1 h.2.2.2))],m8 ck (ah.mem hw)⟩
   ·
    replace h2:=bz h2
    have eL: ¬((aj (cv c) b).bad=true∨g≠(aj (cv c) b).used):=by
     rw[←eH]
     rintro(h|h)
     ·
      exact absurd (h2.1.symm.trans h) (by simp)
     ·
      exact h h2.2
    have hgu:g=B.used:=h2.2
    obtain⟨q,hq⟩:=get_some (xs:=(aJ B.pages.xs)) (i:=g.toNat) (by omega)
    have Az:=o6 q (List.mem_of_getElem? hq)
    have bW:B.pages.xs≠[]:=fun e=>by
     have h9:(aJ B.pages.xs).length=0:=by rw[e];rfl
     omega
    have rC:(ck.blocks.xs.set b.toNat ({B with used:=B.used+1}:Bk))[b.toNat]? =Option.some ({B with used:=B.used+1}:Bk):=List.getElem?_set_self mB
    have fw:fK (cv c) b g xs=gR (cv c) b g xs:=by
     rw[fK,if_pos ⟨hk,lA,by cases hb:(aj (cv c) b).bad with|false=>rfl|true=>exact absurd (.inl hb) eL,Decidable.not_not.1 fun h=>eL (.inr h)⟩]
    iterate 3 refine Gi ?_
    refine J5 (pr:=fun rm:Sv=>rm.nil=false∧rm.sp=none∧B.pages.xs=dm rm 0 (aJ B.pages.xs)) (fun rm:Sv=>[own (bY (τ:=UInt8)) 1 B.pages.sv B.pages.xs,own aM 1 rm (aJ B.pages.xs).flatten,own bI 4 ck.blocks.sv ck.blocks.xs,ai.all ((ck.blocks.xs.eraseIdx b.toNat).map fun b:Bk=>eS b.pages),own di 4 ck.aR.sv ck.aR.xs,ar xt (aB ck) 25,ar b8 (aB fX) 25,ar b4 (aB c) 25]) (fun w hw=>JQ hB bW (ah.mem hw)) fun rm zv=> ?_
    obtain⟨hn,hs,xu⟩:=zv
    have xv:B.pages.xs[g.toNat]? =Option.some ⟨(fE rm ((aJ B.pages.xs).take g.toNat).flatten.length (((aJ B.pages.xs).take g.toNat).flatten.length+q.length)),q⟩:=by rw[xu,tk,BF hq,Nat.zero_add]
    have My: ∀r:List UInt8,r.length=q.length→B.pages.xs.map (fun x=>x.sv)=(dm rm 0 ((aJ B.pages.xs).set g.toNat r)).map (fun x=>x.sv):=fun r hr=>(congrArg (List.map fun x:Sl UInt8=>x.sv) xu).trans (Sk hq hr)
    refine Gi ?_
    refine Gs ?_
    refine fy (cC rfl (by omega)) ?_
    refine Gs ?_
    refine ag (aV (v:= .agg (di ((bn (cv c)).1))) rfl rfl) ?_
    refine ag (aV (v:= .bool ((bn (cv c)).2)) rfl rfl) ?_
    refine bK fun tM=> ?_
    iterate 2 refine Gs ?_
    refine Gc ?_
    iterate 4 refine Gs ?_
    refine eN (cs':=aB (⟨ck.pages,ck.size,ck.blocks,(ck.ops+1),ck.off,ck.aR⟩:Cp)) rfl rfl (by show 3<6;decide) (by first|rfl|exact Sv.one _) rfl ?_
    refine Gc ?_
    iterate 2 refine Gs ?_
    refine ag (aH rfl rfl) ?_
    refine ag (bL (j:=1) rfl b.toNat hB rfl (by decide)) ?_
    iterate 2 refine Gs ?_
    refine ag (aH rfl rfl) ?_
    refine kO (s:=ck.blocks.sv) (n:=1) (k:=b.toNat) (j:=1) (a:=B) (a':=({B with used:=B.used+1}:Bk)) (xs:=ck.blocks.xs) (enc:=bI) (c:=4) (v:= .int .i64 (B.used+1)) (by kernel_rfl) rfl rfl rfl hB (by simp[Value.cells,Value.oneCell']) (by rfl) (by decide) (by rfl) ?_
    refine Gc ?_
    iterate 2 refine Gs ?_
    refine ag (aH rfl rfl) ?_
    refine ag (Ry.to (v':=B.pages.sv.val) (bL (j:=0) rfl b.toNat rC rfl (by decide)) rfl) ?_
    refine Gs ?_
    refine ag (bg rfl rfl g.toNat (by omega) (by omega)) ?_
    refine ag (Ry.to (v':=(fE rm ((aJ B.pages.xs).take g.toNat).flatten.length (((aJ B.pages.xs).take g.toNat).flatten.length+q.length)).val) (bL (j:=0) rfl g.toNat xv rfl (by decide)) rfl) ?_
    refine Gs ?_
    refine R5 (D:=(fE rm ((aJ B.pages.xs).take g.toNat).flatten.length (((aJ B.pages.xs).take g.toNat).flatten.length+q.length))) (S:=x) (rm:=rm) (k:=((aJ B.pages.xs).take g.toNat).flatten.length) (xs:=(aJ B.pages.xs).flatten) (ys:=xs) rfl hn hs rfl (by rw[wE (by omega)];omega) rfl (by decide) hn (by omega) (by simp only[fE];omega) (by have:=yW hq;have:=yX (aJ B.pages.xs) (g.toNat+1);omega) ?_
    refine Gc ?_
    iterate 2 refine Gs ?_
    refine Gc ?_
    refine au rfl (fun h3=> ?_) (fun h3=> ?_)
    ·
     replace h3:=bz h3
     have lr:mZ (cv c) xs=xs:=by rw[mZ,if_neg (by rw[h3];simp)]
     refine Gc ?_
     iterate 3 refine Gs ?_
     refine Gc ?_
     refine aq (.inl rfl) (bm rfl (cc rfl) (ak rfl)) (fun w1 hw=> ?_)
     exact⟨(⟨ck.pages,ck.size,⟨ck.blocks.sv,ck.blocks.xs.set b.toNat ⟨⟨B.pages.sv,dm rm 0 ((aJ B.pages.xs).set g.toNat xs)⟩,B.used+1,B.aS,B.bad⟩⟩,ck.ops+1,ck.off,ck.aR⟩:Cp),by rw[jq,if_pos hk,if_neg (by rw[lA];simp),if_neg eL,if_neg (by rw[h3];simp)];rfl,by rw[JV sD eH,fw,gR,lr,h3,Bool.false_and,show ck.off=(cv c).off from congrArg CV.off sD,lA],(by
      rw[←BE hq (by omega)]at hw
      exact m8 (⟨ck.pages,ck.size,⟨ck.blocks.sv,ck.blocks.xs.set b.toNat ⟨⟨B.pages.sv,dm rm 0 ((aJ B.pages.xs).set g.toNat xs)⟩,B.used+1,B.aS,B.bad⟩⟩,ck.ops+1,ck.off,ck.aR⟩:Cp) (BG (rm:=rm) (l:=(aJ B.pages.xs).set g.toNat xs) (B:=({B with used:=B.used+1}:Bk)) (B':=⟨⟨B.pages.sv,dm rm 0 ((aJ B.pages.xs).set g.toNat xs)⟩,B.used+1,B.aS,B.bad⟩) (sp:=B.pages.sv) (ps:=B.pages.xs) mB (My _ (by omega)) hn rfl rfl (ah.mem hw)))⟩
    ·
     replace h3:=bz h3
     have lr:mZ (cv c) xs=cQ (~~~(bn (cv c)).1.mask) xs:=by rw[mZ,if_pos h3]
     have mD:cQ (~~~(bn (cv c)).1.mask) (xs.take 0)++xs.drop 0=xs:=by simp[cQ]
     refine Gc ?_
     iterate 3 refine Gs ?_
     refine Gc ?_
     refine ca (X:=Nat) (fun zz=>[(96, .int .i64 (zz:Nat)),(2, .int .i64 g),(8, .pointer (some ⟨b8,0,none⟩)),(10, .pointer (some ⟨xt,0,none⟩)),(11, .pointer (some ⟨ck.blocks.sv.b,ck.blocks.sv.o+b.toNat*4,none⟩)),(12, .pointer (some ⟨tM,0,none⟩)),(95, .int .i64 c.size)]) (fun zz=>[ar tM (di (bn (cv c)).1) 94,own (bY (τ:=UInt8)) 1 B.pages.sv B.pages.xs,own aM 1 rm ((aJ B.pages.xs).set g.toNat (cQ (~~~(bn (cv c)).1.mask) (xs.take zz)++xs.drop zz)).flatten,own bI 4 ck.blocks.sv (ck.blocks.xs.set b.toNat ({B with used:=B.used+1}:Bk)),ai.all ((ck.blocks.xs.eraseIdx b.toNat).map fun b:Bk=>eS b.pages),own di 4 ck.aR.sv ck.aR.xs,ar xt (aB (⟨ck.pages,ck.size,ck.blocks,(ck.ops+1),ck.off,ck.aR⟩:Cp)) 25,ar b8 (aB fX) 25,ar b4 (aB c) 25]) (fun zz=>zz≤xs.length) (fun zz=>xs.length -zz) 0 (Nat.zero_le _) (Sub.cons rfl (Sub.cons rfl (Sub.cons rfl (Sub.cons rfl (Sub.cons rfl (Sub.cons rfl (Sub.cons rfl (Sub.nil _)))))))) (fun w hw=>by
      rw[mD,BE hq (by omega)];exact ah.mem hw) ?_
     rintro i bh
     refine Gc ?_
     refine Gs ?_
     refine Gc ?_
     refine au rfl (fun h4=> ?_) (fun h4=> ?_)
     ·
      replace h4:=bz h4
      have tH:(cQ (~~~(bn (cv c)).1.mask) (xs.take i)++xs.drop i).length=xs.length:=EN (by omega)
      obtain⟨z,hz⟩:=get_some (xs:=xs) (i:=i) (by omega)
      have su:((aJ B.pages.xs).set g.toNat (cQ (~~~(bn (cv c)).1.mask) (xs.take i)++xs.drop i)).flatten[((aJ B.pages.xs).take g.toNat).flatten.length+i]? =Option.some z:=by
       have h9:=wD (l:=(aJ B.pages.xs).set g.toNat (cQ (~~~(bn (cv c)).1.mask) (xs.take i)++xs.drop i)) (i:=g.toNat) (j:=i) (List.getElem?_set_self (by omega)) (by omega)
       rw[EM]at h9
       rw[h9,JW (by omega),hz]
      refine Gc ?_
      iterate 2 refine Gs ?_
      refine Gc ?_
      refine jn [15,1009] [[],[],[],[],[],[],[],[],[],[],[],[],[],[9],[9],[9]] [0,1,2,3,4,5,6,7,8,9,10,11,12,13,14,15] [own (bY (τ:=UInt8)) 1 B.pages.sv B.pages.xs,own bI 4 ck.blocks.sv (ck.blocks.xs.set b.toNat ({B with used:=B.used+1}:Bk)),ar tM (di (bn (cv c)).1) 94] (fun _ hw=>ah.mem hw) (by kernel_rfl) (by kernel_rfl) ?_
      refine al rfl (aD rfl) ?_
      refine al rfl (jG rfl) ?_
      refine al rfl (aH rfl rfl) ?_
      refine al rfl (Ry.to (v':=B.pages.sv.val) (bL (j:=0) rfl b.toNat rC rfl (by decide)) rfl) ?_
      refine al rfl (aD rfl) ?_
      refine al rfl (bg rfl rfl g.toNat (by omega) (by omega)) ?_
      refine al rfl (Ry.to (v':=(fE rm ((aJ B.pages.xs).take g.toNat).flatten.length (((aJ B.pages.xs).take g.toNat).flatten.length+q.length)).val) (bL (j:=0) rfl g.toNat xv rfl (by decide)) rfl) ?_
      refine al rfl (aD rfl) ?_
      obtain⟨Wi,Wj⟩:=get_some (xs:=q) (i:=i) (by omega)
      refine al rfl (lK (s:=(fE rm ((aJ B.pages.xs).take g.toNat).flatten.length (((aJ B.pages.xs).take g.toNat).flatten.length+q.length))) (i:=i) rfl rfl rfl (BH hn hs (by omega)) (by simp only[fE];omega)) ?_
      refine kr rfl (bL (s:=rm) (enc:=aM) (c:=1) (xs:=((aJ B.pages.xs).set g.toNat (cQ (~~~(bn (cv c)).1.mask) (xs.take i)++xs.drop i)).flatten) (a:=z) (j:=0) (v:= .int .u8 z.toNat) rfl (((aJ B.pages.xs).take g.toNat).flatten.length+i) su (by rw[wE (by omega)];omega) (by decide)) ?_
      refine al rfl (aH (o':=3) rfl rfl) ?_
      refine al rfl (bH rfl) ?_
      refine al rfl (Sb rfl) ?_
      refine al rfl (JR rfl rfl) ?_
      obtain⟨ahr,ahs⟩:=get_some (xs:=q) (i:=i) (by omega)
      refine al rfl (lK (s:=(fE rm ((aJ B.pages.xs).take g.toNat).flatten.length (((aJ B.pages.xs).take g.toNat).flatten.length+q.length))) (i:=i) rfl rfl rfl (BH hn hs (by omega)) (by simp only[fE];omega)) ?_
      refine dE rfl (uO (s:=rm) (n:=1) (k:=((aJ B.pages.xs).take g.toNat).flatten.length+i) (j:=0) (a:=z) (a':=z|||(~~~(bn (cv c)).1.mask)) (xs:=((aJ B.pages.xs).set g.toNat (cQ (~~~(bn (cv c)).1.mask) (xs.take i)++xs.drop i)).flatten) (enc:=aM) (c:=1) (v:= .int .u8 (z|||(~~~(bn (cv c)).1.mask)).toNat) (by kernel_rfl) rfl rfl (by rw[wE (by omega)];omega) su (by simp[Value.cells,Value.oneCell']) rfl (by omega) (by rfl) ⟨fun _ hw=>ah.mem hw,?_⟩)
      refine Gc ?_
      iterate 2 refine Gs ?_
      refine Gi ?_
      exact bx (x:=(i)) (i+1) (by first|omega|(simp only[];omega)) (by first|omega|(simp only[];omega)) (Sub.cons rfl (Sub.cons rfl (Sub.cons rfl (Sub.cons rfl (Sub.cons rfl (Sub.cons rfl (Sub.cons rfl (Sub.nil _)))))))) (fun w hw=>by
       rw[JX hq hz];exact ah.mem hw)
     ·
      replace h4:=bz h4
      obtain rfl:i=xs.length:=by omega
      have xw:cQ (~~~(bn (cv c)).1.mask) (xs.take xs.length)++xs.drop xs.length=cQ (~~~(bn (cv c)).1.mask) xs:=by rw[List.take_length,List.drop_length,List.append_nil]
      refine Gc ?_
      iterate 3 refine Gs ?_
      refine ag (aV (v:= .bool (((bn (cv c)).1).cut)) rfl rfl) ?_
      refine ag (aV (v:= .int .i64 (kt ((bn (cv c)).1))) rfl rfl) ?_
      iterate 2 refine Gs ?_
      refine Gc ?_
      iterate 2 refine Gs ?_
      refine eN (cs':=aB (⟨ck.pages,ck.size,ck.blocks,(ck.ops+1),((bn (cv c)).1).cut,ck.aR⟩:Cp)) rfl rfl (by show 4<6;decide) (by first|rfl|exact Sv.one _) rfl ?_
      refine Gc ?_
      iterate 4 refine Gs ?_
      refine Gc ?_
      refine aq (.inl rfl) (bm rfl (cc rfl) (ak rfl)) (fun w1 hw=> ?_)
      exact⟨(⟨ck.pages,ck.size,⟨ck.blocks.sv,ck.blocks.xs.set b.toNat ⟨⟨B.pages.sv,dm rm 0 ((aJ B.pages.xs).set g.toNat (cQ (~~~(bn (cv c)).1.mask) xs))⟩,B.used+1,B.aS,B.bad⟩⟩,ck.ops+1,(bn (cv c)).1.cut,ck.aR⟩:Cp),by rw[jq,if_pos hk,if_neg (by rw[lA];simp),if_neg eL,if_pos h3];rfl,by rw[JV sD eH,fw,gR,lr,h3,Bool.true_and],(by
       rw[xw]at hw
       have hhl:(cQ (~~~(bn (cv c)).1.mask) xs).length=xs.length:=by rw[cQ,List.length_map]
       exact m8 (⟨ck.pages,ck.size,⟨ck.blocks.sv,ck.blocks.xs.set b.toNat ⟨⟨B.pages.sv,dm rm 0 ((aJ B.pages.xs).set g.toNat (cQ (~~~(bn (cv c)).1.mask) xs))⟩,B.used+1,B.aS,B.bad⟩⟩,ck.ops+1,(bn (cv c)).1.cut,ck.aR⟩:Cp) (BG (rm:=rm) (l:=(aJ B.pages.xs).set g.toNat (cQ (~~~(bn (cv c)).1.mask) xs)) (B:=({B with used:=B.used+1}:Bk)) (B':=⟨⟨B.pages.sv,dm rm 0 ((aJ B.pages.xs).set g.toNat (cQ (~~~(bn (cv c)).1.mask) xs))⟩,B.used+1,B.aS,B.bad⟩) (sp:=B.pages.sv) (ps:=B.pages.xs) mB (My _ (by omega)) hn rfl rfl (ah.mem hw)))⟩
instance aht{w0:World}{L:List ai}{c:Cp}{b:Int}{g:Int}{x:Sv}{xs:List UInt8}[hc:aU w0 L c][hx:c0 w0 L aM 1 x xs]:cl Tryz.prog 149 w0 L [.agg (aB c), .int .i64 b, .int .i64 g,x.val] (Cp) (fun zz=> .tuple #[.agg (aB zz), .int .i64 (jq (cv c) b g xs)]) (fun zz=>fz zz::L) (fun zz=>cv zz=fK (cv c) b g xs) (dQ c):=⟨fun hp w hw=>(Wh w c b g x xs (hc.h w hw) (hx.h w hw) hp).mono fun e w' ⟨x,h1,h2,h3⟩=>⟨x,h1,h2,hw.call h3⟩⟩
open Go.aC Go.Kb
open Go.RowKit
theorem Wk(w:World)(c:Cp)(b:Int)(hc:Deep.aY (hp w) c)(bb:dQ c):Calls Tryz.prog 145 #[.agg (aB c), .int .i64 b] w fun e w'=> ∃zz:Cp,e= .returned (.tuple #[.agg (aB zz), .int .i64 (dF (cv c) b)])∧(cv zz=fA (cv c) b)∧Mem w [fz zz] w':=by
 have jR:cg w c:=⟨hc⟩
 have kf:dQ c:=bb
 obtain⟨kG,iK,nQ⟩:=bb
 have oE:cI=1099511627776:=rfl
 have nS:=uU (c:=c) (b:=b)
 have hwe:(c.blocks.xs.getD b.toNat oA).aS=(aj (cv c) b).aS:=congrArg BV.aS nS
 refine ba (args:=[_,_]) Tryz.func145 rfl Tryz.ntmps145 rfl ?_
 change Cw _ _ _ _ _ [(0, .agg (aB c)),(1, .int .i64 b)] []
 refine Gc ?_
 refine bX rfl fun b2=> ?_
 refine bK fun b4=> ?_
 refine Gs ?_
 refine Gc ?_
 refine Gs ?_
 refine bq rfl (by assumption) fun aA kg=> ?_
 refine bK fun b6=> ?_
 refine Gs ?_
 refine Gc ?_
 iterate 5 refine Gs ?_
 iterate 3 refine Gg ?_
 iterate 2 refine Gs ?_
 iterate 3 refine Gg ?_
 refine bZ rfl rfl rfl (fun hg=>(Ry.yl (bg (aG hg rfl) (aG hg rfl) b.toNat (by simp only[Z0,Z1,Z2,Z3,Z4,Z5,Z6,Z7,Z8,Z9]at hg;have:=(EP hg.1).1;omega) (by simp only[Z0,Z1,Z2,Z3,Z4,Z5,Z6,Z7,Z8,Z9]at hg;exact(EP hg.1).2)))) ?_
 refine bZ rfl rfl rfl (fun hg=>(Ry.yl (aH (aG hg rfl) rfl))) ?_
 refine bZ rfl rfl rfl (fun hg=>(Ry.yl (bL (j:=2) (aG hg rfl) b.toNat (oh (xs:=c.blocks.xs) (i:=b.toNat) (d:=oA) (by simp only[Z0,Z1,Z2,Z3,Z4,Z5,Z6,Z7,Z8,Z9]at hg;exact(EP hg.1).2)) rfl (by decide)))) ?_
 refine Gg ?_
 refine Gs ?_
 refine Gc ?_
 refine au rfl (fun h0=> ?_) (fun h0=> ?_)
 ·
  replace h0:=bz h0
  have hz: ¬m0 (cv c) b=true:=fun hk=>by
   obtain⟨k1,k2,k3⟩:=nJ.1 hk
   rw[k1]at h0
   simp only[cv]at k2
   simp only[Bool.true_eq_false,false_or]at h0
   omega
  refine Gc ?_
  iterate 3 refine Gs ?_
  refine Gc ?_
  refine aq (.inl rfl) (bm rfl (cc rfl) (ak rfl)) (fun w1 hw=> ?_)
  exact⟨aA,by rw[dF,if_neg hz],by rw[kg,fA,if_neg (fun h=>hz h.1)],m8 aA (ah.mem hw)⟩
 ·
  replace h0:=bz h0
  have hk:m0 (cv c) b=true:=by
   cases k1:fY (cv c) b with
   |false=>rw[k1]at h0;simp at h0
   |true=>
    rw[k1]at h0
    simp only[Bool.true_eq_false,false_or]at h0
    exact nJ.2 ⟨k1,by simp only[cv];omega,by omega⟩
  have hh:=(nJ.1 hk).1
  have Cv:=(gv.1 hh).2
  have dt:aA.blocks.xs.length=c.blocks.xs.length:=by have:=congrArg (fun v:CV=>v.blocks.length) kg;simpa only[cv,fu]using this
  have xe:aA.ops=c.ops:=congrArg CV.ops kg
  have oI:(cv c).blocks.length=c.blocks.xs.length:=fu _
  obtain⟨B,hB⟩:=get_some (xs:=aA.blocks.xs) (i:=b.toNat) (by omega)
  have mB:b.toNat<aA.blocks.xs.length:=(List.getElem?_eq_some_iff.1 hB).1
  have eH:bv B=aj (cv c) b:=by
   have h1:=BB hh
   have h2:=iV hB
   rw[show gu aA.blocks.xs=(cv c).blocks from congrArg CV.blocks kg,h1]at h2
   exact(Option.some.inj h2).symm
  have fP:mo c.pages c.size (bv B)=true:=by rw[eH];exact oB hh
  obtain⟨o1,o2,o3,o4,o5,o6⟩:=dX.1 fP
  have gX:=jI.1 (eU.1 (gv.1 hh).1).1
  have zq:=(eU.1 (gv.1 hh).1).2.1
  simp only[bv,cv]at o1 o2 o3 o4 o5 o6 gX zq
  have L9:=jo B.pages.xs
  obtain⟨_,k2,k3⟩:=nJ.1 hk
  rw[←eH]at k3
  simp only[cv,bv]at k2 k3
  refine Gc ?_
  iterate 2 refine Gs ?_
  refine Gc ?_
  refine au rfl (fun h1=> ?_) (fun h1=> ?_)
  ·
   replace h1:=bz h1
   refine Gc ?_
   iterate 3 refine Gs ?_
   refine Gc ?_
   refine aq (.inl rfl) (bm rfl (cc rfl) (ak rfl)) (fun w1 hw=> ?_)
   exact⟨aA,by rw[dF,if_pos hk,if_pos (show(cv c).off=true from h1)],by rw[kg,fA,if_neg (fun h=>absurd (h1.symm.trans h.2.1) (by simp))],m8 aA (ah.mem hw)⟩
  ·
   replace h1:=bz h1
   have lA:(cv c).off=false:=h1
   refine Gc ?_
   iterate 3 refine Gs ?_
   refine ag (bg rfl rfl b.toNat (by omega) mB) ?_
   refine Gs ?_
   refine Gc ?_
   iterate 2 refine Gs ?_
   refine ag (aH rfl rfl) ?_
   refine ag (bL (j:=3) rfl b.toNat hB rfl (by decide)) ?_
   refine Gc ?_
   refine au rfl (fun h2=> ?_) (fun h2=> ?_)
   ·
    replace h2:=bz h2
    have eL:(aj (cv c) b).bad=true:=by rw[←eH];exact h2
    refine Gc ?_
    iterate 3 refine Gs ?_
    refine Gc ?_
    refine aq (.inl rfl) (bm rfl (cc rfl) (ak rfl)) (fun w1 hw=> ?_)
    exact⟨aA,by rw[dF,if_pos hk,if_neg (by rw[lA];simp),if_pos eL],by rw[kg,fA,if_neg (fun h=>absurd (eL.symm.trans h.2.2) (by simp))],m8 aA (ah.mem hw)⟩
   ·
    replace h2:=bz h2
    have eL:(aj (cv c) b).bad=false:=by rw[←eH];exact h2
    have bW:B.pages.xs≠[]:=fun e=>by
     have h9:(aJ B.pages.xs).length=0:=by rw[e];rfl
     omega
    have rC:(aA.blocks.xs.set b.toNat ({B with aS:=B.aS+1}:Bk))[b.toNat]? =Option.some ({B with aS:=B.aS+1}:Bk):=List.getElem?_set_self mB
    have fw:fA (cv c) b=jZ (cv c) b:=by
     rw[fA,if_pos ⟨hk,lA,eL⟩]
    have yL: ∀x∈(aJ B.pages.xs),((fun _:List UInt8=>gw c.size) x).length=x.length:=fun x hx=>by have:=o6 x hx;simp only[gw,List.length_replicate];omega
    have Gt: ∀x∈(aJ B.pages.xs),((cQ (bn (cv c)).1.mask) x).length=x.length:=fun x _=>by rw[cQ,List.length_map]
    iterate 3 refine Gi ?_
    refine J5 (pr:=fun rm:Sv=>rm.nil=false∧rm.sp=none∧B.pages.xs=dm rm 0 (aJ B.pages.xs)) (fun rm:Sv=>[own (bY (τ:=UInt8)) 1 B.pages.sv B.pages.xs,own aM 1 rm (aJ B.pages.xs).flatten,own bI 4 aA.blocks.sv aA.blocks.xs,ai.all ((aA.blocks.xs.eraseIdx b.toNat).map fun b:Bk=>eS b.pages),own di 4 aA.aR.sv aA.aR.xs,ar b6 (aB aA) 25,ar b4 (aB fX) 25,ar b2 (aB c) 25]) (fun w hw=>JQ hB bW (ah.mem hw)) fun rm zv=> ?_
    obtain⟨hn,hs,xu⟩:=zv
    have Mz: ∀f:List UInt8→List UInt8,(∀x∈(aJ B.pages.xs),(f x).length=x.length)→B.pages.xs.map (fun x=>x.sv)=(dm rm 0 ((aJ B.pages.xs).map f)).map (fun x=>x.sv):=fun f hf=>(congrArg (List.map fun x:Sl UInt8=>x.sv) xu).trans (So hf)
    refine Gi ?_
    refine Gs ?_
    refine fy (cC rfl (by omega)) ?_
    refine Gs ?_
    refine ag (aV (v:= .agg (di ((bn (cv c)).1))) rfl rfl) ?_
    refine ag (aV (v:= .bool ((bn (cv c)).2)) rfl rfl) ?_
    refine bK fun b8=> ?_
    iterate 2 refine Gs ?_
    refine Gc ?_
    iterate 4 refine Gs ?_
    refine eN (cs':=aB (⟨aA.pages,aA.size,aA.blocks,(aA.ops+1),aA.off,aA.aR⟩:Cp)) rfl rfl (by show 3<6;decide) (by first|rfl|exact Sv.one _) rfl ?_
    refine Gc ?_
    iterate 2 refine Gs ?_
    refine ag (aH rfl rfl) ?_
    refine ag (bL (j:=2) rfl b.toNat hB rfl (by decide)) ?_
    iterate 2 refine Gs ?_
    refine ag (aH rfl rfl) ?_
    refine kO (s:=aA.blocks.sv) (n:=1) (k:=b.toNat) (j:=2) (a:=B) (a':=({B with aS:=B.aS+1}:Bk)) (xs:=aA.blocks.xs) (enc:=bI) (c:=4) (v:= .int .i64 (B.aS+1)) (by kernel_rfl) rfl rfl rfl hB (by simp[Value.cells,Value.oneCell']) (by rfl) (by decide) (by rfl) ?_
    try simp only[List.set_set]
    refine Gc ?_
    iterate 2 refine Gs ?_
    refine Gc ?_
    refine au rfl (fun h3=> ?_) (fun h3=> ?_)
    ·
     replace h3:=bz h3
     have lr:qc (cv c) (aJ B.pages.xs)=(aJ B.pages.xs).map (fun _:List UInt8=>gw c.size):=by rw[qc,if_neg (by rw[h3];simp)];rfl
     have Gu:(aA.blocks.xs.set b.toNat ({B with aS:=B.aS+1,used:=0}:Bk))[b.toNat]? =Option.some ({B with aS:=B.aS+1,used:=0}:Bk):=List.getElem?_set_self mB
     refine Gc ?_
     iterate 2 refine Gs ?_
     refine ag (aH rfl rfl) ?_
     refine kO (s:=aA.blocks.sv) (n:=1) (k:=b.toNat) (j:=1) (a:=({B with aS:=B.aS+1}:Bk)) (a':=({B with aS:=B.aS+1,used:=0}:Bk)) (xs:=(aA.blocks.xs.set b.toNat ({B with aS:=B.aS+1}:Bk))) (enc:=bI) (c:=4) (v:= .int .i64 0) (by kernel_rfl) rfl rfl rfl rC (by simp[Value.cells,Value.oneCell']) (by rfl) (by decide) (by rfl) ?_
     try simp only[List.set_set]
     refine Gc ?_
     iterate 3 refine Gs ?_
     refine Gc ?_
     refine ca (X:=Nat) (fun zz=>[(71, .int .i64 (zz:Nat)),(4, .pointer (some ⟨b4,0,none⟩)),(6, .pointer (some ⟨b6,0,none⟩)),(7, .pointer (some ⟨aA.blocks.sv.b,aA.blocks.sv.o+b.toNat*4,none⟩)),(70, .int .i64 c.pages)]) (fun zz=>[ar b8 (di (bn (cv c)).1) 94,own (bY (τ:=UInt8)) 1 B.pages.sv B.pages.xs,own aM 1 rm (mixed (fun _:List UInt8=>gw c.size) (aJ B.pages.xs) zz).flatten,own bI 4 aA.blocks.sv (aA.blocks.xs.set b.toNat ({B with aS:=B.aS+1,used:=0}:Bk)),ai.all ((aA.blocks.xs.eraseIdx b.toNat).map fun b:Bk=>eS b.pages),own di 4 aA.aR.sv aA.aR.xs,ar b6 (aB (⟨aA.pages,aA.size,aA.blocks,(aA.ops+1),aA.off,aA.aR⟩:Cp)) 25,ar b4 (aB fX) 25,ar b2 (aB c) 25]) (fun zz=>zz≤(aJ B.pages.xs).length) (fun zz=>(aJ B.pages.xs).length -zz) 0 (Nat.zero_le _) (Sub.cons rfl (Sub.cons rfl (Sub.cons rfl (Sub.cons rfl (Sub.cons rfl (Sub.nil _)))))) (fun w hw=>by
      rw[JY];exact ah.mem hw) ?_
     rintro k bh
     refine Gc ?_
     refine Gs ?_
     refine Gc ?_
     refine au rfl (fun h4=> ?_) (fun h4=> ?_)
     ·
      replace h4:=bz h4
      obtain⟨q,hq⟩:=get_some (xs:=(aJ B.pages.xs)) (i:=k) (by omega)
      have Az:=o6 q (List.mem_of_getElem? hq)
      have xv:B.pages.xs[k]? =Option.some ⟨(fE rm ((aJ B.pages.xs).take k).flatten.length (((aJ B.pages.xs).take k).flatten.length+q.length)),q⟩:=by rw[xu,tk,BF hq,Nat.zero_add]
      refine Gc ?_
      iterate 2 refine Gs ?_
      refine Gc ?_
      iterate 2 refine Gs ?_
      refine ag (aH rfl rfl) ?_
      refine ag (Ry.to (v':=B.pages.sv.val) (bL (j:=0) rfl b.toNat Gu rfl (by decide)) rfl) ?_
      refine Gs ?_
      refine ag (bg rfl rfl k rfl (by omega)) ?_
      refine ag (Ry.to (v':= .slice (some ⟨rm.b,rm.o+((aJ B.pages.xs).take k).flatten.length,none⟩) q.length q.length) (bL (j:=0) rfl k xv rfl (by decide)) (Sp hn hs (by omega))) ?_
      refine bq rfl ⟨by have h9:=congrArg List.length (EO (f:=(fun _:List UInt8=>gw c.size)) hq);have h8:=yX (mixed (fun _:List UInt8=>gw c.size) (aJ B.pages.xs) k) (k+1);have h7:=yW (yY (f:=(fun _:List UInt8=>gw c.size)) hq);rw[BI yL (by omega)]at h7;omega,by omega⟩ fun x81 ahu=> ?_
      refine Gc ?_
      iterate 2 refine Gs ?_
      refine Gi ?_
      exact bx (x:=(k)) (k+1) (by first|omega|(simp only[];omega)) (by first|omega|(simp only[];omega)) (Sub.cons rfl (Sub.cons rfl (Sub.cons rfl (Sub.cons rfl (Sub.cons rfl (Sub.nil _)))))) (fun w hw=>by
       rw[Sn hq yL (n:=q.length) (by simp only[gw];congr 1;omega) rfl];exact ah.mem hw)
     ·
      replace h4:=bz h4
      refine Gc ?_
      iterate 3 refine Gs ?_
      refine Gc ?_
      refine aq (.inl rfl) (bm rfl (cc rfl) (ak rfl)) (fun w1 hw=> ?_)
      exact⟨(⟨aA.pages,aA.size,⟨aA.blocks.sv,aA.blocks.xs.set b.toNat ⟨⟨B.pages.sv,dm rm 0 ((aJ B.pages.xs).map (fun _:List UInt8=>gw c.size))⟩,0,B.aS+1,B.bad⟩⟩,aA.ops+1,aA.off,aA.aR⟩:Cp),by rw[dF,if_pos hk,if_neg (by rw[lA];simp),if_neg (by rw[eL];simp),if_neg (by rw[h3];simp)];rfl,by rw[J0 kg eH,fw,jZ,←eH,show(bv B).pages=(aJ B.pages.xs)from rfl,lr,h3,Bool.false_and,if_neg (by simp),show aA.off=(cv c).off from congrArg CV.off kg,lA],(by
       rw[JZ (by omega)]at hw
       exact m8 (⟨aA.pages,aA.size,⟨aA.blocks.sv,aA.blocks.xs.set b.toNat ⟨⟨B.pages.sv,dm rm 0 ((aJ B.pages.xs).map (fun _:List UInt8=>gw c.size))⟩,0,B.aS+1,B.bad⟩⟩,aA.ops+1,aA.off,aA.aR⟩:Cp) (BG (rm:=rm) (l:=(aJ B.pages.xs).map (fun _:List UInt8=>gw c.size)) (B:=({B with aS:=B.aS+1,used:=0}:Bk)) (B':=⟨⟨B.pages.sv,dm rm 0 ((aJ B.pages.xs).map (fun _:List UInt8=>gw c.size))⟩,0,B.aS+1,B.bad⟩) (sp:=B.pages.sv) (ps:=B.pages.xs) mB (Mz _ yL) hn rfl rfl (ah.mem hw)))⟩
    ·
     replace h3:=bz h3
     have lr:qc (cv c) (aJ B.pages.xs)=(aJ B.pages.xs).map (cQ (bn (cv c)).1.mask):=by rw[qc,if_pos h3]
     have Gu:(aA.blocks.xs.set b.toNat ({B with aS:=B.aS+1,used:=c.pages}:Bk))[b.toNat]? =Option.some ({B with aS:=B.aS+1,used:=c.pages}:Bk):=List.getElem?_set_self mB
     refine Gc ?_
     iterate 4 refine Gs ?_
     refine ag (aH rfl rfl) ?_
     refine kO (s:=aA.blocks.sv) (n:=1) (k:=b.toNat) (j:=1) (a:=({B with aS:=B.aS+1}:Bk)) (a':=({B with aS:=B.aS+1,used:=c.pages}:Bk)) (xs:=(aA.blocks.xs.set b.toNat ({B with aS:=B.aS+1}:Bk))) (enc:=bI) (c:=4) (v:= .int .i64 c.pages) (by kernel_rfl) rfl rfl rfl rC (by simp[Value.cells,Value.oneCell']) (by rfl) (by decide) (by rfl) ?_
     try simp only[List.set_set]
     refine Gc ?_
     iterate 3 refine Gs ?_
     refine Gc ?_
     refine ca (X:=Nat) (fun zz=>[(91, .int .i64 (zz:Nat)),(2, .pointer (some ⟨b2,0,none⟩)),(4, .pointer (some ⟨b4,0,none⟩)),(6, .pointer (some ⟨b6,0,none⟩)),(7, .pointer (some ⟨aA.blocks.sv.b,aA.blocks.sv.o+b.toNat*4,none⟩)),(8, .pointer (some ⟨b8,0,none⟩)),(90, .int .i64 c.pages)]) (fun zz=>[ar b8 (di (bn (cv c)).1) 94,own (bY (τ:=UInt8)) 1 B.pages.sv B.pages.xs,own aM 1 rm (mixed (cQ (bn (cv c)).1.mask) (aJ B.pages.xs) zz).flatten,own bI 4 aA.blocks.sv (aA.blocks.xs.set b.toNat ({B with aS:=B.aS+1,used:=c.pages}:Bk)),ai.all ((aA.blocks.xs.eraseIdx b.toNat).map fun b:Bk=>eS b.pages),own di 4 aA.aR.sv aA.aR.xs,ar b6 (aB (⟨aA.pages,aA.size,aA.blocks,(aA.ops+1),aA.off,aA.aR⟩:Cp)) 25,ar b4 (aB fX) 25,ar b2 (aB c) 25]) (fun zz=>zz≤(aJ B.pages.xs).length) (fun zz=>(aJ B.pages.xs).length -zz) 0 (Nat.zero_le _) (Sub.cons rfl (Sub.cons rfl (Sub.cons rfl (Sub.cons rfl (Sub.cons rfl (Sub.cons rfl (Sub.cons rfl (Sub.nil _)))))))) (fun w hw=>by
      rw[JY];exact ah.mem hw) ?_
     rintro k F3
     refine Gc ?_
     refine Gs ?_
     refine Gc ?_
     refine au rfl (fun h5=> ?_) (fun h5=> ?_)
     ·
      replace h5:=bz h5
      obtain⟨q,hq⟩:=get_some (xs:=(aJ B.pages.xs)) (i:=k) (by omega)
      have Az:=o6 q (List.mem_of_getElem? hq)
      have xv:B.pages.xs[k]? =Option.some ⟨(fE rm ((aJ B.pages.xs).take k).flatten.length (((aJ B.pages.xs).take k).flatten.length+q.length)),q⟩:=by rw[xu,tk,BF hq,Nat.zero_add]
      refine Gc ?_
      iterate 2 refine Gs ?_
      refine Gc ?_
      iterate 3 refine Gs ?_
      refine Gc ?_
      refine ca (X:=Nat) (fun zz=>[(96, .int .i64 (zz:Nat)),(2, .pointer (some ⟨b2,0,none⟩)),(4, .pointer (some ⟨b4,0,none⟩)),(6, .pointer (some ⟨b6,0,none⟩)),(7, .pointer (some ⟨aA.blocks.sv.b,aA.blocks.sv.o+b.toNat*4,none⟩)),(8, .pointer (some ⟨b8,0,none⟩)),(11, .int .i64 (k:Nat)),(90, .int .i64 c.pages),(91, .int .i64 (k:Nat)),(95, .int .i64 c.size)]) (fun zz=>[ar b8 (di (bn (cv c)).1) 94,own (bY (τ:=UInt8)) 1 B.pages.sv B.pages.xs,own aM 1 rm ((mixed (cQ (bn (cv c)).1.mask) (aJ B.pages.xs) k).set k (cQ (bn (cv c)).1.mask (q.take zz)++q.drop zz)).flatten,own bI 4 aA.blocks.sv (aA.blocks.xs.set b.toNat ({B with aS:=B.aS+1,used:=c.pages}:Bk)),ai.all ((aA.blocks.xs.eraseIdx b.toNat).map fun b:Bk=>eS b.pages),own di 4 aA.aR.sv aA.aR.xs,ar b6 (aB (⟨aA.pages,aA.size,aA.blocks,(aA.ops+1),aA.off,aA.aR⟩:Cp)) 25,ar b4 (aB fX) 25,ar b2 (aB c) 25]) (fun zz=>zz≤q.length) (fun zz=>q.length -zz) 0 (Nat.zero_le _) (Sub.cons rfl (Sub.cons rfl (Sub.cons rfl (Sub.cons rfl (Sub.cons rfl (Sub.cons rfl (Sub.cons rfl (Sub.cons rfl (Sub.cons rfl (Sub.cons rfl (Sub.nil _))))))))))) (fun w hw=>by
       rw[List.take_zero,List.drop_zero,cQ,List.map_nil,List.nil_append,tl (yY hq)];exact ah.mem hw) ?_
      rintro j ic
      refine Gc ?_
      refine Gs ?_
      refine Gc ?_
      refine au rfl (fun h6=> ?_) (fun h6=> ?_)
      ·
       replace h6:=bz h6
       have tH:(cQ (bn (cv c)).1.mask (q.take j)++q.drop j).length=q.length:=EN (by omega)
       obtain⟨z,hz⟩:=get_some (xs:=q) (i:=j) (by omega)
       have su:((mixed (cQ (bn (cv c)).1.mask) (aJ B.pages.xs) k).set k (cQ (bn (cv c)).1.mask (q.take j)++q.drop j)).flatten[((aJ B.pages.xs).take k).flatten.length+j]? =Option.some z:=by
        have h9:=wD (l:=(mixed (cQ (bn (cv c)).1.mask) (aJ B.pages.xs) k).set k (cQ (bn (cv c)).1.mask (q.take j)++q.drop j)) (i:=k) (j:=j) (List.getElem?_set_self (List.getElem?_eq_some_iff.1 (yY (f:=(cQ (bn (cv c)).1.mask)) hq)).1) (by omega)
        rw[EM,BI Gt (by omega)]at h9
        rw[h9,JW (by omega),hz]
       refine Gc ?_
       iterate 2 refine Gs ?_
       refine Gc ?_
       refine jn [14,1009] [[],[],[],[],[],[],[],[],[],[],[],[],[9],[9],[9]] [0,1,2,3,4,5,6,7,8,9,10,11,12,13,14] [own (bY (τ:=UInt8)) 1 B.pages.sv B.pages.xs,own bI 4 aA.blocks.sv (aA.blocks.xs.set b.toNat ({B with aS:=B.aS+1,used:=c.pages}:Bk)),ar b8 (di (bn (cv c)).1) 94] (fun _ hw=>ah.mem hw) (by kernel_rfl) (by kernel_rfl) ?_
       refine al rfl (aD rfl) ?_
       refine al rfl (jG rfl) ?_
       refine al rfl (aH rfl rfl) ?_
       refine al rfl (Ry.to (v':=B.pages.sv.val) (bL (j:=0) rfl b.toNat Gu rfl (by decide)) rfl) ?_
       refine al rfl (aD rfl) ?_
       refine al rfl (bg rfl rfl k rfl (by omega)) ?_
       refine al rfl (Ry.to (v':=(fE rm ((aJ B.pages.xs).take k).flatten.length (((aJ B.pages.xs).take k).flatten.length+q.length)).val) (bL (j:=0) rfl k xv rfl (by decide)) rfl) ?_
       refine al rfl (aD rfl) ?_
       obtain⟨Wi,Wj⟩:=get_some (xs:=q) (i:=j) (by omega)
       refine al rfl (lK (s:=(fE rm ((aJ B.pages.xs).take k).flatten.length (((aJ B.pages.xs).take k).flatten.length+q.length))) (i:=j) rfl rfl rfl (BH hn hs (by omega)) (by simp only[fE];omega)) ?_
       refine kr rfl (bL (s:=rm) (enc:=aM) (c:=1) (xs:=((mixed (cQ (bn (cv c)).1.mask) (aJ B.pages.xs) k).set k (cQ (bn (cv c)).1.mask (q.take j)++q.drop j)).flatten) (a:=z) (j:=0) (v:= .int .u8 z.toNat) rfl (((aJ B.pages.xs).take k).flatten.length+j) su (by rw[wE (by omega)];omega) (by decide)) ?_
       refine al rfl (aH (o':=3) rfl rfl) ?_
       refine al rfl (bH rfl) ?_
       refine al rfl (JR rfl rfl) ?_
       obtain⟨ahv,ahw⟩:=get_some (xs:=q) (i:=j) (by omega)
       refine al rfl (lK (s:=(fE rm ((aJ B.pages.xs).take k).flatten.length (((aJ B.pages.xs).take k).flatten.length+q.length))) (i:=j) rfl rfl rfl (BH hn hs (by omega)) (by simp only[fE];omega)) ?_
       refine dE rfl (uO (s:=rm) (n:=1) (k:=((aJ B.pages.xs).take k).flatten.length+j) (j:=0) (a:=z) (a':=z|||(bn (cv c)).1.mask) (xs:=((mixed (cQ (bn (cv c)).1.mask) (aJ B.pages.xs) k).set k (cQ (bn (cv c)).1.mask (q.take j)++q.drop j)).flatten) (enc:=aM) (c:=1) (v:= .int .u8 (z|||(bn (cv c)).1.mask).toNat) (by kernel_rfl) rfl rfl (by rw[wE (by omega)];omega) su (by simp[Value.cells,Value.oneCell']) rfl (by omega) (by rfl) ⟨fun _ hw=>ah.mem hw,?_⟩)
       refine Gc ?_
       iterate 2 refine Gs ?_
       refine Gi ?_
       exact bx (x:=(j)) (j+1) (by first|omega|(simp only[];omega)) (by first|omega|(simp only[];omega)) (Sub.cons rfl (Sub.cons rfl (Sub.cons rfl (Sub.cons rfl (Sub.cons rfl (Sub.cons rfl (Sub.cons rfl (Sub.cons rfl (Sub.cons rfl (Sub.cons rfl (Sub.nil _))))))))))) (fun w hw=>by
        rw[JX (yY hq) hz,BI Gt (by omega)];exact ah.mem hw)
      ·
       replace h6:=bz h6
       obtain rfl:j=q.length:=by omega
       refine Gc ?_
       iterate 2 refine Gs ?_
       refine Gi ?_
       exact bx (x:=(k)) (k+1) (by first|omega|(simp only[];omega)) (by first|omega|(simp only[];omega)) (Sub.cons rfl (Sub.cons rfl (Sub.cons rfl (Sub.cons rfl (Sub.cons rfl (Sub.cons rfl (Sub.cons rfl (Sub.nil _)))))))) (fun w hw=>by
        rw[←EO hq]
        rw[List.take_length,List.drop_length,List.append_nil]at hw
        exact ah.mem hw)
     ·
      replace h5:=bz h5
      refine Gc ?_
      iterate 3 refine Gs ?_
      refine ag (aV (v:= .bool (((bn (cv c)).1).cut)) rfl rfl) ?_
      refine ag (aV (v:= .int .i64 (kt ((bn (cv c)).1))) rfl rfl) ?_
      iterate 2 refine Gs ?_
      refine Gc ?_
      iterate 2 refine Gs ?_
      refine eN (cs':=aB (⟨aA.pages,aA.size,aA.blocks,(aA.ops+1),((bn (cv c)).1).cut,aA.aR⟩:Cp)) rfl rfl (by show 4<6;decide) (by first|rfl|exact Sv.one _) rfl ?_
      refine Gc ?_
      iterate 4 refine Gs ?_
      refine Gc ?_
      refine aq (.inl rfl) (bm rfl (cc rfl) (ak rfl)) (fun w1 hw=> ?_)
      exact⟨(⟨aA.pages,aA.size,⟨aA.blocks.sv,aA.blocks.xs.set b.toNat ⟨⟨B.pages.sv,dm rm 0 ((aJ B.pages.xs).map (cQ (bn (cv c)).1.mask))⟩,c.pages,B.aS+1,B.bad⟩⟩,aA.ops+1,(bn (cv c)).1.cut,aA.aR⟩:Cp),by rw[dF,if_pos hk,if_neg (by rw[lA];simp),if_neg (by rw[eL];simp),if_pos h3];rfl,by rw[J0 kg eH,fw,jZ,←eH,show(bv B).pages=(aJ B.pages.xs)from rfl,lr,h3,Bool.true_and,if_pos rfl];rfl,(by
       rw[JZ (by omega)]at hw
       exact m8 (⟨aA.pages,aA.size,⟨aA.blocks.sv,aA.blocks.xs.set b.toNat ⟨⟨B.pages.sv,dm rm 0 ((aJ B.pages.xs).map (cQ (bn (cv c)).1.mask))⟩,c.pages,B.aS+1,B.bad⟩⟩,aA.ops+1,(bn (cv c)).1.cut,aA.aR⟩:Cp) (BG (rm:=rm) (l:=(aJ B.pages.xs).map (cQ (bn (cv c)).1.mask)) (B:=({B with aS:=B.aS+1,used:=c.pages}:Bk)) (B':=⟨⟨B.pages.sv,dm rm 0 ((aJ B.pages.xs).map (cQ (bn (cv c)).1.mask))⟩,c.pages,B.aS+1,B.bad⟩) (sp:=B.pages.sv) (ps:=B.pages.xs) mB (Mz _ Gt) hn rfl rfl (ah.mem hw)))⟩
instance ahx{w0:World}{L:List ai}{c:Cp}{b:Int}[hc:aU w0 L c]:cl Tryz.prog 145 w0 L [.agg (aB c), .int .i64 b] (Cp) (fun zz=> .tuple #[.agg (aB zz), .int .i64 (dF (cv c) b)]) (fun zz=>fz zz::L) (fun zz=>cv zz=fA (cv c) b) (dQ c):=⟨fun hp w hw=>(Wk w c b (hc.h w hw) hp).mono fun e w' ⟨x,h1,h2,h3⟩=>⟨x,h1,h2,hw.call h3⟩⟩
open Go.aC Go.Kb
open Go.RowKit
theorem Wl(w:World):(Instr.build 110 #[(0, .int .i64 1)]).run Tryz.prog w= .ok (.agg (cG ⟨1,0,0,⟨Sv.none,[]⟩⟩)) w:=by kernel_rfl
theorem Wm(w0 w:World)(L:List ai)(k:Nat)(xc:Cp)(xa:Sl Int)(xg:UInt64)(xl:Int)(xy:Bool)(b:Int)(er:Int)(hw:Mem w0 (ar k (aL (⟨⟨xc,xa,xg,xl⟩,xy⟩:aP)) 141::fz xc::L) w)(bb:aT (cv xc)=true):Calls Tryz.prog 146 #[.pointer (some ⟨k,0,none⟩), .int .i64 b, .int .i64 er] w fun e w'=> ∃zz:Cp,e= .returned (.tuple #[])∧(cv zz=iE (cv xc) b er)∧Mem w0 (ar k (aL (⟨⟨zz,xa,xg,xl⟩,xy⟩:aP)) 141::fz zz::L) w':=by
 have kf:dQ xc:=ph bb
 refine kl (args:=[_,_,_]) Tryz.func146 rfl Tryz.ntmps146 rfl hw ?_
 change Cw _ _ _ _ _ [(0, .pointer (some ⟨k,0,none⟩)),(1, .int .i64 b),(2, .int .i64 er)] (ar k (aL (⟨⟨xc,xa,xg,xl⟩,xy⟩:aP)) 141::fz xc::L)
 refine Gc ?_
 iterate 2 refine Gs ?_
 refine Gc ?_
 refine au rfl (fun h0=> ?_) (fun h0=> ?_)
 ·
  replace h0:=bz h0
  have hE:iE (cv xc) b er=ku (cv xc) b:=by rw[iE,if_pos h0]
  refine Gi ?_
  iterate 5 refine Gs ?_
  refine ag (Ry.to (v':= .agg (aB xc)) (iA rfl) rfl) ?_
  refine Gs ?_
  refine bq rfl (by assumption) fun aA kg=> ?_
  refine Gs ?_
  refine ag (aV (v:= .agg (aB aA)) rfl rfl) ?_
  refine ag (aV (v:= .int .i64 (m7 (cv xc) b)) rfl rfl) ?_
  iterate 3 refine Gs ?_
  refine yp (cs':=aL (⟨⟨aA,xa,xg,xl⟩,xy⟩:aP)) rfl rfl (by show 0+6≤10;decide) rfl ?_
  refine Gi ?_
  refine aq (.inr rfl) (FW rfl) (fun w1 hw=> ?_)
  exact⟨aA,rfl,by rw[hE,kg],ah.mem hw⟩
 ·
  replace h0:=bz h0
  have hE:iE (cv xc) b er=(cv xc):=by rw[iE,if_neg h0]
  refine Gi ?_
  refine aq (.inr rfl) (FW rfl) (fun w1 hw=> ?_)
  exact⟨xc,rfl,by rw[hE],ah.mem hw⟩
instance ahy{w0:World}{L R1 L2:List ai}{i0 i1:Nat}{k:Nat}{xc:Cp}{xa:Sl Int}{xg:UInt64}{xl:Int}{xy:Bool}{b:Int}{er:Int}[q0:Has L k (aL (⟨⟨xc,xa,xg,xl⟩,xy⟩:aP)) 141 i0][d0:dq L i0 R1][q1:At R1 (fz xc) i1][d1:dq R1 i1 L2]:cl Tryz.prog 146 w0 L [.pointer (some ⟨k,0,none⟩), .int .i64 b, .int .i64 er] (Cp) (fun zz=> .tuple #[]) (fun zz=>ar k (aL (⟨⟨zz,xa,xg,xl⟩,xy⟩:aP)) 141::fz zz::L2) (fun zz=>cv zz=iE (cv xc) b er) (aT (cv xc)=true):=⟨fun hp w hw=>Wm w0 w L2 k xc xa xg xl xy b er (sr q0.h d0.h q1.h d1.h hw) hp⟩
theorem Wn(w0 w:World)(L:List ai)(k:Nat)(xc:Cp)(xa:Sl Int)(xg:UInt64)(xl:Int)(xy:Bool)(b:Int)(y:Sv)(ys:List UInt8)[hy:Hd w0 L y aM 1 ys](hw:Mem w0 (ar k (aL (⟨⟨xc,xa,xg,xl⟩,xy⟩:aP)) 141::fz xc::L) w)(bb:aT (cv xc)=true∧0≤b∧b<(cv xc).blocks.length):Calls Tryz.prog 125 #[.pointer (some ⟨k,0,none⟩), .int .i64 b,y.val] w fun e w'=> ∃zz:Cp,e= .returned (.int .i64 (bC (cv xc) b ys))∧(cv zz=bD (cv xc) b ys)∧Mem w0 (ar k (aL (⟨⟨zz,xa,xg,xl⟩,xy⟩:aP)) 141::fz zz::L) w':=by
 obtain⟨hk,oO,rE⟩:=bb
 have kf:dQ xc:=ph hk
 have dt:(cv xc).blocks.length=xc.blocks.xs.length:=fu _
 obtain⟨B,hB⟩:=get_some (xs:=xc.blocks.xs) (i:=b.toNat) (by omega)
 have qx:Mb B xc.blocks:=⟨List.mem_of_getElem? hB⟩
 have eH:=rh hB
 have fP:=dX.1 ((eU.1 hk).2.2.2.2 (bv B) (List.mem_of_getElem? (iV hB)))
 have gX:=jI.1 (eU.1 hk).1
 have oP:(aj (cv xc) b).used=B.used:=by rw[eH];rfl
 simp only[bv,cv]at fP gX
 refine kl (args:=[_,_,_]) Tryz.func125 rfl Tryz.ntmps125 rfl hw ?_
 change Cw _ _ _ _ _ [(0, .pointer (some ⟨k,0,none⟩)),(1, .int .i64 b),(2,y.val)] (ar k (aL (⟨⟨xc,xa,xg,xl⟩,xy⟩:aP)) 141::fz xc::L)
 refine Gc ?_
 refine Gs ?_
 refine Gc ?_
 refine qa [17,21,22,2021,4017] [[],[],[],[],[],[],[],[],[],[],[],[],[],[],[],[],[],[],[17],[17],[17],[],[17,21],[17,21,22]] [0,1,2,3,4,5,6,7,8,9,10,11,12,13,14,15,16,17,18,19,20,21,22,23] [ar k (aL (⟨⟨xc,xa,xg,xl⟩,xy⟩:aP)) 141,fz xc] [(21,kR Tryz.prog 25)] (by kernel_rfl) (fun _ hw=>ah.mem hw) (by kernel_rfl) (by kernel_rfl) ?_
 refine al rfl (aD rfl) ?_
 refine al rfl (jG rfl) ?_
 refine al rfl (aH (o':=0) rfl rfl) ?_
 refine al rfl (aH (o':=0) rfl rfl) ?_
 refine al rfl (Ry.to (v':= .agg (aB xc)) (iA rfl) rfl) ?_
 refine al rfl (aD rfl) ?_
 refine al rfl (aD rfl) ?_
 refine al rfl (jG rfl) ?_
 refine al rfl (aH (o':=0) rfl rfl) ?_
 refine al rfl (aH (o':=0) rfl rfl) ?_
 refine al rfl (aH (o':=2) rfl rfl) ?_
 refine al rfl (Ry.to (v':=xc.blocks.sv.val) (bH rfl) rfl) ?_
 refine al rfl (aD rfl) ?_
 refine al rfl (bg rfl rfl b.toNat (by omega) (by omega)) ?_
 refine al rfl (aH rfl rfl) ?_
 refine al rfl (bL (j:=1) rfl b.toNat hB rfl (by decide)) ?_
 refine al rfl (aD rfl) ?_
 refine sd rfl rfl (by assumption) (fun e x w hw=>ah.mem hw) (Cert.one (i:=21) rfl rfl rfl jX (Cert.none rfl)) fun pH rD=>⟨fun _ hw=>ah.mem hw,?_⟩
 refine al rfl (aD rfl) ?_
 refine al rfl (aV (v:= .agg (aB pH)) rfl rfl) ?_
 refine al rfl (aV (v:= .int .i64 (jq (cv xc) b B.used ys)) rfl rfl) ?_
 refine oy (m:=kR Tryz.prog 25) rfl rfl jX (Cert.none rfl) fun b7=> ?_
 change Ln _ _ _ _ _ _ _ _ (cw _ _ (.pointer (some ⟨b7,0,none⟩))) (ar b7 (aB fX) 25::_) _
 refine dE rfl (ox rfl rfl ⟨fun _ hw=>ah.mem hw,?_⟩)
 refine al rfl (bl rfl) ?_
 refine Gc ?_
 iterate 5 refine Gs ?_
 refine yp (cs':=aL (⟨⟨pH,xa,xg,xl⟩,xy⟩:aP)) rfl rfl (by show 0+6≤10;decide) rfl ?_
 refine Gc ?_
 iterate 3 refine Gs ?_
 refine bq rfl (by rw[rD];exact E9 hk _ _ _) fun lB tU=> ?_
 refine Gc ?_
 iterate 2 refine Gs ?_
 refine Gc ?_
 refine aq (.inl rfl) (aI rfl (ak rfl)) (fun w1 hw=> ?_)
 exact⟨lB,by rw[bC,oP],by rw[tU,rD,bD,bC,oP],ah.mem hw⟩
instance ahz{w0:World}{L R1 L2:List ai}{i0 i1:Nat}{k:Nat}{xc:Cp}{xa:Sl Int}{xg:UInt64}{xl:Int}{xy:Bool}{b:Int}{y:Sv}{ys:List UInt8}[q0:Has L k (aL (⟨⟨xc,xa,xg,xl⟩,xy⟩:aP)) 141 i0][d0:dq L i0 R1][q1:At R1 (fz xc) i1][d1:dq R1 i1 L2][hy:Hd w0 L2 y aM 1 ys]:cl Tryz.prog 125 w0 L [.pointer (some ⟨k,0,none⟩), .int .i64 b,y.val] (Cp) (fun zz=> .int .i64 (bC (cv xc) b ys)) (fun zz=>ar k (aL (⟨⟨zz,xa,xg,xl⟩,xy⟩:aP)) 141::fz zz::L2) (fun zz=>cv zz=bD (cv xc) b ys) (aT (cv xc)=true∧0≤b∧b<(cv xc).blocks.length):=⟨fun hp w hw=>Wn w0 w L2 k xc xa xg xl xy b y ys (sr q0.h d0.h q1.h d1.h hw) hp⟩
theorem Wo(w0 w:World)(L:List ai)(k:Nat)(xc:Cp)(xa:Sl Int)(xg:UInt64)(xl:Int)(xy:Bool)(b:Int)(hw:Mem w0 (ar k (aL (⟨⟨xc,xa,xg,xl⟩,xy⟩:aP)) 141::fz xc::L) w)(bb:aT (cv xc)=true∧0≤b∧b<(cv xc).blocks.length):Calls Tryz.prog 121 #[.pointer (some ⟨k,0,none⟩), .int .i64 b] w fun e w'=> ∃zz:Cp,e= .returned (.int .i64 (dF (cv xc) b))∧(cv zz=da (cv xc) b)∧Mem w0 (ar k (aL (⟨⟨zz,xa,xg,xl⟩,xy⟩:aP)) 141::fz zz::L) w':=by
 obtain⟨hk,oO,rE⟩:=bb
 have kf:dQ xc:=ph hk
 have dt:(cv xc).blocks.length=xc.blocks.xs.length:=fu _
 obtain⟨B,hB⟩:=get_some (xs:=xc.blocks.xs) (i:=b.toNat) (by omega)
 have qx:Mb B xc.blocks:=⟨List.mem_of_getElem? hB⟩
 have eH:=rh hB
 have fP:=dX.1 ((eU.1 hk).2.2.2.2 (bv B) (List.mem_of_getElem? (iV hB)))
 have gX:=jI.1 (eU.1 hk).1
 have oP:(aj (cv xc) b).used=B.used:=by rw[eH];rfl
 simp only[bv,cv]at fP gX
 refine kl (args:=[_,_]) Tryz.func121 rfl Tryz.ntmps121 rfl hw ?_
 change Cw _ _ _ _ _ [(0, .pointer (some ⟨k,0,none⟩)),(1, .int .i64 b)] (ar k (aL (⟨⟨xc,xa,xg,xl⟩,xy⟩:aP)) 141::fz xc::L)
 refine Gc ?_
 refine Gs ?_
 refine Gc ?_
 iterate 4 refine Gs ?_
 refine ag (Ry.to (v':= .agg (aB xc)) (iA rfl) rfl) ?_
 refine Gs ?_
 refine bq rfl (by assumption) fun lY xx=> ?_
 refine Gs ?_
 refine ag (aV (v:= .agg (aB lY)) rfl rfl) ?_
 refine ag (aV (v:= .int .i64 (dF (cv xc) b)) rfl rfl) ?_
 refine bK fun b5=> ?_
 iterate 2 refine Gs ?_
 refine Gc ?_
 iterate 5 refine Gs ?_
 refine yp (cs':=aL (⟨⟨lY,xa,xg,xl⟩,xy⟩:aP)) rfl rfl (by show 0+6≤10;decide) rfl ?_
 refine Gc ?_
 iterate 3 refine Gs ?_
 refine bq rfl (by rw[xx];exact Fa hk _) fun vn Gw=> ?_
 refine Gc ?_
 iterate 2 refine Gs ?_
 refine Gc ?_
 refine aq (.inl rfl) (aI rfl (ak rfl)) (fun w1 hw=> ?_)
 exact⟨vn,rfl,by rw[Gw,xx,da],ah.mem hw⟩
instance ahA{w0:World}{L R1 L2:List ai}{i0 i1:Nat}{k:Nat}{xc:Cp}{xa:Sl Int}{xg:UInt64}{xl:Int}{xy:Bool}{b:Int}[q0:Has L k (aL (⟨⟨xc,xa,xg,xl⟩,xy⟩:aP)) 141 i0][d0:dq L i0 R1][q1:At R1 (fz xc) i1][d1:dq R1 i1 L2]:cl Tryz.prog 121 w0 L [.pointer (some ⟨k,0,none⟩), .int .i64 b] (Cp) (fun zz=> .int .i64 (dF (cv xc) b)) (fun zz=>ar k (aL (⟨⟨zz,xa,xg,xl⟩,xy⟩:aP)) 141::fz zz::L2) (fun zz=>cv zz=da (cv xc) b) (aT (cv xc)=true∧0≤b∧b<(cv xc).blocks.length):=⟨fun hp w hw=>Wo w0 w L2 k xc xa xg xl xy b (sr q0.h d0.h q1.h d1.h hw) hp⟩
theorem Wp(w0 w:World)(L:List ai)(k:Nat)(xc:Cp)(xa:Sl Int)(xg:UInt64)(xl:Int)(xy:Bool)(b:Int)(hw:Mem w0 (ar k (aL (⟨⟨xc,xa,xg,xl⟩,xy⟩:aP)) 141::fz xc::L) w)(bb:aT (cv xc)=true∧0≤b∧b<(cv xc).blocks.length):Calls Tryz.prog 173 #[.pointer (some ⟨k,0,none⟩), .int .i64 b] w fun e w'=> ∃zz:Cp,e= .returned (.int .i64 ((cy (cv xc) b).2))∧(cv zz=(cy (cv xc) b).1)∧Mem w0 (ar k (aL (⟨⟨zz,xa,xg,xl⟩,xy⟩:aP)) 141::fz zz::L) w':=by
 obtain⟨hk,oO,rE⟩:=bb
 refine kl (args:=[_,_]) Tryz.func173 rfl Tryz.ntmps173 rfl hw ?_
 change Cw _ _ _ _ _ [(0, .pointer (some ⟨k,0,none⟩)),(1, .int .i64 b)] (ar k (aL (⟨⟨xc,xa,xg,xl⟩,xy⟩:aP)) 141::fz xc::L)
 refine Gc ?_
 refine Gs ?_
 refine Gc ?_
 refine ca (X:=Cp) (fun zz=>[(0, .pointer (some ⟨k,0,none⟩)),(1, .int .i64 b)]) (fun zz=>ar k (aL (⟨⟨zz,xa,xg,xl⟩,xy⟩:aP)) 141::fz zz::L) (fun zz=>cy (cv xc) b=cy (cv zz) b∧aT (cv zz)=true∧dw (cv xc) (cv zz)) (fun zz=>(dG (cv zz) b).toNat) xc ⟨rfl,hk, .cX _⟩ (Sub.cons rfl (Sub.cons rfl (Sub.nil _))) (fun w hw=>ah.mem hw) ?_
 rintro d ⟨bh,aF,bt⟩
 have MA:=bt.len
 refine Gc ?_
 iterate 2 refine Gs ?_
 refine fy (cC rfl ⟨aF,by omega,by omega⟩) ?_
 refine Gs ?_
 refine Gc ?_
 refine au rfl (fun h0=> ?_) (fun h0=> ?_)
 ·
  replace h0:=bz h0
  have bA:=SX (c:=cv d) (b:=b) h0
  refine Gc ?_
  refine ag (cR (v:= .agg (cG ⟨1,0,0,⟨Sv.none,[]⟩⟩)) rfl Wl) ?_
  iterate 5 refine Gs ?_
  refine ag (Ry.to (v':= .int .i64 d.size) (bH rfl) rfl) ?_
  refine bq rfl trivial fun gK vg=> ?_
  refine Gs ?_
  refine ag (aV (v:=gK.val) rfl rfl) ?_
  refine ag (aV (v:= .int .i64 ((c8 (cD (⟨1,0,0,⟨Sv.none,[]⟩⟩:eo)) d.size).2)) rfl rfl) ?_
  iterate 2 refine Gs ?_
  refine Gc ?_
  iterate 3 refine Gs ?_
  refine bq rfl ⟨aF,by omega,by omega⟩ fun kh qz=> ?_
  have Wq:cv kh=bD (cv d) b (gT (cv d)):=qz
  clear qz
  have qz:=Wq
  refine Gs ?_
  refine Gc ?_
  iterate 2 refine Gs ?_
  refine Gc ?_
  refine au rfl (fun h1=> ?_) (fun h1=> ?_)
  ·
   replace h1:=bz h1
   have ez:bC (cv d) b (gT (cv d))≠0:=h1
   refine Gc ?_
   iterate 2 refine Gs ?_
   refine Gc ?_
   refine aq (.inl rfl) (aI rfl (ak rfl)) (fun w1 hw=> ?_)
   exact⟨kh,by rw[bh,bA,if_pos ez];rfl,by rw[qz,bh,bA,if_pos ez],ah.mem hw⟩
  ·
   replace h1:=bz h1
   have ez:bC (cv d) b (gT (cv d))=0:=h1
   iterate 2 refine Gi ?_
   exact bx (x:=(d)) kh ⟨by rw[bh,qz,bA,if_neg (by first|omega|(simp only[];omega))],by rw[qz];exact kz aF _ _,by rw[qz];exact bt.trans (gU _ _ _)⟩ (by have h9:=KF (c:=cv d) (b:=b) (p:=gT (cv d)) (by first|omega|(simp only[];omega));rw[qz];omega) (Sub.cons rfl (Sub.cons rfl (Sub.nil _))) (fun w hw=>ah.mem hw)
 ·
  replace h0:=bz h0
  have CE:=SY (c:=cv d) (b:=b) (by omega)
  refine Gc ?_
  iterate 2 refine Gs ?_
  refine bq rfl ⟨aF,by omega,by omega⟩ fun az sE=> ?_
  refine Gs ?_
  refine Gc ?_
  refine aq (.inl rfl) (aI rfl (ak rfl)) (fun w1 hw=> ?_)
  exact⟨az,by rw[bh,CE],by rw[sE,bh,CE],ah.mem hw⟩
instance ahB{w0:World}{L R1 L2:List ai}{i0 i1:Nat}{k:Nat}{xc:Cp}{xa:Sl Int}{xg:UInt64}{xl:Int}{xy:Bool}{b:Int}[q0:Has L k (aL (⟨⟨xc,xa,xg,xl⟩,xy⟩:aP)) 141 i0][d0:dq L i0 R1][q1:At R1 (fz xc) i1][d1:dq R1 i1 L2]:cl Tryz.prog 173 w0 L [.pointer (some ⟨k,0,none⟩), .int .i64 b] (Cp) (fun zz=> .int .i64 ((cy (cv xc) b).2)) (fun zz=>ar k (aL (⟨⟨zz,xa,xg,xl⟩,xy⟩:aP)) 141::fz zz::L2) (fun zz=>cv zz=(cy (cv xc) b).1) (aT (cv xc)=true∧0≤b∧b<(cv xc).blocks.length):=⟨fun hp w hw=>Wp w0 w L2 k xc xa xg xl xy b (sr q0.h d0.h q1.h d1.h hw) hp⟩
end Go.Proofs.YtaipiecplldinaaGreat
