/- Laws and walks by which the law LabTells is proved, each with its own conditions. -/
import Derived.Test.YtkggjjnhnjjokaaGreatDoorH2
import Derived.Test.YtkggjjnhnjjokaaGreatDoorH4
import Derived.Test.YtkggjjnhnjjokaaGreatDoorH6
set_option maxRecDepth 20000
set_option linter.unusedSimpArgs false
set_option linter.unusedVariables false
namespace Go.Proofs.YtkggjjnhnjjokaaGreatDoor
open Go.ax Go.Kb Go.RowKit Go.Proofs.Tryz
variable {w0:World}{L:List ai}
instance atm{s:List UInt8}[tb:iH w0]:bV prog 147 w0 L [.string ⟨s.toArray⟩] (.tuple #[.int .i64 (((bF s 999).getD 0):Nat), .bool ((bF s 999).isSome)]) (s.length<=1000000000):=⟨fun aC w hw=>by
 have tb:=tb.at hw;refine cx func147 rfl ntmps147 rfl ?_;refine aP ?_;refine bb rfl oM fun x8 p6=>?_;obtain⟨Mz,ha2⟩:=p6;refine Gs ?_;refine ag (aB (v:= .int .i64 x8.1) rfl rfl) (ag (aB (v:=C0 x8.2) rfl rfl) (ar ?_));refine ag (aa7 (ms:=_) underlying303 rfl) (rZ ?_);refine bU rfl rfl rfl (fun hg=>bK (fG (aG hg rfl) jG) (by simp only[Z0,Z1,Z2,Z3,Z4,Z5,Z6,Z7,Z8,Z9]at hg;first|omega|exact avR (awG _) dDq|exact avR (awp _) dDq)) (Gg ?_);refine bU rfl rfl rfl (fun hg=>(Ry.yl (Fu (aG hg rfl) (aG hg rfl)))) (au ?_);refine Gb ?_ ?_<;>intro h0
 ·
  have hn:bF s 999=none:=by
   cases hq:bF s 999 with
   |none=>rfl
   |some n=>
    refine False.elim ?_;obtain⟨e1,e2,e3⟩:=aci hq
    cases ho:x8.2 with
    |none=>
     have e4:=(Mz ho).symm.trans e3;injection e4 with e4
     simp[ho,e4,e1]at h0;omega
    |some q=>exact ha2 (by rw[ho];simp) _ e3
  refine ar ?_;refine Gr fun w1 hw=>?_;exact⟨(by rw[hn];rfl),ah.mem hw⟩
 have ho:x8.2=none:=by simpa using h0.1.1.1
 have hy:=ach (Mz ho) oM oM h0.2;refine aP ?_;refine Gr fun w1 hw=>?_;exact⟨(by rw[hy,avM,auU oM];rfl),ah.mem hw⟩⟩
instance:sP prog 25 [] (.agg (bR 0#128)):=⟨fun w=>by rw[tH];kernel_rfl⟩
instance:sP prog 32 [] (.agg (cW ⟨0,0,0#128⟩)):=⟨fun w=>by unfold cW;rw[tH];kernel_rfl⟩
instance:sP prog 34 [] (.agg (ay bQ)):=⟨fun w=>by unfold ay cW bQ;rw[tH];kernel_rfl⟩
instance atn{s:List UInt8}[tb:uB w0]:bV prog 208 w0 L [.string ⟨s.toArray⟩] (.tuple #[.agg (bR ((lj s).getD 0#128)), .bool ((lj s).isSome)]) (s.length<=60):=⟨fun aC w hw=>by
 have tb:=tb.at hw;refine cx func208 rfl ntmps208 rfl ?_;refine Gc ?_;refine bn fun b2=>al ?_;refine bb rfl oM fun df sF=>aY ?_;refine Gb ?_ ?_<;>intro h0
 ·refine Gc ?_;refine ag (gf rfl) (al ?_);refine Gr fun w1 hw=>?_;exact⟨(by rw[abb oM];rfl),ah.mem hw⟩
 refine Gc ?_;refine bn fun b5=>aP ?_;refine cg (X:=Nat×Key) (fun U=>[(18, .int .i64 (U.1:Nat)),(5, .pointer (some ⟨b5,0,none⟩)),(2, .pointer (some ⟨b2,0,none⟩)),(16,(⟨false,df,0,(ba 46 s).length,(ba 46 s).length,none⟩:Sv).val),(17, .int .i64 ((ba 46 s).length:Nat))]) (fun U=>[aq b5 (bR U.2) 25,own mE 1 ⟨false,df,0,(ba 46 s).length,(ba 46 s).length,none⟩ (ba 46 s),aq b2 (bR 0#128) 25]) (fun U=>U.1<=4/\AJ (ba 46 s) U.1 U.2) (fun U=>4 -U.1) (0,0#128) ⟨Nat.zero_le _,aba _⟩ sb (fun w hw=>ah.mem hw) ?_;rintro⟨i,kk⟩ ⟨hi,hp⟩;dsimp only;simp only at hi hp;refine al ?_;refine Gb ?_ ?_<;>intro h1
 ·
  refine au ?_;obtain⟨x,hx⟩:=get_some (xs:=(ba 46 s)) (i:=i) oM;refine ag (bf rfl rfl i rfl oM) (ag (bW (j:=0) rfl i hx rfl dDq) (ar ?_));refine cO (bK (vs:=[_, .int .i64 ((255:Nat):Int)]) rfl ⟨dDq,by have:=FN s (atl hx);omega⟩) (Gs ?_);refine ag (aB (v:= .int .i64 (((bF x 255).getD 0):Nat)) rfl rfl) (ag (aB (v:= .bool ((bF x 255).isSome)) rfl rfl) (aY ?_));refine Gb ?_ ?_<;>intro h2
  ·refine Gc ?_;refine ag (gf rfl) (al ?_);refine Gr fun w1 hw=>?_;exact⟨(by rw[abc oM hx h2];rfl),ah.mem hw⟩
  refine al ?_;refine ag (Jn (n:=(((bF x 255).getD 0:Nat):Int)) rfl oM (by have:=Kx x;simp only[nb];omega)) (ag (ot rfl rfl oM oM) (dO (cs':=bR (vT kk i ((bF x 255).getD 0))) rfl rfl (by rw[eU];omega) rfl (QT kk i oM (Kx x)) (al ?_)));refine Gi ?_;exact bo (x:=(i,kk)) (i+1,vT kk i ((bF x 255).getD 0)) ⟨oF,hp.step hx h2 oF⟩ (by simp only;omega) sb (fun w hw=>ah.mem hw)
 refine aP ?_;refine Gr fun w1 hw=>?_;exact⟨(by rw[abd oM (by rw[show i=4 by omega]at hp;exact hp)];rfl),ah.mem hw⟩⟩
instance ato{s:List UInt8}:bV prog 209 w0 L [.string ⟨s.toArray⟩] (.tuple #[.agg (bR ((nS s).getD 0#128)), .bool ((nS s).isSome)]) (s.length<=60):=⟨fun aC w hw=>by
 refine cx func209 rfl ntmps209 rfl ?_;refine Gc ?_;refine bn fun b2=>au ?_;refine bn fun b4=>au ?_;refine ag (qZ (s:=s) underlying9 rfl) (au ?_);refine Gb ?_ ?_<;>intro h0
 ·refine Gc ?_;refine ag (gf rfl) (al ?_);refine Gr fun w1 hw=>?_;exact⟨(by rw[abi oM];rfl),ah.mem hw⟩
 refine au ?_;refine ag (qZ (s:=s) underlying9 rfl) (au ?_);refine cg (X:=Nat×Key) (fun U=>[(13, .int .i64 (U.1:Nat)),(4, .pointer (some ⟨b4,0,none⟩)),(0, .string ⟨s.toArray⟩),(2, .pointer (some ⟨b2,0,none⟩)),(12, .int .i64 (s.length:Nat))]) (fun U=>[aq b4 (bR U.2) 25,aq b2 (bR 0#128) 25]) (fun U=>U.1<=32/\xo s U.1 U.2) (fun U=>32 -U.1) (0,0#128) ⟨Nat.zero_le _,abh s⟩ sb (fun w hw=>ah.mem hw) ?_;rintro⟨i,kk⟩ ⟨hi,hp⟩;dsimp only;simp only at hi hp;refine al ?_;refine Gb ?_ ?_<;>intro h1
 ·
  refine aY ?_;refine ag (vM (s:=s) i underlying9 rfl rfl rfl oM) (Gs ?_);rw[abg];refine aP ?_;refine Gb ?_ ?_<;>intro h2
  ·refine Gc ?_;refine ag (gf rfl) (al ?_);refine Gr fun w1 hw=>?_;exact⟨(by rw[abf h2 oM];rfl),ah.mem hw⟩
  refine gF ?_;obtain⟨he,hx,ho⟩:=abe h2;have bq:=hp.lt (show i<32 by omega);have aK:(((i:Nat):Int)/2).toNat=i/2:=by omega
  refine Gi ?_;refine Gs ?_;refine ag (ou rfl rfl oM oM) (Gs ?_);refine ag (ou rfl rfl oM oM) (ag (ot rfl rfl oM oM) (ag (Ry.as (v':= .int .u8 ((bl kk (i/2):Nat):Int)) (Ac rfl (jr kk (((i:Nat):Int)/2).toNat oM)) (by rw[aK])) (ag (Zw (p:=bl kk (i/2)) rfl rfl rfl oM) (Gs ?_))));refine ag (Jn rfl oM (by simp only[nb];omega)) (ag (Cn (p:=bl kk (i/2)*16) (q:=lX s i) rfl rfl rfl he (by simp only[nb];omega) (by simp only[nb];omega)) (ag (ot rfl rfl oM oM) (dO (cs':=bR (vT kk (i/2) (bl kk (i/2)*16|||lX s i))) rfl rfl (by rw[eU];omega) rfl (by rw[aK];exact QT kk (i/2) oM (by rw[QW hx];omega)) (al ?_))));refine Gi ?_;exact bo (x:=(i,kk)) (i+1,vT kk (i/2) (bl kk (i/2)*16|||lX s i)) ⟨oF,hp.step oF ho⟩ (by simp only;omega) sb (fun w hw=>ah.mem hw)
 refine aP ?_;refine Gr fun w1 hw=>?_;exact⟨(by rw[abk oM (by rw[show i=32 by omega]at hp;exact hp)];rfl),ah.mem hw⟩⟩
instance atp{s:List UInt8}[tb:uB w0]:bV prog 149 w0 L [.string ⟨s.toArray⟩] (.tuple #[.agg (bR (iT s)), .int .i64 ((gh s):Nat), .int .i64 (ju s)]) (s.length<=1000000000):=⟨fun aC w hw=>by
 have tb:=tb.at hw;refine cx func149 rfl ntmps149 rfl ?_;refine Gc ?_;refine bn fun b2=>ar ?_;refine ag (qZ (s:=s) underlying9 rfl) (au ?_);refine Gb ?_ ?_<;>intro h0
 ·refine Gc ?_;refine ag (gf rfl) (ar ?_);refine Gr fun w1 hw=>?_;exact⟨(by obtain⟨e1,e2,e3⟩:=QX (s:=s) oM;rw[e1,e2,e3];rfl),ah.mem hw⟩
 refine au ?_;refine cO (bK rfl oM) (Gs ?_);refine ag (aB (v:= .agg (bR ((lj s).getD 0#128))) rfl rfl) (ag (aB (v:= .bool ((lj s).isSome)) rfl rfl) (bn fun b5=>aP ?_));refine Gb ?_ ?_<;>intro h1
 ·obtain⟨q,hq⟩:=auE.1 h1;refine aY ?_;refine Gr fun w1 hw=>?_;exact⟨(by obtain⟨e1,e2,e3⟩:=abl oM hq;rw[e1,e2,e3,hq];rfl),ah.mem hw⟩
 have hs:lj s=none:=by simpa using h1
 refine au ?_;refine cO (bK rfl oM) (Gs ?_);refine ag (aB (v:= .agg (bR ((nS s).getD 0#128))) rfl rfl) (ag (aB (v:= .bool ((nS s).isSome)) rfl rfl) (bn fun b7=>aP ?_));refine Gb ?_ ?_<;>intro h2
 ·obtain⟨q,hq⟩:=auE.1 h2;refine aY ?_;refine Gr fun w1 hw=>?_;exact⟨(by obtain⟨e1,e2,e3⟩:=abm oM hs hq;rw[e1,e2,e3,hq];rfl),ah.mem hw⟩
 have Nu:nS s=none:=by simpa using h2
 refine Gc ?_;refine ag (gf rfl) (ar ?_);refine Gr fun w1 hw=>?_;exact⟨(by obtain⟨e1,e2,e3⟩:=abn oM hs Nu;rw[e1,e2,e3];rfl),ah.mem hw⟩⟩
instance atq{s:List UInt8}[tb:uB w0]:bV prog 116 w0 L [.string ⟨s.toArray⟩] (.tuple #[.agg (cW (kK s)), .int .i64 (kL s)]) (s.length<=1000000000):=⟨fun aC w hw=>by
 have tb:=tb.at hw;obtain⟨hca,pX⟩:=Kz 47 s;refine cx func116 rfl ntmps116 rfl ?_;refine Gc ?_;refine bn fun b2=>al ?_;refine ag (qZ (s:=s) underlying9 rfl) (au ?_);refine Gb ?_ ?_<;>intro h0
 ·refine Gc ?_;refine ag (gf rfl) (al ?_);refine Gr fun w1 hw=>?_;exact⟨(by obtain⟨e1,e2⟩:=abu (s:=s) oM;rw[e1,e2]),ah.mem hw⟩
 refine au ?_;refine cO (bK rfl oM) (Gs ?_);refine ag (aB (v:= .string ⟨((aN 47 s).1).toArray⟩) rfl rfl) (ag (aB (v:= .string ⟨((aN 47 s).2.1).toArray⟩) rfl rfl) (ag (aB (v:= .bool ((aN 47 s).2.2)) rfl rfl) (cX ?_)));refine Gb ?_ ?_<;>intro h1
 ·refine Gc ?_;refine ag (gf rfl) (al ?_);refine Gr fun w1 hw=>?_;exact⟨(by obtain⟨e1,e2⟩:=Gl (s:=s) oM (abo h1);rw[e1,e2]),ah.mem hw⟩
 refine au ?_;refine cO (bK rfl oM) (Gs ?_);refine ag (aB (v:= .agg (bR (iT ((aN 47 s).1)))) rfl rfl) (ag (aB (v:= .int .i64 ((gh ((aN 47 s).1)):Nat)) rfl rfl) (ag (aB (v:= .int .i64 (ju ((aN 47 s).1))) rfl rfl) (bn fun b7=>cX ?_)));refine Gb ?_ ?_<;>intro h2
 ·refine Gc ?_;refine ag (gf rfl) (al ?_);refine Gr fun w1 hw=>?_;exact⟨(by obtain⟨e1,e2⟩:=Gl (s:=s) oM (by rw[Gd h1];exact abx oM oM);rw[e1,e2]),ah.mem hw⟩
 have hr:ju (aN 47 s).1=0:=by omega
 obtain⟨_,hm⟩:=Gj oM hr;refine al ?_;refine cO (bK rfl ⟨oM,oM⟩) (Gs ?_);refine ag (aB (v:= .int .i64 (((bF ((aN 47 s).2.1) (gh ((aN 47 s).1))).getD 0):Nat)) rfl rfl) (ag (aB (v:= .bool ((bF ((aN 47 s).2.1) (gh ((aN 47 s).1))).isSome)) rfl rfl) (aY ?_));refine Gb ?_ ?_<;>intro h3
 ·refine Gc ?_;refine ag (gf rfl) (al ?_);refine Gr fun w1 hw=>?_;exact⟨(by obtain⟨e1,e2⟩:=Gl (s:=s) oM (by rw[Gd h1];exact abz oM hr h3);rw[e1,e2]),ah.mem hw⟩
 refine ar ?_;refine ag (gf rfl) (bn fun qP=>aY ?_);refine Gb ?_ ?_<;>intro h4
 ·refine Gc ?_;refine ag (gf rfl) (al ?_);refine Gr fun w1 hw=>?_;exact⟨(by obtain⟨e1,e2⟩:=Gl (s:=s) oM (by rw[Gd h1,Q1 oM hr h3,h4];rfl);rw[e1,e2]),ah.mem hw⟩
 refine aP ?_;refine Gr fun w1 hw=>?_;exact⟨(by obtain⟨e1,e2⟩:=QZ (s:=s) (p:=(⟨((gh (aN 47 s).1:Nat):Int),(((bF (aN 47 s).2.1 (gh (aN 47 s).1)).getD 0:Nat):Int),iT (aN 47 s).1⟩:cK)) oM (by rw[Gd h1,Q1 oM hr h3,if_pos h4]);rw[e1,e2]),ah.mem hw⟩⟩
instance atr{s:List UInt8}[tb:uB w0]:bV prog 50 w0 L [.string ⟨s.toArray⟩] (.tuple #[.agg (ay (nV s)), .int .i64 (pC s)]) (s.length<=1000000000):=⟨fun aC w hw=>by
 have tb:=tb.at hw;obtain⟨hca,pX⟩:=Kz 32 s;refine cx func50 rfl ntmps50 rfl ?_;refine Gc ?_;refine bn fun b2=>al ?_;refine ag (qZ (s:=s) underlying9 rfl) (au ?_);refine Gb ?_ ?_<;>intro h0
 ·refine Gc ?_;refine ag (gf rfl) (al ?_);refine Gr fun w1 hw=>?_;exact⟨(by obtain⟨e1,e2⟩:=Q0 (s:=s) oM;rw[e1,e2]),ah.mem hw⟩
 refine au ?_;refine cO (bK rfl oM) (Gs ?_);refine ag (aB (v:= .string ⟨((aN 32 s).1).toArray⟩) rfl rfl) (ag (aB (v:= .string ⟨((aN 32 s).2.1).toArray⟩) rfl rfl) (ag (aB (v:= .bool ((aN 32 s).2.2)) rfl rfl) (cX ?_)));refine Gb ?_ ?_<;>intro h1
 ·refine Gc ?_;refine ag (gf rfl) (al ?_);refine Gr fun w1 hw=>?_;exact⟨(by obtain⟨e1,e2⟩:=Gm (s:=s) oM (abq h1);rw[e1,e2]),ah.mem hw⟩
 refine au ?_;refine cO (bK rfl oM) (Gs ?_);refine ag (aB (v:= .agg (cW (kK ((aN 32 s).1)))) rfl rfl) (ag (aB (v:= .int .i64 (kL ((aN 32 s).1))) rfl rfl) (bn fun b7=>aY ?_));refine Gb ?_ ?_<;>intro h2
 ·refine Gc ?_;refine ag (gf rfl) (al ?_);refine Gr fun w1 hw=>?_;exact⟨(by obtain⟨e1,e2⟩:=Gm (s:=s) oM (by rw[KA h1];exact abA oM oM);rw[e1,e2]),ah.mem hw⟩
 refine au ?_;refine cO (bK (vs:=[_, .int .i64 ((65535:Nat):Int)]) rfl ⟨oM,oM⟩) (Gs ?_);refine ag (aB (v:= .int .i64 (((bF ((aN 32 s).2.1) 65535).getD 0):Nat)) rfl rfl) (ag (aB (v:= .bool ((bF ((aN 32 s).2.1) 65535).isSome)) rfl rfl) (aY ?_));refine Gb ?_ ?_<;>intro h3
 ·refine Gc ?_;refine ag (gf rfl) (al ?_);refine Gr fun w1 hw=>?_;exact⟨(by obtain⟨e1,e2⟩:=Gm (s:=s) oM (by rw[KA h1];exact abB (by simpa using h3));rw[e1,e2]),ah.mem hw⟩
 obtain⟨m,hm⟩:=auE.1 h3;have Bz:=(jX.1 hm).2;refine al ?_;refine ag (Ry.as (v':= .int .u16 (((UInt16.ofNat ((bF (aN 32 s).2.1 65535).getD 0)).toNat:Nat):Int)) (mw rfl (by have:=KC (aN 32 s).2.1 65535;simp only[nb];omega)) (abD (KC (aN 32 s).2.1 65535))) (ag (gf rfl) (al ?_));refine Gr fun w1 hw=>?_;exact⟨(by obtain⟨e1,e2⟩:=KB (s:=s) oM ((KA h1).trans (abC oM oM hm));rw[e1,e2,hm];rfl),ah.mem hw⟩⟩
instance ats{s:List UInt8}[tb:iH w0]:bV prog 80 w0 L [.string ⟨s.toArray⟩] (.tuple #[.agg (bA (ky s)), .int .i64 (kz s)]) (s.length<=1000000000):=⟨fun aC w hw=>by
 have tb:=tb.at hw;have sS:=Kz 32 s;have KE:=(C2 (aN 32 s).1).1;refine cx func80 rfl ntmps80 rfl ?_;refine Gc ?_;refine bn fun b2=>al ?_;refine cO (bK rfl oM) (Gs ?_);refine ag (aB (v:= .string ⟨((aN 32 s).1).toArray⟩) rfl rfl) (ag (aB (v:= .string ⟨((aN 32 s).2.1).toArray⟩) rfl rfl) (ag (aB (v:= .bool ((aN 32 s).2.2)) rfl rfl) (aY ?_)));refine ag (gf rfl) (bn fun b7=>ar ?_);refine gF ?_;refine qY (X:=aO×Bool×Int) (fun U=>[(7, .pointer (some ⟨b7,0,none⟩)),(8, .bool U.2.1),(9, .int .i64 U.2.2),(0, .string ⟨s.toArray⟩),(2, .pointer (some ⟨b2,0,none⟩))]) (fun U=>[aq b7 (bA U.1) 73,aq b2 (bA uF) 73]) (fun U=>(U.2.2=0/\U.2.1=true->KF s U.1)/\(¬(U.2.2=0/\U.2.1=true)->ia s=none)/\br (aN 32 s).1≠0) ?_ ?_
 ·
  refine cX ?_;refine Gb ?_ ?_<;>intro h0
  ·
   have k0:br (aN 32 s).1=0:=by omega
   refine Gc ?_;refine ag (gf rfl) (al ?_);refine Gr fun w1 hw=>?_;exact⟨(by rw[(Rf k0).1,(Rf k0).2]),ah.mem hw⟩
  have k0:br (aN 32 s).1≠0:=by omega
  refine ar ?_;refine Gb ?_ ?_<;>intro h1
  ·
   have k1:br (aN 32 s).1=1:=by omega
   refine Gi ?_;refine Gs ?_;refine cO (bK rfl oM) (Gs ?_);refine ag (aB (v:= .agg (ay (nV ((aN 32 s).2.1)))) rfl rfl) (ag (aB (v:= .int .i64 (pC ((aN 32 s).2.1))) rfl rfl) (Gs ?_));refine qX (cs':=bA (⟨((br (aN 32 s).1:Nat):Int),nV (aN 32 s).2.1,0#128,0,0⟩:aO)) rfl rfl (by rw[nf];decide) (Uo (⟨((br (aN 32 s).1:Nat):Int),bQ,0#128,0,0⟩:aO) _) (Gs ?_);refine gF ?_;exact gD ((⟨((br (aN 32 s).1:Nat):Int),nV (aN 32 s).2.1,0#128,0,0⟩:aO),true,pC (aN 32 s).2.1) ⟨fun g=>C3 (by rw[Rb k1];exact if_pos g.1),fun g=>by rw[Rb k1];exact if_neg fun q=>g ⟨q,rfl⟩,k0⟩ sb (fun w hw=>ah.mem hw)
  refine ar ?_;refine Gb ?_ ?_<;>intro h2
  ·
   have k1:br (aN 32 s).1=2:=by omega
   refine Gi ?_;refine Gs ?_;refine cO (bK rfl oM) (Gs ?_);refine ag (aB (v:= .agg (cW (kK ((aN 32 s).2.1)))) rfl rfl) (ag (aB (v:= .int .i64 (kL ((aN 32 s).2.1))) rfl rfl) (au ?_));refine qX (cs':=bA (⟨((br (aN 32 s).1:Nat):Int),⟨kK (aN 32 s).2.1,0⟩,0#128,0,0⟩:aO)) rfl rfl (by rw[nf];decide) (Up (⟨((br (aN 32 s).1:Nat):Int),bQ,0#128,0,0⟩:aO) _) (Gs ?_);refine gF ?_;exact gD ((⟨((br (aN 32 s).1:Nat):Int),⟨kK (aN 32 s).2.1,0⟩,0#128,0,0⟩:aO),true,kL (aN 32 s).2.1) ⟨fun g=>C3 (by rw[Rc k1];exact if_pos g.1),fun g=>by rw[Rc k1];exact if_neg fun q=>g ⟨q,rfl⟩,k0⟩ sb (fun w hw=>ah.mem hw)
  refine ar ?_;refine Gb ?_ ?_<;>intro h3
  ·
   have k1:br (aN 32 s).1=4:=by omega
   refine Gi ?_;refine Gs ?_;refine cO (bK rfl oM) (Gs ?_);refine ag (aB (v:= .agg (bR (iT ((aN 32 s).2.1)))) rfl rfl) (ag (aB (v:= .int .i64 ((gh ((aN 32 s).2.1)):Nat)) rfl rfl) (ag (aB (v:= .int .i64 (ju ((aN 32 s).2.1))) rfl rfl) (Gs ?_)));refine qX (cs':=bA (⟨((br (aN 32 s).1:Nat):Int),bQ,iT (aN 32 s).2.1,0,0⟩:aO)) rfl rfl (by rw[nf];decide) (Uq (⟨((br (aN 32 s).1:Nat):Int),bQ,0#128,0,0⟩:aO) _) (Gs ?_);refine dO (cs':=bA (⟨((br (aN 32 s).1:Nat):Int),bQ,iT (aN 32 s).2.1,(gh (aN 32 s).2.1:Nat),0⟩:aO)) rfl rfl (by rw[nf];decide) rfl (Ur (⟨((br (aN 32 s).1:Nat):Int),bQ,iT (aN 32 s).2.1,0,0⟩:aO) _) (Gs ?_);refine gF ?_;exact gD ((⟨((br (aN 32 s).1:Nat):Int),bQ,iT (aN 32 s).2.1,(gh (aN 32 s).2.1:Nat),0⟩:aO),true,ju (aN 32 s).2.1) ⟨fun g=>C3 (by rw[Rd k1];exact if_pos g.1),fun g=>by rw[Rd k1];exact if_neg fun q=>g ⟨q,rfl⟩,k0⟩ sb (fun w hw=>ah.mem hw)
  refine qY (X:=Bool) (fun U=>[(53, .bool U),(0, .string ⟨s.toArray⟩),(2, .pointer (some ⟨b2,0,none⟩)),(5, .string ⟨((aN 32 s).2.1).toArray⟩),(7, .pointer (some ⟨b7,0,none⟩)),(8, .bool true),(9, .int .i64 0)]) (fun U=>[aq b7 (bA (⟨((br (aN 32 s).1:Nat):Int),bQ,0#128,0,0⟩:aO)) 73,aq b2 (bA uF) 73]) (fun U=>U=decide (((br (aN 32 s).1:Nat):Int)=5\/((br (aN 32 s).1:Nat):Int)=6)) ?_ ?_
  ·
   refine ar ?_;refine Gb ?_ ?_<;>intro h4
   ·refine Gi ?_;exact gD (decide (((br (aN 32 s).1:Nat):Int)=5)) (by simp[h4]) sb (fun w hw=>ah.mem hw)
   refine Gi ?_;refine au ?_;refine Gi ?_;exact gD (decide (((br (aN 32 s).1:Nat):Int)=6)) (by simp[h4]) sb (fun w hw=>ah.mem hw)
  rintro z hz;refine Gb ?_ ?_<;>intro h5
  ·
   have k5:((br (aN 32 s).1:Nat):Int)=5\/((br (aN 32 s).1:Nat):Int)=6:=of_decide_eq_true (hz.symm.trans h5);have k1:br (aN 32 s).1=5\/br (aN 32 s).1=6:=by omega
   have hn5:=afv (aN 32 s).2.1;refine Gi ?_;refine Gs ?_;refine cO (bK rfl oM) (Gs ?_);refine ag (aB (v:= .int .i64 (((bF ((aN 32 s).2.1) 999).getD 0):Nat)) rfl rfl) (ag (aB (v:= .bool ((bF ((aN 32 s).2.1) 999).isSome)) rfl rfl) (Gs ?_));refine dO (cs':=bA (⟨((br (aN 32 s).1:Nat):Int),bQ,0#128,0,Int64.ofInt ((((bF (aN 32 s).2.1 999).getD 0:Nat)):Int)⟩:aO)) rfl rfl (by rw[nf];decide) rfl (afw (⟨((br (aN 32 s).1:Nat):Int),bQ,0#128,0,0⟩:aO) hn5) (Gs ?_);refine gF ?_;exact gD ((⟨((br (aN 32 s).1:Nat):Int),bQ,0#128,0,Int64.ofInt ((((bF (aN 32 s).2.1 999).getD 0:Nat)):Int)⟩:aO),(bF (aN 32 s).2.1 999).isSome,0) ⟨fun g=>C3 (by rw[Re k1];obtain⟨n,hn⟩:=auE.1 g.2;rw[hn];rfl),fun g=>by rw[Re k1];cases hn:bF (aN 32 s).2.1 999 with|none=>rfl|some n=>exact absurd ⟨rfl,by simp only[hn];rfl⟩ g,k0⟩ sb (fun w hw=>ah.mem hw)
  have k5: ¬(((br (aN 32 s).1:Nat):Int)=5\/((br (aN 32 s).1:Nat):Int)=6):=of_decide_eq_false (hz.symm.trans h5);refine gF ?_;exact gD ((⟨((br (aN 32 s).1:Nat):Int),bQ,0#128,0,0⟩:aO),true,0) ⟨fun _=>abQ k0 oF oF oF oF,fun g=>absurd ⟨rfl,rfl⟩ g,k0⟩ sb (fun w hw=>ah.mem hw)
 rintro⟨y,ok,e⟩ ⟨fP,dB,k0⟩;dsimp only;simp only at fP dB;refine aP ?_;refine bU rfl rfl rfl (fun hg=>(Ry.yl (nJ (aG hg rfl)))) (au ?_);refine Gb ?_ ?_<;>intro h6
 ·have fj:=(KG k0).2 (dB fun g=>h6.elim (fun q=>q g.1) fun q=>by rw[g.2]at q;cases q);refine Gc ?_;refine ag (gf rfl) (al ?_);refine Gr fun w1 hw=>?_;exact⟨(by rw[fj.1,fj.2]),ah.mem hw⟩
 obtain⟨bJ,bD⟩:=fP ⟨h6.1,h6.2⟩;obtain⟨yR,hl2⟩:=AK bJ;refine ar ?_;refine ag (aB (v:= .string ⟨(qx y).toArray⟩) rfl rfl) (ag (aB (v:= .int .i64 (pD y)) rfl rfl) (fS ?_));refine bU rfl rfl rfl (fun hg=>(Ry.yl (Fu (aG hg rfl) (aG hg rfl)))) (au ?_);refine Gb ?_ ?_<;>intro h7
 ·
  have fj:ky s=uF/\kz s=2:=by
   rcases bD with⟨g1,g2⟩|⟨g1,g2⟩
   ·
    rcases h7 with q|q
    ·exact absurd hl2 q
    exact absurd (yR.trans g1) q
   exact(KG k0).2 g2
  refine Gc ?_;refine ag (gf rfl) (al ?_);refine Gr fun w1 hw=>?_;exact⟨(by rw[fj.1,fj.2]),ah.mem hw⟩
 have sD:ky s=y/\kz s=0:=by
  rcases bD with⟨g1,g2⟩|⟨g1,g2⟩
  ·exact(KG k0).1 y g2
  exact absurd (yR.symm.trans h7.2) g1
 refine aP ?_;refine Gr fun w1 hw=>?_;exact⟨(by rw[sD.1,sD.2]),ah.mem hw⟩⟩
structure fv where
 b:Int
 p:Int
 s:Int
 l:Sl aO
def fX(x:fv):Array Value:= #[.int .i64 x.b, .int .i64 x.p, .int .i64 x.s,x.l.sv.val]
instance:bp fX 4:=⟨fun _=>rfl,fun x=>by
 simp only[fX,avN,avW,av7,Sv.one,uH,uI,avE]⟩
instance (x:fv):gB (fX x) 4:=⟨rfl,bp.one x⟩
instance (x:fv):bO (fX x) 0 (.int .i64 x.b):=⟨rfl⟩
instance (x:fv):bO (fX x) 1 (.int .i64 x.p):=⟨rfl⟩
instance (x:fv):bO (fX x) 2 (.int .i64 x.s):=⟨rfl⟩
instance (x:fv):bO (fX x) 3 (x.l.sv.val):=⟨rfl⟩
instance:Deep fv where
 c:=4
 cells:=fX
 size:=bp.size
 one:=bp.one
 cP h x:=Deep.cP h x.l
 cE x:=Deep.cE x.l
 ku h x hs:=Deep.ku h x.l hs
 mono w w' x hg hb:=Deep.mono w w' x.l hg hb
instance{x:fv}[q:aX w0 L x]:aX w0 L x.l:=⟨fun w hw=>(q.h w hw)⟩
instance{b:Int}{p:Int}{s:Int}{l:Sl aO}[q0:aX w0 L l]:aX w0 L (fv.mk b p s l):=⟨fun w hw=>q0.h w hw⟩
def sJ:fv:=⟨0,0,0,⟨Sv.none,[]⟩⟩
def fF(x:fv):pE:=⟨x.b,x.p,x.s,x.l.xs⟩
instance:sP prog 76 [] (.agg (fX sJ)):=⟨fun w=>by kernel_rfl⟩
instance:eY prog 76 (.agg (fX sJ)):=⟨kRq⟩
instance:eY prog 242 (.agg (Bn [] 0)):=⟨kRq⟩
def zQ(s:aJ):fv:=match kM s with
 |some q=>⟨(q.1:Nat),(q.2.1:Nat),(q.2.2:Nat),⟨Sv.none,[]⟩⟩
 |none=>sJ
theorem ahB{α:Type}{l:List α}{i:Nat}{d:α}(h:i<l.length):l.getD i d∈l:=by simp[List.getD,h]
theorem V0{s:aJ}(h:kM s=none):zQ s=sJ:=by rw[zQ,h]
theorem V1{s:aJ}{a b c:Nat}(h:kM s=some (a,b,c)):zQ s=⟨(a:Nat),(b:Nat),(c:Nat),⟨Sv.none,[]⟩⟩:=by rw[zQ,h]
instance att{s:List UInt8}[tb:iH w0]:bV prog 79 w0 L [.string ⟨s.toArray⟩] (.tuple #[.agg (fX (zQ s)), .bool ((kM s).isSome)]) (s.length<=1000000000):=⟨fun aC w hw=>by
 have tb:=tb.at hw;refine cx func79 rfl ntmps79 rfl ?_;refine Gc ?_;refine bn fun b2=>al ?_;refine bb rfl oM fun df sF=>cX ?_;refine bU rfl rfl rfl (fun hg=>(Ry.yl (bf (aG hg rfl) rfl 0 rfl (by simp only[Z0,Z1,Z2,Z3,Z4,Z5,Z6,Z7,Z8,Z9]at hg;omega)))) (bU rfl rfl rfl (fun hg=>(Ry.yl (bW (j:=0) (aG hg rfl) 0 (pz (xs:=(ba 32 s)) (i:=0) (d:=([]:aJ)) (by simp only[Z0,Z1,Z2,Z3,Z4,Z5,Z6,Z7,Z8,Z9]at hg;omega)) rfl dDq))) (bU rfl rfl rfl (fun hg=>(Ry.yl (Fu (aG hg rfl) rfl))) (au ?_)));refine Gb ?_ ?_<;>intro h0
 ·
  have fj:kM s=none:=by
   by_cases q:(ba 32 s).length=4
   ·
    refine ab2 q fun g=>?_;rcases h0 with r|r
    ·omega
    exact r g
   exact ab1 q
  refine Gc ?_;refine ag (gf rfl) (al ?_);refine Gr fun w1 hw=>?_;exact⟨(by rw[V0 fj,fj];rfl),ah.mem hw⟩
 have h4:(ba 32 s).length=4:=by omega
 have pn:(ba 32 s).getD 0 []=tj:=h0.2;have U2:(((ba 32 s).drop 1).take ((ba 32 s).length -1)).length=3:=by rw[at3,auh];omega
 refine Gc ?_;refine bn fun b5=>au ?_;have Na:Rg 1 ((ba 32 s).length) (ba 32 s).length:=⟨oM⟩;refine ag (CD rfl rfl 1 rfl Na.h.1) (al ?_);refine cg (X:=Nat) (fun U=>[(25, .int .i64 (U:Nat)),(2, .pointer (some ⟨b2,0,none⟩)),(5, .pointer (some ⟨b5,0,none⟩)),(23,((⟨false,df,0,(ba 32 s).length,(ba 32 s).length,none⟩:Sv).sub 1 1 ((ba 32 s).length)).val),(24, .int .i64 ((((ba 32 s).drop 1).take ((ba 32 s).length -1)).length:Nat))]) (fun U=>[aq b5 (Bn (ba 32 s) U) 242,own mE 1 ⟨false,df,0,(ba 32 s).length,(ba 32 s).length,none⟩ (ba 32 s),aq b2 (fX sJ) 76]) (fun U=>U<=3/\ ∀j,j<U->(bF ((ba 32 s).getD (j+1) []) 999).isSome=true) (fun U=>3 -U) 0 ⟨Nat.zero_le _,fun j h=>by first|omega|(simp only[];omega)⟩ sb (fun w hw=>ah.mem (show Mem _ [aq b5 (Bn (ba 32 s) 0) 242,own mE 1 ⟨false,df,0,(ba 32 s).length,(ba 32 s).length,none⟩ (ba 32 s),aq b2 (fX sJ) 76] _ from hw)) ?_;rintro i ⟨hi,aK⟩;refine al ?_;refine Gb ?_ ?_<;>intro h1
 ·
  refine au ?_;obtain⟨x,hx⟩:=get_some (xs:=(((ba 32 s).drop 1).take ((ba 32 s).length -1))) (i:=i) oM;refine ag (bf rfl rfl i rfl oM) (ag (bW (j:=0) rfl i hx rfl dDq) (au ?_));refine j6 ?_;have yx:(ba 32 s).getD (i+1) []=x:=by
   rw[avJ,if_pos oM,avd,awH]at hx;simp[List.getD,hx]
  have AQ:x.length<=s.length:=FN s (by rw[←yx];exact ahB oM);have Ij:oL (ba 32 s) i=(bF x 999).getD 0:=by rw[oL,yx]
  refine Gi ?_;refine Gs ?_;refine cO (bK rfl oM) (Gs ?_);refine ag (aB (v:= .int .i64 (((bF x 999).getD 0):Nat)) rfl rfl) (ag (aB (v:= .bool ((bF x 999).isSome)) rfl rfl) (aY ?_));refine Gb ?_ ?_<;>intro h2
  ·
   have fj:kM s=none:=ab3 (i:=i) h4 oM (by rw[yx];cases hq:bF x 999 with|none=>rfl|some n=>rw[hq]at h2;cases h2)
   refine Gc ?_;refine ag (gf rfl) (al ?_);refine Gr fun w1 hw=>?_;exact⟨(by rw[V0 fj,fj];rfl),ah.mem hw⟩
  have h2s:(bF x 999).isSome=true:=h2;refine al ?_;refine ag (ot rfl rfl oM oM) (dO (cs':=Bn (ba 32 s) (i+1)) rfl rfl (by show(i:Int).toNat<3;omega) rfl (by rw[avb,←Ij];exact afx _ oM) (al ?_));refine Gi ?_;exact bo (x:=(i)) (i+1) ⟨oF,fun j hj=>if e:j=i then(by subst e;rw[yx];exact h2s)else aK j oF⟩ oF sb (fun w hw=>ah.mem hw)
 obtain rfl:i=3:=by omega
 have sD:=ab4 h4 pn fun j hj=>aK j hj;refine Gc ?_;refine ag (ot rfl rfl oM oM) (ag (Ac rfl (v:= .int .i64 (oL (ba 32 s) 0:Nat)) rfl) (ag (ot rfl rfl oM oM) (ag (Ac rfl (v:= .int .i64 (oL (ba 32 s) 1:Nat)) rfl) (ag (ot rfl rfl oM oM) (ag (Ac rfl (v:= .int .i64 (oL (ba 32 s) 2:Nat)) rfl) (ag (cR (v:= .agg (fX (⟨(oL (ba 32 s) 0:Nat),(oL (ba 32 s) 1:Nat),(oL (ba 32 s) 2:Nat),⟨Sv.none,[]⟩⟩:fv))) rfl (fun w=>kRq)) (al ?_)))))));refine Gr fun w1 hw=>?_;exact⟨(by rw[V1 sD,sD];rfl),ah.mem hw⟩⟩
theorem ahC(n s:Int)(b:Sv)(xs:List Bk)(w:World):(Instr.build 59 #[(0, .int .i64 n),(1, .int .i64 s),(2,b.val)]).run prog w= .ok (.agg (aV ⟨n,s,⟨b,xs⟩,0,false,⟨Sv.none,[]⟩⟩)) w:=by
 unfold aV;obtain⟨e,b,o,l,c,p⟩:=b
 cases e<;>kernel_rfl
instance atu{b:Int}{n:Int}{s:Int}:bY prog 37 w0 L [.int .i64 b, .int .i64 n, .int .i64 s] (Cp) (fun U=> .tuple #[.agg (aV U), .int .i64 ((eH b n s).2)]) (fun U=>fz U::L) (fun U=>cv U=(eH b n s).1) (True):=⟨fun aC w hw=>Gk (fun U=>[fz U]) hw (by
 refine th func37 rfl ntmps37 rfl ?_;refine Gc ?_;refine bn fun b6=>fS ?_;refine Gb ?_ ?_<;>intro h0
 ·
  have hN:eH b n s=(⟨0,0,[],0,false,[]⟩,1):=by rw[eH,if_neg (by rw[h0];simp)]
  refine Gc ?_;refine ag (cR (v:= .agg (aV ib)) rfl (fun w=>kRq)) (al ?_);refine Gr fun w1 hw=>?_;exact⟨ib,by rw[hN],by rw[hN];rfl,R0 (d:=ib) rfl (show Mem w [own cq 4 Sv.none [],ai.all []] _ from ah.mem (Mem.zg (Mem.dE cq 4 (ah.mem hw:Mem w [] _))))⟩
 have je:=mK.1 h0;have hN:eH b n s=(⟨n,s,List.replicate b.toNat (⟨List.replicate n.toNat (iA s),0,0,false⟩:BV),0,false,[]⟩,0):=by rw[eH,if_pos h0]
 refine ar ?_;refine vI (enc:=cq) (n:=b.toNat) (cap:=b.toNat) rk rfl rfl rfl oM oM oM oM oM fun jd=>ag (cR (v:= .agg (aV (⟨n,s,⟨⟨false,jd,0,b.toNat,b.toNat,none⟩,[]⟩,0,false,⟨Sv.none,[]⟩⟩:Cp))) rfl (ahC n s ⟨false,jd,0,b.toNat,b.toNat,none⟩ [])) (bn fun b8=>aP ?_);refine cg (X:=Nat×List Bk) (fun U=>[(23, .int .i64 (U.1:Nat)),(8, .pointer (some ⟨b8,0,none⟩)),(1, .int .i64 n),(2, .int .i64 s),(6, .pointer (some ⟨b6,0,none⟩)),(22, .int .i64 b)]) (fun U=>[own cq 4 ⟨false,jd,0,b.toNat,b.toNat,none⟩ U.2,ai.all ((U.2.take U.1).map fun b:Bk=>fz b.pages),aq b8 (aV (⟨n,s,⟨⟨false,jd,0,b.toNat,b.toNat,none⟩,[]⟩,0,false,⟨Sv.none,[]⟩⟩:Cp)) 59,aq b6 (aV ib) 59]) (fun U=>U.1<=b.toNat/\U.2.length=b.toNat/\(U.2.take U.1).map bv=List.replicate U.1 (⟨List.replicate n.toNat (iA s),0,0,false⟩:BV)/\ ∀j,U.1<=j->j<b.toNat->U.2[j]? =Option.some rk) (fun U=>b.toNat -U.1) (0,List.replicate b.toNat rk) ⟨Nat.zero_le _,by simp,by simp,fun j _ hj=>by simp[hj]⟩ sb (fun w hw=>by
  simp only[auw,au4];exact ah.mem (Mem.zg hw)) ?_
 rintro⟨i,zs⟩ ⟨bg,aK,bx,di⟩;dsimp only;simp only at bg aK bx di;refine al ?_;refine Gb ?_ ?_<;>intro h1
 ·
  obtain⟨z,hz⟩:=get_some (xs:=zs) (i:=i) oM;obtain rfl:z=rk:=at1 (hz.symm.trans (di i (at5 _) oM));have ahD:=GY (b:=jd) (n:=b.toNat) oM;refine ar ?_;refine jt [4,7] [[],[],[],[],[],[4],[4],[4]] [0,1,2,3,4,5,6,7] [aq b8 (aV (⟨n,s,⟨⟨false,jd,0,b.toNat,b.toNat,none⟩,[]⟩,0,false,⟨Sv.none,[]⟩⟩:Cp)) 59] (fun _ hw=>ah.mem hw) oK oK (an rfl (aM (o':=2) rfl rfl) (an rfl (bE rfl) (an rfl (bm rfl) (an rfl (bm rfl) (dr rfl (QA (enc:=cw (τ:=UInt8)) (n:=n.toNat) (cap:=n.toNat) (⟨Sv.none,[]⟩:Sl UInt8) rfl rfl rfl oM oM oM oM oM fun gA=>⟨fun _ hw=>ah.mem hw,?_⟩))))));obtain⟨e31,atv⟩:=get_some (xs:=zs) (i:=i) oM;refine an rfl (pq (s:=⟨false,jd,0,b.toNat,b.toNat,none⟩) (i:=i) rfl rfl rfl ahD (by simp only;omega)) (an rfl (aM rfl rfl) ?_);refine dr rfl (zd (s:=⟨false,jd,0,b.toNat,b.toNat,none⟩) (n:=1) (k:=i) (j:=0) (a:=rk) (a':=⟨⟨⟨false,gA,0,n.toNat,n.toNat,none⟩,[]⟩,0,0,false⟩) (xs:=zs) (enc:=cq) (c:=4) (v:=(⟨false,gA,0,n.toNat,n.toNat,none⟩:Sv).val) oK rfl rfl rfl hz (by rw[Sv.jW];simp[Sv.one]) (by rw[Sv.jW];rfl) dDq (by rw[Sv.jW];rfl) ⟨fun _ hw=>ah.mem hw,?_⟩);refine j6 ?_;have V2:(zs.set i ⟨⟨⟨false,gA,0,n.toNat,n.toNat,none⟩,[]⟩,0,0,false⟩)[i]? =Option.some (⟨⟨⟨false,gA,0,n.toNat,n.toNat,none⟩,[]⟩,0,0,false⟩:Bk):=auk oM;have rC:(zs.set i ⟨⟨⟨false,gA,0,n.toNat,n.toNat,none⟩,[]⟩,0,0,false⟩).length=b.toNat:=by rw[auA];exact aK
  refine Gi ?_;refine al ?_;refine cg (X:=Nat×List (Sl UInt8)) (fun U=>[(34, .int .i64 (U.1:Nat)),(8, .pointer (some ⟨b8,0,none⟩)),(1, .int .i64 n),(2, .int .i64 s),(6, .pointer (some ⟨b6,0,none⟩)),(9, .int .i64 (i:Nat)),(22, .int .i64 b),(23, .int .i64 (i:Nat)),(33, .int .i64 n)]) (fun U=>[own (cw (τ:=UInt8)) 1 ⟨false,gA,0,n.toNat,n.toNat,none⟩ U.2,ai.all ((U.2.take U.1).map fun b:Sl UInt8=>fz b),own cq 4 ⟨false,jd,0,b.toNat,b.toNat,none⟩ (zs.set i ⟨⟨⟨false,gA,0,n.toNat,n.toNat,none⟩,[]⟩,0,0,false⟩),ai.all ((zs.take i).map fun b:Bk=>fz b.pages),aq b8 (aV (⟨n,s,⟨⟨false,jd,0,b.toNat,b.toNat,none⟩,[]⟩,0,false,⟨Sv.none,[]⟩⟩:Cp)) 59,aq b6 (aV ib) 59]) (fun U=>U.1<=n.toNat/\U.2.length=n.toNat/\aR (U.2.take U.1)=List.replicate U.1 (iA s)) (fun U=>n.toNat -U.1) (0,List.replicate n.toNat ⟨Sv.none,[]⟩) ⟨Nat.zero_le _,by simp,by simp[aR]⟩ sb (fun w hw=>by
   simp only[auw,au4];exact ah.mem (Mem.zg hw)) ?_
  rintro⟨j,qs⟩ ⟨fP,dB,gJ⟩;dsimp only;simp only at fP dB gJ;refine al ?_;refine Gb ?_ ?_<;>intro h2
  ·
   obtain⟨y,hy⟩:=get_some (xs:=qs) (i:=j) oM;have ahE:=GY (b:=gA) (n:=n.toNat) oM;refine ar ?_;refine jt [8,10] [[],[],[],[],[],[],[],[],[],[8],[8]] [0,1,2,3,4,5,6,7,8,9,10] [aq b8 (aV (⟨n,s,⟨⟨false,jd,0,b.toNat,b.toNat,none⟩,[]⟩,0,false,⟨Sv.none,[]⟩⟩:Cp)) 59,own cq 4 ⟨false,jd,0,b.toNat,b.toNat,none⟩ (zs.set i ⟨⟨⟨false,gA,0,n.toNat,n.toNat,none⟩,[]⟩,0,0,false⟩)] (fun _ hw=>ah.mem hw) oK oK (an rfl (aM (o':=2) rfl rfl) (an rfl (bE rfl) (an rfl (bm rfl) ?_)));obtain⟨e40,agX⟩:=get_some (xs:=(zs.set i ⟨⟨⟨false,gA,0,n.toNat,n.toNat,none⟩,[]⟩,0,0,false⟩)) (i:=i) oM;refine an rfl (bf (s:=⟨false,jd,0,b.toNat,b.toNat,none⟩) (xs:=(zs.set i ⟨⟨⟨false,gA,0,n.toNat,n.toNat,none⟩,[]⟩,0,0,false⟩)) rfl rfl i rfl oM) (an rfl (aM rfl rfl) (an rfl (Ry.to (v':=(⟨false,gA,0,n.toNat,n.toNat,none⟩:Sv).val) (bW (s:=⟨false,jd,0,b.toNat,b.toNat,none⟩) (j:=0) rfl i V2 rfl dDq) rfl) (an rfl (bm rfl) (an rfl (bm rfl) (dr rfl (QA (enc:=aQ) (n:=s.toNat) (cap:=s.toNat) 0 rfl rfl rfl oM oM oM oM oM fun p8=>⟨fun _ hw=>ah.mem hw,?_⟩))))));obtain⟨e46,atw⟩:=get_some (xs:=qs) (i:=j) oM;refine an rfl (pq (s:=⟨false,gA,0,n.toNat,n.toNat,none⟩) (i:=j) rfl rfl rfl ahE (by simp only;omega)) (dr rfl (aaH (s:=⟨false,gA,0,n.toNat,n.toNat,none⟩) (xs:=qs) (k:=j) (a:=y) (⟨⟨false,p8,0,s.toNat,s.toNat,none⟩,iA s⟩:Sl UInt8) oK rfl rfl oM hy ⟨fun _ hw=>ah.mem hw,?_⟩));refine ar ?_;obtain⟨e50,atx⟩:=get_some (xs:=(zs.set i ⟨⟨⟨false,gA,0,n.toNat,n.toNat,none⟩,[]⟩,0,0,false⟩)) (i:=i) oM;refine ag (bf (s:=⟨false,jd,0,b.toNat,b.toNat,none⟩) (xs:=(zs.set i ⟨⟨⟨false,gA,0,n.toNat,n.toNat,none⟩,[]⟩,0,0,false⟩)) rfl rfl i rfl oM) (ag (aM rfl rfl) (ag (Ry.to (v':=(⟨false,gA,0,n.toNat,n.toNat,none⟩:Sv).val) (bW (s:=⟨false,jd,0,b.toNat,b.toNat,none⟩) (j:=0) rfl i V2 rfl dDq) rfl) (Gs ?_)));refine ag (bf rfl rfl j rfl (by rw[auA];omega)) (ag (Ry.to (v':= .slice (some ⟨(⟨false,p8,0,s.toNat,s.toNat,none⟩:Sv).b,(⟨false,p8,0,s.toNat,s.toNat,none⟩:Sv).o+0,none⟩) s.toNat s.toNat) (bW (s:=⟨false,gA,0,n.toNat,n.toNat,none⟩) (xs:=qs.set j (⟨⟨false,p8,0,s.toNat,s.toNat,none⟩,iA s⟩:Sl UInt8)) (j:=0) rfl j (auk oM) rfl dDq) rfl) ?_);refine bb (hc:=afJ (rm:=⟨false,p8,0,s.toNat,s.toNat,none⟩) (k:=0) (n:=s.toNat) (cap:=s.toNat) (xs:=List.replicate s.toNat 0)) rfl ⟨by simp,oM⟩ fun Hy Mf=>al ?_;refine Gi ?_;exact bo (x:=(j,qs)) (j+1,qs.set j (⟨⟨false,p8,0,s.toNat,s.toNat,none⟩,iA s⟩:Sl UInt8)) ⟨oF,by rw[auA];exact dB,by rw[aR,GX hy,←aR,gJ,List.replicate_succ']⟩ (by simp only;omega) sb (fun w hw=>by
    have h1:=KV (a:=(⟨⟨false,p8,0,s.toNat,s.toNat,none⟩,iA s⟩:Sl UInt8)) (by
     simp only[auw,auS,auL,List.drop_replicate,avX,List.replicate_zero,auT]at hw;exact(ah.mem hw:Mem _ (own aQ 1 ⟨false,p8,0,s.toNat,s.toNat,none⟩ (List.replicate s.toNat 255)::[own (cw (τ:=UInt8)) 1 ⟨false,gA,0,n.toNat,n.toNat,none⟩ (qs.set j (⟨⟨false,p8,0,s.toNat,s.toNat,none⟩,iA s⟩:Sl UInt8)),ai.all ((qs.take j).map fun b:Sl UInt8=>fz b),own cq 4 ⟨false,jd,0,b.toNat,b.toNat,none⟩ (zs.set i ⟨⟨⟨false,gA,0,n.toNat,n.toNat,none⟩,[]⟩,0,0,false⟩),ai.all ((zs.take i).map fun b:Bk=>fz b.pages),aq b8 (aV (⟨n,s,⟨⟨false,jd,0,b.toNat,b.toNat,none⟩,[]⟩,0,false,⟨Sv.none,[]⟩⟩:Cp)) 59,aq b6 (aV ib) 59]) _))
    have h3:=Mem.AP (ah.mem h1:Mem _ (fz (⟨⟨false,p8,0,s.toNat,s.toNat,none⟩,iA s⟩:Sl UInt8)::ai.all ((qs.take j).map fun b:Sl UInt8=>fz b)::[own (cw (τ:=UInt8)) 1 ⟨false,gA,0,n.toNat,n.toNat,none⟩ (qs.set j (⟨⟨false,p8,0,s.toNat,s.toNat,none⟩,iA s⟩:Sl UInt8)),own cq 4 ⟨false,jd,0,b.toNat,b.toNat,none⟩ (zs.set i ⟨⟨⟨false,gA,0,n.toNat,n.toNat,none⟩,[]⟩,0,0,false⟩),ai.all ((zs.take i).map fun b:Bk=>fz b.pages),aq b8 (aV (⟨n,s,⟨⟨false,jd,0,b.toNat,b.toNat,none⟩,[]⟩,0,false,⟨Sv.none,[]⟩⟩:Cp)) 59,aq b6 (aV ib) 59]) _);rw[K4 (z':=(⟨⟨false,p8,0,s.toNat,s.toNat,none⟩,iA s⟩:Sl UInt8)) hy]at h3;exact ah.mem h3)
  have wQ:j=n.toNat:=by omega
  have km:j=qs.length:=by omega
  rw[aug oM]at gJ;refine al ?_;refine Gi ?_;exact bo (x:=(i,zs)) (i+1,zs.set i (⟨⟨⟨false,gA,0,n.toNat,n.toNat,none⟩,qs⟩,0,0,false⟩:Bk)) ⟨oF,by rw[auA];exact aK,by rw[GX hz,bx,List.replicate_succ',show bv (⟨⟨⟨false,gA,0,n.toNat,n.toNat,none⟩,qs⟩,0,0,false⟩:Bk)=(⟨List.replicate n.toNat (iA s),0,0,false⟩:BV) by rw[bv,gJ,wQ]],fun k hk oy=>by rw[auF oF];exact di k oF oy⟩ (by simp only;omega) sb (fun w hw=>by
   rw[aug oM]at hw;have h1:=K3 (ah.mem hw:Mem _ (own (cw (τ:=UInt8)) 1 ⟨false,gA,0,n.toNat,n.toNat,none⟩ qs::ai.all (qs.map fun b:Sl UInt8=>fz b)::[own cq 4 ⟨false,jd,0,b.toNat,b.toNat,none⟩ (zs.set i ⟨⟨⟨false,gA,0,n.toNat,n.toNat,none⟩,[]⟩,0,0,false⟩),ai.all ((zs.take i).map fun b:Bk=>fz b.pages),aq b8 (aV (⟨n,s,⟨⟨false,jd,0,b.toNat,b.toNat,none⟩,[]⟩,0,false,⟨Sv.none,[]⟩⟩:Cp)) 59,aq b6 (aV ib) 59]) _);have h2:=KW (ys:=zs.set i (⟨⟨⟨false,gA,0,n.toNat,n.toNat,none⟩,qs⟩,0,0,false⟩:Bk)) (by rw[awe,awe];rfl) (ah.mem h1:Mem _ (own cq 4 ⟨false,jd,0,b.toNat,b.toNat,none⟩ (zs.set i ⟨⟨⟨false,gA,0,n.toNat,n.toNat,none⟩,[]⟩,0,0,false⟩)::[fz (⟨⟨false,gA,0,n.toNat,n.toNat,none⟩,qs⟩:Sl (Sl UInt8)),ai.all ((zs.take i).map fun b:Bk=>fz b.pages),aq b8 (aV (⟨n,s,⟨⟨false,jd,0,b.toNat,b.toNat,none⟩,[]⟩,0,false,⟨Sv.none,[]⟩⟩:Cp)) 59,aq b6 (aV ib) 59]) _);have h3:=Mem.AP (ah.mem h2:Mem _ (fz (⟨⟨false,gA,0,n.toNat,n.toNat,none⟩,qs⟩:Sl (Sl UInt8))::ai.all ((zs.take i).map fun b:Bk=>fz b.pages)::[own cq 4 ⟨false,jd,0,b.toNat,b.toNat,none⟩ (zs.set i (⟨⟨⟨false,gA,0,n.toNat,n.toNat,none⟩,qs⟩,0,0,false⟩:Bk)),aq b8 (aV (⟨n,s,⟨⟨false,jd,0,b.toNat,b.toNat,none⟩,[]⟩,0,false,⟨Sv.none,[]⟩⟩:Cp)) 59,aq b6 (aV ib) 59]) _);rw[R5 (z':=(⟨⟨⟨false,gA,0,n.toNat,n.toNat,none⟩,qs⟩,0,0,false⟩:Bk)) hz]at h3;exact ah.mem h3)
 obtain rfl:i=zs.length:=by omega
 rw[aup]at bx;refine aP ?_;refine Gr fun w1 hw=>?_;exact⟨⟨n,s,⟨⟨false,jd,0,b.toNat,b.toNat,none⟩,zs⟩,0,false,⟨Sv.none,[]⟩⟩,by rw[hN];rfl,by rw[hN];simp only[cv,jv];rw[bx,aK],R0 rfl (by rw[aup]at hw;exact ah.mem hw)⟩)⟩
instance aty{x:fv}[tb:iH w0][hx:aX w0 L x]:bV prog 36 w0 L [.agg (fX x)] (.tuple #[.string ⟨(od (fF x)).toArray⟩, .int .i64 (og (fF x))]) (wu (fF x)=true/\((eH x.b x.p x.s).2=0->aW (eH x.b x.p x.s).1=true)):=⟨fun aC w hw=>by
 have tb:=tb.at hw;have hx:=hx.h w hw;have yi:cQ w x:=⟨hx⟩;obtain⟨gQ,Nv⟩:=aC;have wo:sC (fF x)=(decide (x.l.xs.length<=300)&&u4 x.l.xs&&decide ((eH x.b x.p x.s).2=0)&&decide ((kW (fF x)).2=0)):=rfl;refine cx func36 rfl ntmps36 rfl ?_;refine Gc ?_;refine cn rfl fun b1=>fS ?_;refine Gb ?_ ?_<;>intro h0
 ·
  have hG:sC (fF x)=false:=by rw[wo,decide_eq_false (by omega: ¬x.l.xs.length<=300)];rfl
  refine ar ?_;refine Gr fun w1 hw=>?_;exact⟨(by rw[od,og,hG];rfl),ah.mem hw⟩
 refine aY ?_;refine cg (X:=Nat) (fun U=>[(20, .int .i64 (U:Nat)),(1, .pointer (some ⟨b1,0,none⟩)),(18,x.l.sv.val),(19, .int .i64 (x.l.xs.length:Nat))]) (fun U=>[aq b1 (fX x) 76]) (fun U=>U<=x.l.xs.length/\ ∀j y,j<U->x.l.xs[j]? =Option.some y->eV y=true) (fun U=>x.l.xs.length -U) 0 ⟨Nat.zero_le _,fun j y h=>by first|omega|(simp only[];omega)⟩ sb (fun w hw=>ah.mem hw) ?_;rintro i ⟨bg,aK⟩;refine al ?_;refine Gb ?_ ?_<;>intro h1
 ·
  refine l6 ?_;obtain⟨y,hy⟩:=get_some (xs:=x.l.xs) (i:=i) oM;refine ag (bf rfl rfl i rfl oM) (ag (gV rfl i hy rfl) (bn fun b5=>aP ?_));refine ag (aB (v:= .string ⟨(qx y).toArray⟩) rfl rfl) (ag (aB (v:= .int .i64 (pD y)) rfl rfl) (aY ?_));refine Gb ?_ ?_<;>intro h2
  ·
   have bJ:eV y=false:=by
    cases hq:eV y with
    |false=>rfl
    |true=>exact absurd (show pD y=0 by rw[pD,hq];rfl) h2
   have dj:u4 x.l.xs=false:=by
    rw[←Bool.not_eq_true,u4,aue];intro hq;rw[hq y (atl hy)]at bJ;cases bJ
   have hG:sC (fF x)=false:=by rw[wo,dj,awj];rfl
   refine ar ?_;refine Gr fun w1 hw=>?_;exact⟨(by rw[od,og,hG];rfl),ah.mem hw⟩
  have bJ:eV y=true:=by
   cases hq:eV y with
   |true=>rfl
   |false=>rw[pD,hq]at h2;exact absurd h2 dDq
  refine al ?_;refine Gi ?_;exact bo (x:=(i)) (i+1) ⟨oF,fun j z hj hz=>if e:j=i then(by subst e;rw[hy]at hz;cases hz;exact bJ)else aK j z oF hz⟩ oF sb (fun w hw=>ah.mem hw)
 obtain rfl:i=x.l.xs.length:=by omega
 have dj:u4 x.l.xs=true:=aue.2 fun y hy=>by
  obtain⟨j,hj⟩:=avv.1 hy;exact aK j y (zz.1 hj).1 hj
 refine cX ?_;refine bb rfl trivial fun HT D6=>Gs ?_;refine ag (aB (v:= .agg (aV HT)) rfl rfl) (ag (aB (v:= .int .i64 ((eH x.b x.p x.s).2)) rfl rfl) (bn fun b8=>aY ?_));refine Gb ?_ ?_<;>intro h3
 ·
  have hG:sC (fF x)=false:=by rw[wo,decide_eq_false h3,awj];rfl
  refine ar ?_;refine Gr fun w1 hw=>?_;exact⟨(by rw[od,og,hG];rfl),ah.mem hw⟩
 have V3:(eH x.b x.p x.s).2=0:=by simpa using h3
 have Kq:=Nv V3;have Vo:gk HT:=r9 (by rw[D6];exact Kq);refine Gc ?_;refine bn fun tV=>au ?_;refine bb rfl Vo fun BN ahF=>Gs ?_;refine ag (aB (v:= .agg (cV BN)) rfl rfl) (ag (aB (v:= .int .i64 ((jc (cv HT)).2)) rfl rfl) (Gs ?_));refine qX (cs':=cd (⟨BN,⟨Sv.none,[]⟩,none,⟨Sv.none,[]⟩⟩:ca)) rfl rfl (by show 0+10<=13;decide) rfl (aP ?_);refine Gb ?_ ?_<;>intro h4
 ·
  have Nw: ¬(kW (fF x)).2=0:=by rw[kW];show ¬(jc (eH x.b x.p x.s).1).2=0;rw[←D6];exact h4
  have hG:sC (fF x)=false:=by rw[wo,decide_eq_false Nw,awj]
  refine ar ?_;refine Gr fun w1 hw=>?_;exact⟨(by rw[od,og,hG];rfl),ah.mem hw⟩
 have Nw:(kW (fF x)).2=0:=by rw[kW];show(jc (eH x.b x.p x.s).1).2=0;rw[←D6];simpa using h4
 have hG:sC (fF x)=true:=by rw[wo,dj,decide_eq_true (by omega:x.l.xs.length<=300),decide_eq_true V3,decide_eq_true Nw];rfl
 have hsa:qH (eo (kW (fF x)).1) x.l.xs=true:=by
  have:=gQ;rw[wu,hG]at this;exact this
 have lV:aI BN=(kW (fF x)).1:=by rw[ahF,D6];rfl
 refine aY ?_;refine cg (X:=Nat×bL×Sl Ch×Option Nat×Sv) (fun U=>[(55, .int .i64 (U.1:Nat)),(10, .pointer (some ⟨tV,0,none⟩)),(53,x.l.sv.val),(54, .int .i64 (x.l.xs.length:Nat))]) (fun U=>aq tV (cd (⟨U.2.1,U.2.2.1,U.2.2.2.1,⟨U.2.2.2.2,(dX (eo (kW (fF x)).1) (x.l.xs.take U.1)).told⟩⟩:ca)) 174::fz U.2.1::own dx 20 U.2.2.1.sv U.2.2.1.xs::dP 5 U.2.2.2.2 ((dX (eo (kW (fF x)).1) (x.l.xs.take U.1)).told)::[]) (fun U=>U.1<=x.l.xs.length/\aI U.2.1=(dX (eo (kW (fF x)).1) (x.l.xs.take U.1)).f/\U.2.2.1.xs=(dX (eo (kW (fF x)).1) (x.l.xs.take U.1)).batch/\(U.2.2.2.1=none\/U.2.2.2.1=Option.some tV)) (fun U=>x.l.xs.length -U.1) (0,BN,⟨Sv.none,[]⟩,none,Sv.none) ⟨Nat.zero_le _,lV,rfl, .inl rfl⟩ sb (fun w hw=>(show Mem _ (aq tV (cd (⟨BN,⟨Sv.none,[]⟩,none,⟨Sv.none,[]⟩⟩:ca)) 174::fz BN::own dx 20 Sv.none []::dP 5 Sv.none []::[]) _ from ah.mem (Mem.aaZ 5 (Mem.dE dx 20 hw)))) ?_;rintro⟨i,f,b,a,u⟩ ⟨fP,dB,gJ,kh⟩;dsimp only;simp only at fP dB gJ kh;have El:(⟨aI f,b.xs,(dX (eo (kW (fF x)).1) (x.l.xs.take i)).told⟩:bh)=(dX (eo (kW (fF x)).1) (x.l.xs.take i)):=by rw[dB,gJ]
 refine al ?_;refine Gb ?_ ?_<;>intro h5
 ·
  refine l6 ?_;obtain⟨y,hy⟩:=get_some (xs:=x.l.xs) (i:=i) oM;refine ag (bf rfl rfl i rfl oM) (ag (gV rfl i hy rfl) (bn fun wy=>Gs ?_));refine gF ?_;have bN:(dX (eo (kW (fF x)).1) (x.l.xs.take (i+1)))=cI (⟨aI f,b.xs,(dX (eo (kW (fF x)).1) (x.l.xs.take i)).told⟩:bh) y:=by rw[Ud hy,El]
  have Ik:eV y=true:=aue.1 dj y (atl hy);have hsy:qG (⟨aI f,b.xs,(dX (eo (kW (fF x)).1) (x.l.xs.take i)).told⟩:bh)=true:=by rw[El];exact sm_at i hsa oM
  refine Gi ?_;refine Gs ?_;refine bb rfl ⟨hsy,Ik,kh⟩ fun wI Ek=>al ?_;refine Gi ?_;exact bo (x:=(i,f,b,a,u)) (i+1,wI.1,wI.2.1,wI.2.2.1,wI.2.2.2) ⟨by simp only;omega,by simp only;rw[bN];exact Ek.1,by simp only;rw[bN];exact Ek.2.1,Ek.2.2⟩ (by simp only;omega) sb (fun w hw=>by simp only[bN];exact ah.mem hw)
 obtain rfl:i=x.l.xs.length:=by omega
 refine au ?_;refine bb rfl trivial fun U8 U9=>al ?_;refine Gr fun w1 hw=>?_;exact⟨(by rw[od,og,hG,aup];rfl),ah.mem hw⟩⟩
instance atz{t:List UInt8}[tb:iH w0]:bY prog 30 w0 L [.string ⟨t.toArray⟩] (fv) (fun U=> .tuple #[.agg (fX U), .int .i64 ((fx t).2.1), .int .i64 ((fx t).2.2)]) (fun U=>own bA 38 U.l.sv U.l.xs::L) (fun U=>fF U=(fx t).1) (t.length<=1000000000):=⟨fun aC w hw=>Gk (fun U:fv=>[own bA 38 U.l.sv U.l.xs]) hw (by
 have tb:=tb.at hw;have xF:=avx.2 (CI (c:=10) t);have KI:gu t=(ba 10 t).length -1:=rfl;have qu:=JO 10 t;have Il:((ba 10 t).drop 1).take (gu t -1)=ji t:=by rw[ji,gu];rfl
 have UE:=aca t;have Nx:(((ba 10 t).drop 1).take (gu t -1)).length=gu t -1:=by rw[Il,UE]
 refine cx func30 rfl ntmps30 rfl ?_;refine Gc ?_;refine bn fun b2=>ar ?_;refine ag (qZ (s:=t) underlying9 rfl) (au ?_);refine Gb ?_ ?_<;>intro h0
 ·have hE:=ab5 (t:=t) oM;refine Gc ?_;refine ag (gf rfl) (ar ?_);refine Gr fun w1 hw=>?_;exact⟨sJ,by rw[hE],by rw[hE];rfl,Mem.dE bA 38 (ah.mem hw:Mem w [] _)⟩
 have Aw: ¬16384<t.length:=by omega
 refine au ?_;refine bb rfl oM fun cz ve=>ar ?_;refine ag (Ry.to (v':= .int .i64 ((gu t:Nat):Int)) (Ag rfl rfl oM) (by rw[KI];congr 1;omega)) (cX ?_);refine bU rfl rfl rfl (fun hg=>(Ry.yl (bf (aG hg rfl) (aG hg rfl) (gu t) rfl (by simp only[Z0,Z1,Z2,Z3,Z4,Z5,Z6,Z7,Z8,Z9]at hg;omega)))) (bU rfl rfl rfl (fun hg=>(Ry.yl (bW (j:=0) (aG hg rfl) (gu t) (pz (xs:=(ba 10 t)) (i:=(gu t)) (d:=([]:aJ)) (by simp only[Z0,Z1,Z2,Z3,Z4,Z5,Z6,Z7,Z8,Z9]at hg;omega)) rfl dDq))) (bU rfl rfl rfl (fun hg=>(Ry.yl (Fu (aG hg rfl) rfl))) (au ?_)));refine Gb ?_ ?_<;>intro h1
 ·
  have hE:=ab6 (t:=t) Aw (by rcases h1 with g|g;exact .inl oM;exact .inr g)
  refine Gc ?_;refine ag (gf rfl) (aY ?_);refine Gr fun w1 hw=>?_;exact⟨sJ,by rw[hE],by rw[hE];rfl,Mem.dE bA 38 (ah.mem hw:Mem w [] _)⟩
 have BO: ¬(gu t=0\/(ba 10 t).getD (gu t) []≠[]):=by rintro(g|g);exact h1.1 oM;exact g h1.2
 obtain⟨l0,kO⟩:=get_some (xs:=(ba 10 t)) (i:=0) xF;have hle:(ba 10 t).getD 0 []=l0:=by simp[List.getD,kO]
 have mL:l0.length<=t.length:=FN t (atl kO);refine au ?_;refine ag (bf rfl rfl 0 rfl oM) (ag (bW (j:=0) rfl 0 kO rfl dDq) (cO (bK rfl oM) (Gs ?_)));refine ag (aB (v:= .agg (fX (zQ l0))) rfl rfl) (ag (aB (v:= .bool ((kM l0).isSome)) rfl rfl) (bn fun b7=>aY ?_));refine Gb ?_ ?_<;>intro h2
 ·
  have hE:=ab7 Aw BO (by rw[hle];cases hq:kM l0 with|none=>rfl|some q=>rw[hq]at h2;cases h2)
  refine Gc ?_;refine ag (gf rfl) (ar ?_);refine Gr fun w1 hw=>?_;exact⟨sJ,by rw[hE],by rw[hE];rfl,Mem.dE bA 38 (ah.mem hw:Mem w [] _)⟩
 obtain⟨q,hq⟩:=auE.1 h2;have xR:kM ((ba 10 t).getD 0 [])=some q:=by rw[hle];exact hq
 have hsc:zQ l0=(⟨(q.1:Nat),(q.2.1:Nat),(q.2.2:Nat),⟨Sv.none,[]⟩⟩:fv):=V1 hq;refine al ?_;have V4:Rg 1 (gu t) (ba 10 t).length:=⟨oM⟩;refine ag (CC rfl rfl rfl 1 (gu t) rfl rfl V4.h.1 V4.h.2) (al ?_);refine cg (X:=Nat×Sv×List aO) (fun U=>[(48, .int .i64 (U.1:Nat)),(7, .pointer (some ⟨b7,0,none⟩)),(2, .pointer (some ⟨b2,0,none⟩)),(46,((⟨false,cz,0,(ba 10 t).length,(ba 10 t).length,none⟩:Sv).sub 1 1 (gu t)).val),(47, .int .i64 ((((ba 10 t).drop 1).take ((gu t) -1)).length:Nat))]) (fun U=>[own bA 38 U.2.1 U.2.2,aq b7 (fX (⟨(q.1:Nat),(q.2.1:Nat),(q.2.2:Nat),⟨U.2.1,U.2.2⟩⟩:fv)) 76,own mE 1 ⟨false,cz,0,(ba 10 t).length,(ba 10 t).length,none⟩ (ba 10 t),aq b2 (fX sJ) 76]) (fun U=>U.1<=gu t -1/\(∀j,j<U.1->kz ((ji t).getD j [])=0)/\U.2.2=((ji t).take U.1).map ky) (fun U=>gu t -1 -U.1) (0,Sv.none,[]) ⟨Nat.zero_le _,fun j h=>by first|omega|(simp only[];omega),rfl⟩ sb (fun w hw=>(by rw[hsc]at hw;exact ah.mem (Mem.dE bA 38 hw))) ?_;rintro⟨i,s1,xs⟩ ⟨bg,aK,bx⟩;dsimp only;simp only at bg aK bx;have AQ:xs.length<=i:=by rw[bx,List.length_map,List.length_take];omega
 refine al ?_;refine Gb ?_ ?_<;>intro h3
 ·
  refine au ?_;obtain⟨ln,hx⟩:=get_some (xs:=(((ba 10 t).drop 1).take ((gu t) -1))) (i:=i) (by rw[Il];omega);refine ag (bf rfl rfl i rfl (by rw[Il];omega)) (ag (bW (j:=0) rfl i hx rfl dDq) (au ?_));refine j6 ?_;have we:(ji t)[i]? =some ln:=by rw[←Il];exact hx
  have yx:(ji t).getD i []=ln:=by simp[List.getD,we]
  have atA:ln.length<=t.length:=acb (atl we);refine Gi ?_;refine Gs ?_;refine cO (bK rfl oM) (Gs ?_);refine ag (aB (v:= .agg (bA (ky ln))) rfl rfl) (ag (aB (v:= .int .i64 (kz ln)) rfl rfl) (bn fun qP=>aY ?_));refine Gb ?_ ?_<;>intro h4
  ·have hE:=ab8 Aw BO xR aK oM (by rw[yx];exact h4);refine Gc ?_;refine ag (gf rfl) (cX ?_);refine Gr fun w1 hw=>?_;exact⟨sJ,by rw[hE,yx],by rw[hE];rfl,Mem.dE bA 38 (ah.mem hw:Mem w [] _)⟩
  have H4:kz ln=0:=h4;refine ar ?_;refine nP (enc:=bA) (vals:=[_]) [(ky ln)] rfl rfl rfl dDq dDq fun V5=>?_;refine mB (s:=s1) (ys:=[(ky ln)]) rfl rfl dDq (fun w hw=>iQ (s:=⟨false,V5,0,1,1,none⟩) underlying74 dDq ((inferInstance:Hd _ _ ⟨false,V5,0,1,1,none⟩ bA 38 [(ky ln)]).h w hw)) (by simp only[adr,ad2,alM];omega) (by simp only[adr,ad2,alM];omega) fun V6 atB atC=>?_;refine Gs ?_;refine dO (cs':=fX (⟨(q.1:Nat),(q.2.1:Nat),(q.2.2:Nat),⟨V6,xs++[ky ln]⟩⟩:fv)) rfl rfl (by show 3<4;decide) (by first|rfl|exact Sv.one _) rfl (al ?_);refine Gi ?_;exact bo (x:=(i,s1,xs)) (i+1,V6,xs++[ky ln]) ⟨oF,fun j hj=>if e:j=i then(by subst e;rw[yx];exact H4)else aK j oF,by simp only;rw[bx,at6,we,auv];rfl⟩ (by simp only;omega) sb (fun w hw=>ah.mem hw)
 obtain rfl:i=gu t -1:=by omega
 have hE:=ab9 Aw BO xR fun j hj=>aK j oM;have CZ:xs=(ji t).map ky:=by rw[bx,aug oM]
 refine aY ?_;refine Gb ?_ ?_<;>intro h5
 ·rw[if_pos (by rw[←aur (f:=ky),←CZ];omega)]at hE;refine Gc ?_;refine ag (gf rfl) (ar ?_);refine Gr fun w1 hw=>?_;exact⟨sJ,by rw[hE],by rw[hE];rfl,Mem.dE bA 38 (ah.mem hw:Mem w [] _)⟩
 rw[if_neg (by rw[←aur (f:=ky),←CZ];omega)]at hE;refine aY ?_;refine Gr fun w1 hw=>?_;exact⟨(⟨(q.1:Nat),(q.2.1:Nat),(q.2.2:Nat),⟨s1,xs⟩⟩:fv),by rw[hE],by rw[hE];simp only[fF,CZ],ah.mem hw⟩)⟩
instance{x:fv}{i:Nat}[q:gg L x.l.sv bA 38 x.l.xs i]:aX w0 L x:=⟨fun w hw=>⟨q.holds w hw,fun _ _=>trivial⟩⟩
instance atD{t:List UInt8}[tb:iH w0]:bV prog 44 w0 L [.string ⟨t.toArray⟩] (.tuple #[.string ⟨(u5 t).toArray⟩, .int .i64 (u6 t), .int .i64 (xZ t)]) (t.length<=1000000000/\wu (fx t).1=true/\((eH (fx t).1.b (fx t).1.p (fx t).1.s).2=0->aW (eH (fx t).1.b (fx t).1.p (fx t).1.s).1=true)):=⟨fun aC w hw=>by
 have tb:=tb.at hw;obtain⟨zA,gQ,Nv⟩:=aC;refine cx func44 rfl ntmps44 rfl ?_;refine aY ?_;refine bb rfl oM fun df sF=>Gs ?_;refine ag (aB (v:= .agg (fX df)) rfl rfl) (ag (aB (v:= .int .i64 ((fx t).2.1)) rfl rfl) (ag (aB (v:= .int .i64 ((fx t).2.2)) rfl rfl) (bn fun b5=>cX ?_)));refine Gb ?_ ?_<;>intro h0
 ·refine cX ?_;refine Gr fun w1 hw=>?_;exact⟨(by rw[u5,u6,xZ,if_pos h0,if_pos h0,if_pos h0]),ah.mem hw⟩
 have pd:(fx t).2.1=0:=by simpa using h0
 refine au ?_;refine cO (bK rfl ⟨by rw[sF];exact gQ,by show(eH (fF df).b (fF df).p (fF df).s).2=0->aW (eH (fF df).b (fF df).p (fF df).s).1=true;rw[sF];exact Nv⟩) (Gs ?_);refine ag (aB (v:= .string ⟨(od (fF df)).toArray⟩) rfl rfl) (ag (aB (v:= .int .i64 (og (fF df))) rfl rfl) (iS ?_));refine Gr fun w1 hw=>?_;exact⟨(by rw[u5,u6,xZ,if_neg (fun g=>g pd),if_neg (fun g=>g pd),if_neg (fun g=>g pd),sF]),ah.mem hw⟩⟩
end Go.Proofs.YtkggjjnhnjjokaaGreatDoor
namespace Go.Kb
open Go.ax
def ahG:Key:=oz fun i=>if i=0 then 10 else 0
def nE(h:UInt16):Rt:=⟨⟨32,8,ahG⟩,h⟩
def V7:CV×Int:=eH 6 2 64
def Em:FV×Int:=jc V7.1
def yy:FV×Int:=bI Em.1 [⟨nE 7,false⟩]
theorem ahH:yy.2=0:=by decide+kernel
def wJ:Key:=oz fun i=>if i=0 then 10 else if i<4 then 1 else 0
def Im:aJ:=[99,104,105,112,32,54,32,50,32,54,52,10,112,117,116,32,49,48,46,48,46,48,46,48,47,56,32,55,10,100,111,110,101,10,102,105,110,100,32,49,48,46,49,46,49,46,49,10,100,117,109,112,10]
def En:aJ:=[111,107,10,49,48,46,48,46,48,46,48,47,56,32,55,10,114,111,117,116,101,115,32,49,10,49,48,46,48,46,48,46,48,47,56,32,55,10]
def qS:pE:=⟨6,2,64,[⟨1,nE 7,0#128,0,0⟩,⟨3,bQ,0#128,0,0⟩,⟨4,bQ,wJ,32,0⟩,⟨8,bQ,0#128,0,0⟩]⟩
theorem Io:fx Im=(qS,0,0):=by decide+kernel
theorem V8:sC qS=true:=by decide+kernel
theorem Ny:yy.1.table=[nE 7]/\ob yy.1 wJ 32=0/\kV yy.1 wJ 32=nE 7:=by decide+kernel
theorem V9:xQ Em.1=true/\xQ yy.1=true:=by decide+kernel
theorem Ip:bu (nE 7).p=true/\nV [49,48,46,48,46,48,46,48,47,56,32,55]=nE 7/\pC [49,48,46,48,46,48,46,48,47,56,32,55]=0:=by decide+kernel
theorem Wa:ir (nE 7)=[49,48,46,48,46,48,46,48,47,56,32,55]:=by
 have:=(Q3 Ip.2.2).2;rwa [Ip.2.1]at this
theorem ahI{f g:FV}(hg:bI f [⟨nE 7,false⟩]=(g,0))(ht:g.table=[nE 7])(hE:ob g wJ 32=0)(hR:kV g wJ 32=nE 7)(sf:xQ f=true)(sg:xQ g=true):
  (dX (eo f) qS.l).told=En/\qH (eo f) qS.l=true:=by
 have h1:dec 1=[49]:=qm dDq;have p1:cI (eo f) ⟨1,nE 7,0#128,0,0⟩=⟨f,[⟨nE 7,false⟩],[]⟩:=rfl;have p2:cI ⟨f,[⟨nE 7,false⟩],[]⟩ ⟨3,bQ,0#128,0,0⟩=⟨g,[],[111,107,10]⟩:=by
  show jC {f:=(bI f [⟨nE 7,false⟩]).1,batch:=[],told:=[]} pZ (bI f [⟨nE 7,false⟩]).2=_;rw[hg];rfl
 have p3:cI ⟨g,[],[111,107,10]⟩ ⟨4,bQ,wJ,32,0⟩=⟨g,[],[111,107,10]++[49,48,46,48,46,48,46,48,47,56,32,55]++[10]⟩:=by
  show mZ ⟨g,[],[111,107,10]⟩ ⟨4,bQ,wJ,32,0⟩=_;rw[mZ,if_neg (fun k=>k hE)];simp only[hR,Wa,Ip.1,jC,jQ,jR,gM,if_true];rfl
 have p4:cI ⟨g,[],[111,107,10]++[49,48,46,48,46,48,46,48,47,56,32,55]++[10]⟩ ⟨8,bQ,0#128,0,0⟩=⟨g,[],En⟩:=by
  show oZ ⟨g,[],[111,107,10]++[49,48,46,48,46,48,46,48,47,56,32,55]++[10]⟩=_;rw[oZ];simp only[ht,jQ,ad2,alM,auL,h1,avq,List.foldl_nil,oY,jC,jR,gM,Ip.1,Wa,if_true];rfl
 have s1: ∀(b:List Ch) (t:aJ),b.length<=1000->t.length<=100000000->qG ⟨f,b,t⟩=true:=fun b t hb ht=>by
  simp only[qG,sf,au2,af0,decide_eq_true_eq];exact⟨hb,ht⟩
 have s2: ∀(b:List Ch) (t:aJ),b.length<=1000->t.length<=100000000->qG ⟨g,b,t⟩=true:=fun b t hb ht=>by
  simp only[qG,sg,au2,af0,decide_eq_true_eq];exact⟨hb,ht⟩
 refine⟨?_,?_⟩
 ·show(cI (cI (cI (cI (eo f) ⟨1,nE 7,0#128,0,0⟩) ⟨3,bQ,0#128,0,0⟩) ⟨4,bQ,wJ,32,0⟩) ⟨8,bQ,0#128,0,0⟩).told=En;rw[p1,p2,p3,p4]
 ·show qH (eo f) [⟨1,nE 7,0#128,0,0⟩,⟨3,bQ,0#128,0,0⟩,⟨4,bQ,wJ,32,0⟩,⟨8,bQ,0#128,0,0⟩]=true;simp only[qH,p1,p2,p3,p4,af0];exact⟨s1 _ _ dDq dDq,s1 _ _ dDq dDq,s2 _ _ dDq dDq,s2 _ _ dDq dDq,s2 _ _ dDq dDq⟩
theorem ahJ:kW qS=Em:=by
 show jc (eH 6 2 64).1=_;rw[Em,V7]
theorem Wb:(dX (eo (kW qS).1) qS.l).told=En/\qH (eo (kW qS).1) qS.l=true:=by
 rw[ahJ];refine ahI (g:=yy.1) ?_ Ny.1 Ny.2.1 Ny.2.2 V9.1 V9.2;have e:bI Em.1 [⟨nE 7,false⟩]=yy:=by rw[yy]
 have pe: ∀q:FV×Int,q.2=0->q=(q.1,0):=fun q h=>Prod.ext rfl h;exact e.trans (pe _ ahH)
theorem ahK:wu qS=true:=by rw[wu,Wb.2,Bool.or_true]
theorem Nz:u5 Im=En/\u6 Im=0/\xZ Im=0:=by
 refine⟨?_,?_,?_⟩
 ·rw[u5,Io,if_neg (fun g=>g rfl),od,if_pos V8];exact Wb.1
 ·rw[u6,Io,if_neg (fun g=>g rfl),og,V8];rfl
 rw[xZ,Io,if_neg (fun g=>g rfl)]
end Go.Kb
namespace Go.Proofs.YtkggjjnhnjjokaaGreatDoor
open Go.ax Go.Kb Go.RowKit Go.Proofs.Tryz
variable {w0:World}{L:List ai}
instance atE[tb:iH w0]:bV prog 29 w0 L [] (.bool true) (True):=⟨fun aC w hw=>by
 have tb:=tb.at hw;have k1:u6 [99,104,105,112,32,54,32,50,32,54,52,10,112,117,116,32,49,48,46,48,46,48,46,48,47,56,32,55,10,100,111,110,101,10,102,105,110,100,32,49,48,46,49,46,49,46,49,10,100,117,109,112,10]=0:=Nz.2.1;have k2:xZ [99,104,105,112,32,54,32,50,32,54,52,10,112,117,116,32,49,48,46,48,46,48,46,48,47,56,32,55,10,100,111,110,101,10,102,105,110,100,32,49,48,46,49,46,49,46,49,10,100,117,109,112,10]=0:=Nz.2.2;have k3:u5 [99,104,105,112,32,54,32,50,32,54,52,10,112,117,116,32,49,48,46,48,46,48,46,48,47,56,32,55,10,100,111,110,101,10,102,105,110,100,32,49,48,46,49,46,49,46,49,10,100,117,109,112,10]=[111,107,10,49,48,46,48,46,48,46,48,47,56,32,55,10,114,111,117,116,101,115,32,49,10,49,48,46,48,46,48,46,48,47,56,32,55,10]:=Nz.1;have k4:fx [99,104,105,112,32,54,32,50,32,54,52,10,112,117,116,32,49,48,46,48,46,48,46,48,47,56,32,55,10,100,111,110,101,10,102,105,110,100,32,49,48,46,49,46,49,46,49,10,100,117,109,112,10]=(qS,0,0):=Io;have k5:aW (eH qS.b qS.p qS.s).1=true:=by decide+kernel
 refine Gl0 func29 rfl ntmps29 rfl ?_;refine al ?_;refine cO (bK rfl ⟨dDq,by rw[k4];exact ahK,by rw[k4];exact fun _=>k5⟩) (Gs ?_);refine ag (aB (v:= .string ⟨(u5 [99,104,105,112,32,54,32,50,32,54,52,10,112,117,116,32,49,48,46,48,46,48,46,48,47,56,32,55,10,100,111,110,101,10,102,105,110,100,32,49,48,46,49,46,49,46,49,10,100,117,109,112,10]).toArray⟩) rfl rfl) (ag (aB (v:= .int .i64 (u6 [99,104,105,112,32,54,32,50,32,54,52,10,112,117,116,32,49,48,46,48,46,48,46,48,47,56,32,55,10,100,111,110,101,10,102,105,110,100,32,49,48,46,49,46,49,46,49,10,100,117,109,112,10])) rfl rfl) (ag (aB (v:= .int .i64 (xZ [99,104,105,112,32,54,32,50,32,54,52,10,112,117,116,32,49,48,46,48,46,48,46,48,47,56,32,55,10,100,111,110,101,10,102,105,110,100,32,49,48,46,49,46,49,46,49,10,100,117,109,112,10])) rfl rfl) (cX ?_)));refine mD rfl rfl rfl (by simp[k1,k2,k3]) (Ry.yl (bm rfl)) (mD rfl rfl rfl (by simp[k1,k2,k3]) (Ry.yl (eR rfl rfl rfl)) (ag (xe rfl (by simp[k1,k2,k3]) rfl rfl) (Gs ?_)));refine mD rfl rfl rfl (by simp[k1,k2,k3]) (Ry.yl (bm rfl)) (mD rfl rfl rfl (by simp[k1,k2,k3]) (Ry.yl (yT rfl rfl)) (ag (xe rfl (by simp[k1,k2,k3]) rfl rfl) (au ?_)));refine Gr fun w1 hw=>?_;exact⟨congrArg (fun b=>Ending.returned (Value.bool b)) ((by simp[k3])),ah.mem hw⟩⟩
instance atF{x:fv}{y:fv}[hx:aX w0 L x][hy:aX w0 L y]:bV prog 34 w0 L [.agg (fX x), .agg (fX y)] (.bool (decide (x.b=y.b/\x.p=y.p/\x.s=y.s/\x.l.xs=y.l.xs))) (True):=⟨fun aC w hw=>by
 have hx:=hx.h w hw;have hy:=hy.h w hw;have yi:cQ w x:=⟨hx⟩;have MD:cQ w y:=⟨hy⟩;have et:=hx.1.bd;refine dD func34 rfl ntmps34 rfl ?_;refine Gc ?_;refine cn rfl fun b2=>cn rfl fun b3=>QL ?_;refine Gb ?_ ?_<;>intro h0
 ·refine al ?_;refine Gr fun w1 hw=>?_;exact Ge ((by rw[decide_eq_false (fun g:x.b=y.b/\x.p=y.p/\x.s=y.s/\x.l.xs=y.l.xs=>by have:=congrArg List.length g.2.2.2;have:=g.1;have:=g.2.1;have:=g.2.2.1;omega)])) hw
 have e1:x.b=y.b:=by omega
 have e2:x.p=y.p:=by omega
 have e3:x.s=y.s:=by omega
 have e4:x.l.xs.length=y.l.xs.length:=by omega
 refine al ?_;refine cg (X:=Nat) (fun U=>[(5, .int .i64 (U:Nat)),(2, .pointer (some ⟨b2,0,none⟩)),(3, .pointer (some ⟨b3,0,none⟩))]) (fun U=>[aq b2 (fX x) 76,aq b3 (fX y) 76]) (fun U=>U<=x.l.xs.length/\ ∀j,j<U->x.l.xs[j]? =y.l.xs[j]?) (fun U=>x.l.xs.length -U) 0 ⟨Nat.zero_le _,fun j h=>by first|omega|(simp only[];omega)⟩ sb (fun w hw=>ah.mem hw) ?_;rintro i ⟨bg,aK⟩;refine cX ?_;refine Gb ?_ ?_<;>intro h1
 ·
  refine Ku ?_;obtain⟨u,hu⟩:=get_some (xs:=x.l.xs) (i:=i) oM;obtain⟨v,hv⟩:=get_some (xs:=y.l.xs) (i:=i) oM;refine jI oK oK (al ?_);refine bX (bf rfl rfl i rfl oM) (bX (gV rfl i hu rfl) (al ?_));refine bX (bf rfl rfl i rfl oM) (bX (gV rfl i hv rfl) (bX (E9 rfl rfl) (Gc ?_)));refine Gb ?_ ?_<;>intro h2
  ·
   have NA: ¬u=v:=by simpa using h2
   refine al ?_;refine Gr fun w1 hw=>?_;exact Ge ((by rw[decide_eq_false (fun g:x.b=y.b/\x.p=y.p/\x.s=y.s/\x.l.xs=y.l.xs=>NA (by have:=hu;rw[g.2.2.2,hv]at this;exact(at1 this).symm))])) hw
  have NA:u=v:=by simpa using h2
  refine ar ?_;refine Gi ?_;exact bo (x:=(i)) (i+1) ⟨oF,fun j hj=>if e:j=i then(by subst e;rw[hu,hv,NA])else aK j oF⟩ oF sb (fun w hw=>ah.mem hw)
 obtain rfl:i=x.l.xs.length:=by omega
 have e5:x.l.xs=y.l.xs:=au6 fun j=>by
  rcases aud j x.l.xs.length with hj|hj
  ·exact aK j hj
  rw[aub hj,aub oM]
 refine al ?_;refine Gr fun w1 hw=>?_;exact⟨congrArg (fun b=>Ending.returned (Value.bool b)) ((by rw[decide_eq_true (⟨e1,e2,e3,e5⟩:x.b=y.b/\x.p=y.p/\x.s=y.s/\x.l.xs=y.l.xs)])),ah.mem hw⟩⟩
end Go.Proofs.YtkggjjnhnjjokaaGreatDoor
namespace Go.Kb
open Go.ax
def Wc(n p:Nat):Bool:=
 decide ((eH ((n:Int)+5) ((p:Int)+2) 64).2=0)&&aW (eH ((n:Int)+5) ((p:Int)+2) 64).1&&decide ((jc (eH ((n:Int)+5) ((p:Int)+2) 64).1).2=0)&&aW (jc (eH ((n:Int)+5) ((p:Int)+2) 64).1).1.aj.ae&&decide ((jc (eH ((n:Int)+5) ((p:Int)+2) 64).1).1.aj.at_.length<=64)&&decide ((jc (eH ((n:Int)+5) ((p:Int)+2) 64).1).1.table=[])&&decide ((jc (eH ((n:Int)+5) ((p:Int)+2) 64).1).1.aj.ae.aA=[])
theorem ahL: ∀n,n<7-> ∀p,p<7->Wc n p=true:=by decide+kernel
theorem Wd{n p:Nat}(hn:n<7)(hp:p<7):(eH ((n:Int)+5) ((p:Int)+2) 64).2=0/\aW (eH ((n:Int)+5) ((p:Int)+2) 64).1=true/\(jc (eH ((n:Int)+5) ((p:Int)+2) 64).1).2=0/\Lb 0 (eo (jc (eH ((n:Int)+5) ((p:Int)+2) 64).1).1):=by
 have h:=ahL n hn p hp;simp only[Wc,af0,decide_eq_true_eq]at h;obtain⟨⟨⟨⟨⟨⟨h1,h2⟩,h3⟩,h4⟩,h5⟩,h6⟩,h7⟩:=h;exact⟨h1,h2,h3,h4,h5,by show cS (jc _).1.table=true;rw[h6];decide,by show(jc _).1.aj.ae.aA.length<=0;rw[h7];exact at5 _⟩
theorem We{t:List Rt}(h:cS t=true){r:Rt}(hr:r∈t):bu r.p=true:=(Dw h).may r hr
theorem ahM{t:List Rt}{k:Key}{b:Int}(h:uW t k b=0):bu (xN t k b).p=true:=by
 rw[uW]at h;split at h
 ·
  rename_i ho;split at h
  ·rename_i hs;obtain⟨r,hr⟩:=auE.1 hs;have zI:=ho;rw[zu,af0]at zI;obtain⟨hb,hk⟩:=FP.1 (show lZ k b=true from zI.2);have:=(Tu zI.1 hb (n:=b.toNat) oM hr).1;rw[xN,if_pos ho,hr];exact We zI.1 this
  cases h
 cases h
theorem ahN{f:FV}{k:Key}{b:Int}(h:ob f k b=0):bu (kV f k b).p=true:=by
 rw[ob]at h;split at h
 ·rename_i hs;rw[kV,if_pos hs];exact ahM h
 cases h
def gZ(e:Int):aJ:=jR pZ e++[10]
def rI(t:List Rt):aJ:=(t.map fun r=>ir r++[10]).flatten
theorem ahO(t:List Rt)(r:Rt):rI (t++[r])=rI t++(ir r++[10]):=by simp[rI]
theorem Wf: ∀(l:List Rt) (p:bh),(∀r∈l,bu r.p=true)->l.foldl oY p={p with told:=p.told++rI l}
 |[],p,_=>by simp[rI]
 |r::l,p,h=>by
  have hr:=h r auD;rw[avq,Wf l _ fun x hx=>h x (aui _ hx)];simp only[oY,jC,jQ,jR,gM,hr,rI,aum,avn,if_true];simp
def BP(t:List Rt):aJ:=rB++dec t.length++[10]++rI t
theorem Wg{p:bh}(h:cS p.f.table=true):oZ p={p with told:=p.told++BP p.f.table}:=by
 rw[oZ,Wf _ _ fun r hr=>We h hr];simp only[jQ,BP,at4]
theorem d64:dec 64=[54,52]:=by rw[sV (n:=64) dDq,qm (n:=64/10) dDq];rfl
theorem ahP{x y:Nat}{l:List aO}:([99,104,105,112,32]++dec x++[32]++dec y++[32,54,52,10]++lq l)=iu x y 64 l:=by
 rw[iu,d64];simp[tj]
theorem ahQ(l:List aO)(x:aO):lq (l++[x])=lq l++(fJ x++[10]):=by simp[lq]
def lP(n p:Nat):FV:=(jc (eH ((n:Int)+5) ((p:Int)+2) 64).1).1
def rJ(n p:Nat)(l:List aO):pE:=⟨((n+5:Nat):Int),((p+2:Nat):Int),64,l⟩
structure ahR(n p:Nat)(l:List aO):Prop where
 new:(eH ((n:Int)+5) ((p:Int)+2) 64).2=0
 ae:aW (eH ((n:Int)+5) ((p:Int)+2) 64).1=true
 fmt:(jc (eH ((n:Int)+5) ((p:Int)+2) 64).1).2=0
 rd:fx (iu (n+5) (p+2) 64 l)=(rJ n p l,0,0)
 sm:wu (rJ n p l)=true
 te:og (rJ n p l)=0
 ts:od (rJ n p l)=(dX (eo (lP n p)) l).told
 pe:u6 (iu (n+5) (p+2) 64 l)=0
 ps:u5 (iu (n+5) (p+2) 64 l)=(dX (eo (lP n p)) l).told
 all:qH (eo (lP n p)) l=true
 lb: ∀i,i<=l.length->Lb i (dX (eo (lP n p)) (l.take i))
 len:(iu (n+5) (p+2) 64 l).length<=2000
theorem ahS{n p:Nat}{l:List aO}(hn:n<7)(hp:p<7)(hl: ∀x∈l,eV x=true)(Wh:l.length<=40):ahR n p l:=by
 have qu:=ab0 (b:=n+5) (p:=p+2) (s:=64) oM oM oM hl;have hrd:=abX (b:=n+5) (p:=p+2) (s:=64) oM oM oM hl oM oM;obtain⟨f1,f2,f3,f4⟩:=Wd hn hp;have NB:fx (iu (n+5) (p+2) 64 l)=(rJ n p l,0,0):=hrd;have hG:sC (rJ n p l)=true:=by
  have g1:decide (l.length<=300)=true:=decide_eq_true oM;have g2:u4 l=true:=aue.2 hl;have g3:decide ((eH ((n:Int)+5) ((p:Int)+2) 64).2=0)=true:=decide_eq_true f1;have g4:decide ((jc (eH ((n:Int)+5) ((p:Int)+2) 64).1).2=0)=true:=decide_eq_true f3;show(decide (l.length<=300)&&u4 l&&decide ((eH ((n:Int)+5) ((p:Int)+2) 64).2=0)&&decide ((jc (eH ((n:Int)+5) ((p:Int)+2) 64).1).2=0))=true;rw[g1,g2,g3,g4];rfl
 have dj:qH (eo (lP n p)) l=true:=VK f4 oM (at5 _) (at5 _);have vX:od (rJ n p l)=(dX (eo (lP n p)) l).told:=by rw[od,if_pos hG];rfl
 have Iq:og (rJ n p l)=0:=by rw[og,hG];rfl
 exact⟨f1,f2,f3,NB,by rw[wu,hG];exact dj,Iq,vX,by rw[u6,NB,if_neg (fun g=>g rfl)];exact Iq,by rw[u5,NB,if_neg (fun g=>g rfl)];exact vX,dj,
  fun i hi=>by
   have:=VL (l:=l.take i) f4 (by rw[at3];omega);rw[at3,awl hi,auL]at this;exact this,oM⟩
theorem ahT{n p:Nat}{l:List aO}{y:aO}(hy:y∈l)(h:eV y=false):wu (rJ n p l)=true/\og (rJ n p l)=1/\od (rJ n p l)=[]:=by
 have dj:u4 l=false:=by
  rw[←Bool.not_eq_true,u4,aue];intro hq;rw[hq y hy]at h;cases h
 have hG:sC (rJ n p l)=false:=by
  show(decide (l.length<=300)&&u4 l&&_&&_)=false;rw[dj,awj];rfl
 exact⟨by rw[wu,hG];rfl,by rw[og,hG];rfl,by rw[od,hG];rfl⟩
section
variable {p:bh} {x:aO}
theorem ahU(h:x.kind=1\/x.kind=2):cI p x=⟨p.f,p.batch++[⟨x.r,decide (x.kind=2)⟩],p.told⟩:=by
 rw[cI];rcases h with h|h
 ·rw[if_pos h,h];rfl
 rw[if_neg oM,if_pos h,h];rfl
theorem ahV(h:x.kind=3):cI p x=⟨(bI p.f p.batch).1,[],p.told++gZ (bI p.f p.batch).2⟩:=by
 rw[cI,if_neg oM,if_neg oM,if_pos h];simp only[jC,jQ,gZ,at4]
theorem ahW(h:x.kind=4)(h0:ob p.f x.key x.bits=0):cI p x=⟨p.f,p.batch,p.told++(ir (kV p.f x.key x.bits)++[10])⟩:=by
 rw[cI,if_neg oM,if_neg oM,if_neg oM,if_pos h,mZ,if_neg (fun g=>g h0),ahN h0];simp only[jC,jQ,jR,gM,at4];rfl
theorem ahX(h:x.kind=4)(h0: ¬ob p.f x.key x.bits=0):cI p x=⟨p.f,p.batch,p.told++gZ (ob p.f x.key x.bits)⟩:=by
 rw[cI,if_neg oM,if_neg oM,if_neg oM,if_pos h,mZ,if_pos h0];simp only[jC,jQ,gZ,jR,if_pos h0,at4]
theorem ahY(h:x.kind=5\/x.kind=6)(h0:p.f.aj.ae.aA.length<64):cI p x=⟨⟨{p.f.aj with ae:=Bi p.f.aj.ae x},p.f.table⟩,p.batch,p.told⟩:=by
 rw[cI,if_neg oM,if_neg oM,if_neg oM,if_neg oM,if_pos h,p0,if_neg oM]
theorem ahZ(h:x.kind=7)(hk:aW p.f.aj.ae=true)(h0:(cy (iI p.f.aj.ae [])).2=0):cI p x=⟨(cy (iI p.f.aj.ae [])).1,p.batch,p.told++gZ (cy (iI p.f.aj.ae [])).2⟩:=by
 rw[cI,if_neg oM,if_neg oM,if_neg oM,if_neg oM,if_neg oM,if_pos h,jD,if_neg (fun g=>g (Ic hk).1),if_neg (fun g=>g h0),h0];simp only[jC,jQ,gZ,at4]
theorem ah0(h:x.kind=7)(hk:aW p.f.aj.ae=true)(h0: ¬(cy (iI p.f.aj.ae [])).2=0):cI p x=⟨p.f,p.batch,p.told++gZ (cy (iI p.f.aj.ae [])).2⟩:=by
 rw[cI,if_neg oM,if_neg oM,if_neg oM,if_neg oM,if_neg oM,if_pos h,jD,if_neg (fun g=>g (Ic hk).1),if_pos h0];simp only[jC,jQ,gZ,at4]
theorem ah1(h:x.kind=8)(ht:cS p.f.table=true):cI p x=⟨p.f,p.batch,p.told++BP p.f.table⟩:=by
 rw[cI,if_neg oM,if_neg oM,if_neg oM,if_neg oM,if_neg oM,if_neg oM,if_pos h,Wg ht]
end
theorem Ir{e:Int}(h:Er e):(gZ e).length<=43:=by
 have:=VI (line:=pZ) dDq h;rw[gZ,adr,ad2,alM];omega
theorem Wi: ∀l:List Rt,(rI l).length<=43*l.length
 |[]=>at5 _
 |r::l=>by
  have ih:=Wi l;have h1:=uE r;have h2:rI (r::l)=(ir r++[10])++rI l:=by simp[rI]
  rw[h2];simp only[adr,ad2,alM];omega
theorem Wj: ∀{l:List aO},(∀x∈l,eV x=true)->(lq l).length<=48*l.length
 |[],_=>at5 _
 |x::l,h=>by
  have ih:=Wj (l:=l) fun z hz=>h z (aui _ hz);have h1:=Gt (h x auD);have h2:lq (x::l)=(fJ x++[10])++lq l:=by simp[lq]
  rw[h2];simp only[adr,ad2,alM];omega
end Go.Kb
namespace Go.ax
section
variable {P:Program} {N:cA} {w0:World} {env:Env} {L:List ai} {d:Option Tmp} {ty:TypeId} {ps:String} {af:Array Edge} {K:Value->List ai->Prop}
variable {α:Type} {enc:α->Array Value} {c:Nat} {ys:List α}
theorem Wk{t tx e:TypeId}{b:Nat}{x y:Operand}{yv:Value}{bP:Nat}[ht:dS P t e c bP](hx:ev env x=some (Sv.val ⟨false,b,0,0,0,none⟩))(hy:ev env y=some yv)
  (hs: ∀w,Mem w0 L w->Src P c tx yv 0 [] w) (hk:K (Sv.val ⟨false,b,0,0,0,none⟩) L):
  aO P N w0 env L ⟨d, .call {callee:= .builtin .append,args:= #[x,y],argTypes:= #[t,tx]},ty,ps,af,none⟩ K:=
 rf fun a w ha hw=>by
  obtain⟨i',z,bg,aK,bx,di,nn⟩:=ht.info;have hq:=hs w hw;have sS:=hq.cells;have h1:(Builtin.append_ #[t,tx] ty #[Sv.val ⟨false,b,0,0,0,none⟩,yv]).run P w= .ok (Sv.val ⟨false,b,0,0,0,none⟩) w:=by
   rw[Sv.ik (s:=⟨false,b,0,0,0,none⟩) rfl];subst bx;rcases hq.kind with⟨e',hk⟩|hk<;>simp[Builtin.append_,run_underlying ht.eK,run_underlying hk,sizeOf,typeInfo,bg,hq.len,sS,storeCells]
  refine⟨_,w,L,?_,hw,hk⟩;simp[execOp,ha.ev hx,ha.ev hy,resolve,invoke,builtin,h1,Result.andThen]
theorem Wl{t tx e:TypeId}{b:Nat}{x y:Operand}{yv:Value}{bP:Nat}[ht:dS P t e c bP][he:bp enc c](hx:ev env x=some (Sv.val ⟨false,b,0,0,0,none⟩))(hy:ev env y=some yv)(hc:0<c)
  (hs: ∀w,Mem w0 L w->Src P c tx yv ys.length (aL enc ys) w) (hp:0<ys.length) (hb:ys.length*bP<=140737488355328) (fR:ys.length<=140737488355328)
  (hk: ∀s':Sv,s'.Ok->s'.len=ys.length->K s'.val (own enc c s' ys::L)):
  aO P N w0 env L ⟨d, .call {callee:= .builtin .append,args:= #[x,y],argTypes:= #[t,tx]},ty,ps,af,none⟩ K:=
 rf fun a w ha hw=>by
  obtain⟨i',z,bg,aK,bx,di,nn⟩:=ht.info;have hq:=hs w hw;obtain⟨s',w',h1,h2,h3,h4,-⟩:=JB (i:=0) (s:=Sv.none) (xs:=[]) (ty:=ty) ht hc (Mem.dE enc c (Mem.init w)) rfl hq (by simpa using hb) (by simpa using fR);have e1:(Builtin.append_ #[t,tx] ty #[Sv.val ⟨false,b,0,0,0,none⟩,yv]).run P w=(Builtin.append_ #[t,tx] ty #[Sv.none.val,yv]).run P w:=by
   subst bx di;have iR:Builtin.nextslicecap (0+ys.length) 0*i'.bytes<=281474976710656:=by
    have h2:Builtin.nextslicecap (0+ys.length) 0*i'.bytes<=2*(0+ys.length)*i'.bytes:=auj _ (nextslicecap_le oM);rw[Nat.mul_assoc]at h2;rw[auL]at h2⊢;omega
   have r1:=run_append_grow_src w t tx ty e i' z ht.eK bg aK (some ⟨b,0,none⟩) 0 0 [] (by simp only[Builtin.firstCells,loadCells,Nat.zero_mul,loadCellsFrom];rfl) yv ys.length (aL enc ys) hq oM oM iR;have r2:=run_append_grow_src w t tx ty e i' z ht.eK bg aK none 0 0 [] (run_firstCells_none w.drew _ _ _ _) yv ys.length (aL enc ys) hq oM oM iR;exact r1.trans r2.symm
  refine⟨s'.val,w',own enc c s' ys::L,?_,hw.call (by simpa using h4),hk s' h2 (by simpa using h3)⟩;simp[execOp,ha.ev hx,ha.ev hy,resolve,invoke,builtin,e1,h1,Result.andThen]
end
section
variable {P:Program} {N:cA} {w0:World} {env:Env} {L Lq:List ai} {l:List Oper} {fs ord:List Nat} {mk:Nat->oD} {Q:Exit->Act->World->Prop} {k:Nat} {o:Oper}
theorem NC(K:Value->List ai->Prop)(ho:l[k]? =some o)(h:aO P N w0 env L o K)(hF: ∀e,aO P N w0 env (e::L) o fun v L'=> ∃L1,(∀w,Mem w0 L' w->Mem w0 (e::L1) w)/\K v L1)
  (hk: ∀v L',K v L'->(∀w,Mem w0 L' w->Mem w0 Lq w)/\(∀w,Mem w0 L' w->Mem w0 L w)/\Ln P N w0 l fs mk Q ord (cr env o.dst v) L' Lq) (hC:Cert P N env l fs mk ord) (hg:o.guard=none:=by rfl) (hd:dq N o.dst=true:=by rfl) (hf:fs.contains k=true:=by rfl) (nU:fs.contains (k+2000)=false:=by rfl):Ln P N w0 l fs mk Q (k::ord) env L Lq:=fun a ha=>
 ⟨o,ho,by
  rw[if_pos hf,if_neg (by rw[nU];exact au7)];exact⟨hC.at ha,rT hg,fun w hw=>zb (fun v w' ⟨L',h1,h2⟩=>⟨L',Lq,h1,(hk v L' h2).1,fun _ h=>h,fun _=>(hk v L' h2).2.1,(hk v L' h2).2.2 _ (ha.put hd v)⟩) (h a w ha hw),fun _ e w hw=>zb (fun v w' ⟨L',h1,L1,h2,h3⟩=>⟨L1,Lq,h2 _ h1,(hk v L1 h3).1,fun _ h=>h,fun _=>(hk v L1 h3).2.1,(hk v L1 h3).2.2 _ (ha.put hd v)⟩) (hF e a w ha hw)⟩⟩
section
variable {α:Type} {c:Nat} {d:Option Tmp} {ty:TypeId} {ps:String} {af:Array Edge}
theorem ah2{t e:TypeId}{bP:Nat}(enc:α->Array Value)[ht:dS P t e c bP][he:bp enc c](ho:l[k]? =some ⟨d, .buildSlice t 0 #[],ty,ps,af,none⟩)(hC:Cert P N env l fs mk ord)
  (hk: ∀b,(∀w,Mem w0 (own enc c ⟨false,b,0,0,0,none⟩ []::L) w->Mem w0 Lq w)/\Ln P N w0 l fs mk Q ord (cr env d (Sv.val ⟨false,b,0,0,0,none⟩)) (own enc c ⟨false,b,0,0,0,none⟩ []::L) Lq)
  (hd:dq N d=true:=by rfl) (hf:fs.contains k=true:=by rfl) (nU:fs.contains (k+2000)=false:=by rfl):Ln P N w0 l fs mk Q (k::ord) env L Lq:=
 NC (fun v L'=> ∃b,v=Sv.val ⟨false,b,0,0,0,none⟩/\L'=own enc c ⟨false,b,0,0,0,none⟩ []::L) ho (QB enc fun b=>⟨b,rfl,rfl⟩) (fun e=>QB enc fun b=>⟨_,fun w hw=>hw.perm (List.Perm.swap _ _ _),b,rfl,rfl⟩)
  (fun v L' ⟨b,hv,hL⟩=>by subst hv hL;exact⟨(hk b).1,fun w hw=>hw.sub (auX _ _),(hk b).2⟩) hC rfl hd hf nU
theorem ah3{enc:α->Array Value}{ys:List α}{t tx e:TypeId}{b i:Nat}{x y:Operand}{yv:Value}{bP:Nat}{L0:List ai}[ht:dS P t e c bP][he:bp enc c](ho:l[k]? =some ⟨d, .call {callee:= .builtin .append,args:= #[x,y],argTypes:= #[t,tx]},ty,ps,af,none⟩)
  (hx:ev env x=some (Sv.val ⟨false,b,0,0,0,none⟩)) (hy:ev env y=some yv) (hc:0<c) (hs: ∀w,Mem w0 L w->Src P c tx yv ys.length (aL enc ys) w) (hb:ys.length*bP<=140737488355328) (fR:ys.length<=140737488355328)
  [q:gg L ⟨false,b,0,0,0,none⟩ enc c [] i] [dl:ct L i L0] (hC:Cert P N env l fs mk ord)
  (hk: ∀(s':Sv) (R:List ai),Tr R L->Tr R (own enc c s' ys::L0)->(∀w,Mem w0 R w->Mem w0 Lq w)/\Ln P N w0 l fs mk Q ord (cr env d s'.val) R Lq)
  (hd:dq N d=true:=by rfl) (hf:fs.contains k=true:=by rfl) (nU:fs.contains (k+2000)=false:=by rfl):Ln P N w0 l fs mk Q (k::ord) env L Lq:=by
 have E4: ∀(z:ai) w,Mem w0 (z::L) w->Src P c tx yv ys.length (aL enc ys) w:=fun z w hw=>hs w (hw.sub (auX _ _))
 cases ys with
 |nil=>
  refine NC (fun v L'=>v=Sv.val ⟨false,b,0,0,0,none⟩/\L'=L) ho (Wk hx hy hs ⟨rfl,rfl⟩) (fun z=>Wk hx hy (E4 z) ⟨L,fun _ h=>h,rfl,rfl⟩) (fun v L' ⟨hv,hL⟩=>?_) hC rfl hd hf nU;subst hv hL;obtain⟨h1,h2⟩:=hk ⟨false,b,0,0,0,none⟩ L' Tr.refl (by have:=Tr.front q.h;rwa [dl.h]at this);exact⟨h1,fun _ h=>h,h2⟩
 |cons y0 yr=>
  have hp:0<(y0::yr).length:=Nat.succ_pos _;refine NC (fun v L'=> ∃s':Sv,v=s'.val/\L'=own enc c s' (y0::yr)::L) ho (Wl hx hy hc hs hp hb fR fun s' _ _=>⟨s',rfl,rfl⟩) (fun z=>Wl hx hy hc (E4 z) hp hb fR fun s' _ _=>⟨_,fun w hw=>hw.perm (List.Perm.swap _ _ _),s',rfl,rfl⟩) (fun v L' ⟨s',hv,hL⟩=>?_) hC rfl hd hf nU;subst hv hL;have hdr: ∀w,Mem w0 (own enc c s' (y0::yr)::L) w->Mem w0 L w:=fun w hw=>hw.sub (auX _ _);obtain⟨h1,h2⟩:=hk s' (own enc c s' (y0::yr)::L) (Tr.sub (auX _ _)) (Tr.cons (Tr.sub (by rw[←dl.h];exact List.eraseIdx_sublist _ _)) _);exact⟨h1,hdr,h2⟩
end
end
end Go.ax
namespace Go.Kb
open Go.ax
theorem ND{x:Int}(h0:0<=x)(h1:x<256):((dk x).toNat:Int)=x:=by
 rw[dk,b8,awC h0 h1];simp;omega
theorem BQ{α:Type}{a b:List α}{n:Nat}(h:n=a.length):(a++b).drop n=b:=by subst h;simp
theorem Is{α:Type}{a b:List α}{n:Nat}(h:n=a.length):(a++b).take n=a:=by subst h;simp
theorem Wm{p:PV}{n:Int}(h:mO p n=true): ∃k d:UInt8,∃z:List UInt8,(k.toNat:Int)=p.kind/\(d.toNat:Int)=p.id/\(∀x∈z,x=0)/\
  (dy p n).1=[k,d]++(be p.gen 6++(be p.body.length 2++(p.body++(z++be (pI (j8 p n.toNat)) 4))))/\j8 p n.toNat=[k,d]++(be p.gen 6++(be p.body.length 2++(p.body++z)))/\(dy p n).2=0/\(z.length:Int)=n -14 -p.body.length:=by
 obtain⟨h1,h2,h3,h4,h5,h6⟩:=sa.1 h;have hf:=tn.1 h1;rw[dY,if_pos h1]at h6;refine⟨dk p.kind,dk p.id,List.replicate (n.toNat -4 -10 -p.body.length) 0,ND oM oM,ND h3 oM,fun x hx=>List.eq_of_mem_replicate hx,?_,?_,?_,?_⟩
 ·rw[dy,if_pos h];simp only[j8,at4]
 ·simp only[j8,at4]
 ·rw[dy,if_pos h]
 ·rw[auQ];omega
theorem Eo{p:PV}{n:Int}(h:mO p n=true):((dy p n).1.length:Int)=n:=by
 obtain⟨k,d,z,_,_,_,e,_,_,hz⟩:=Wm h;rw[e];simp only[adr,ad2,alM,jV];omega
theorem NF{p:PV}{n:Int}(h:mO p n=true):cM (dy p n).1=(p,0):=by
 have hl:=Eo h;obtain⟨k,d,z,hk,hd,hz,e,eB,_,rC⟩:=Wm h;obtain⟨h1,h2,h3,h4,h5,h6⟩:=sa.1 h;have hf:=tn.1 h1;have A7:=h6;rw[dY,if_pos h1]at A7;have hn:((dy p n).1.length:Int)=n:=hl;generalize hc:pI (j8 p n.toNat)=C at e;have hC:C<2^32:=by rw[←hc];exact KS _
 generalize hb:(dy p n).1=b at*;have e4:b=j8 p n.toNat++be C 4:=by rw[e,eB];simp only[at4]
 have l4:b.length -4=(j8 p n.toNat).length:=by rw[e4,adr,jV];omega
 have iO:mP b=j8 p n.toNat:=by
  rw[mP,l4,avg,Nat.sub_zero,e4];exact Is rfl
 have HL:de (zl b)=C:=by
  rw[zl,l4];have:b.drop (j8 p n.toNat).length=be C 4:=by rw[e4];exact BQ rfl
  rw[this,aug (by rw[jV];omega),GJ,auJ hC]
 have rF:b.getD 0 0=k:=by rw[e];rfl
 have vd:b.getD 1 0=d:=by rw[e];rfl
 have Aq:b.drop 2=be p.gen 6++(be p.body.length 2++(p.body++(z++be C 4))):=by rw[e];exact BQ rfl
 have Wn:b.drop 8=be p.body.length 2++(p.body++(z++be C 4)):=by
  rw[show(8:Nat)=2+6 from rfl,←av0,Aq];exact BQ (by rw[jV])
 have ah4:b.drop 10=p.body++(z++be C 4):=by
  rw[show(10:Nat)=8+2 from rfl,←av0,Wn];exact BQ (by rw[jV])
 have NG:de ((b.drop 2).take (8 -2))=p.gen:=by
  rw[Aq,Is (by rw[jV]),GJ,auJ (Nat.lt_of_lt_of_eq h5 dDq)]
 have NH:iJ b=p.body.length:=by
  rw[iJ,Wn,Is (by rw[jV]),GJ,auJ oM]
 have Wo:vZ b={p with body:=[]}:=by
  rw[vZ,NG,rF,vd];obtain⟨pk,pi,pg,pb⟩:=p;simp only at hk hd;simp only[hk,hd]
 have ah5:kC b=false:=by
  cases HF:kC b with
  |false=>rfl
  |true=>
   have h9:=Df.1 HF k (by rw[e];simp);rw[h9]at hk;have:((255:UInt8).toNat:Int)=255:=by decide
   omega
 have ah6:pP b=true:=by
  have hm:mO (vZ b) b.length=true:=by
   rw[Wo,hn];exact sa.2 ⟨h1,h2,h3,h4,h5,by rw[dY,if_pos h1];simp only[alM];omega⟩
  rw[pP,hm,NH,hn,Bool.and_true,decide_eq_true_eq];exact h6
 have hzero:xx (oQ b)=true:=by
  refine K5.2 fun x hx=>hz x ?_;have ah7:(mP b).drop (10+iJ b)=z:=by
   rw[iO,NH,eB,←av0];have:([k,d]++(be p.gen 6++(be p.body.length 2++(p.body++z)))).drop 10=p.body++z:=by
    rw[show[k,d]++(be p.gen 6++(be p.body.length 2++(p.body++z)))=([k,d]++be p.gen 6++be p.body.length 2)++(p.body++z) by simp only[at4]];exact BQ (by simp only[adr,ad2,alM,jV])
   rw[this];exact BQ rfl
  rw[oQ,ah7]at hx;exact avU hx
 have ah8:(b.drop 10).take (10+iJ b -10)=p.body:=by
  rw[ah4,NH];exact Is oM
 rw[cM,if_neg (by rw[hn,h1];simp),if_neg (by rw[ah5];simp),if_neg (by rw[HL,iO,hc];exact fun h=>h rfl),if_neg (by rw[ah6];simp),if_neg (by rw[hzero];simp),Wo,ah8]
theorem ah9{x:Int}(h0:0<=x)(h1:x<=65535):((uo (dk (x/256)) (dk x)).toNat:Int)=x:=by
 have e2:((dk x).toNat:Int)=x%256:=by
  rw[dk,b8];simp;omega
 have e1:=ND (x:=x/256) oM oM;rw[JF];omega
theorem Wp: ∀(l:List Int) (i:Nat) (x:Int),l[i]? =some x->(ic l).getD (2*i) 0=dk (x/256)/\(ic l).getD (2*i+1) 0=dk x
 |y::r,0,x,h=>by obtain rfl:y=x:=by simpa using h
                 exact⟨rfl,rfl⟩
 |y::r,i+1,x,h=>by
  have h2:=Wp r i x (by simpa using h);have e:ic (y::r)=dk (y/256)::dk y::ic r:=rfl;rw[e,show 2*(i+1)=2*i+1+1 by omega];exact h2
theorem aia{l:List Int}(h: ∀x∈l,zm x=true):qB (ic l)=l:=by
 refine au6 fun i=>?_;rcases aud i l.length with hi|hi
 ·obtain⟨x,hx⟩: ∃x,l[i]? =some x:=⟨l[i],at2 hi⟩;obtain⟨e1,e2⟩:=Wp l i x hx;have kR:=Dg.1 (h x (atl hx));rw[qB,aua,AV,avw oM,hx,auI,sd,e1,e2,ah9 kR.1 kR.2]
 rw[aub hi,aub (by rw[G0,AV];omega)]
theorem NI{r:RV}{n:Int}(h:pQ r n=true):mO ⟨2,max 0 ((r.at_.length:Int) -1),r.gen,ic r.at_⟩ n=true:=by
 obtain⟨h1,h2,h3,h4⟩:=xz.1 h;have hf:oP n=true:=by
  cases hf:oP n with
  |true=>rfl
  |false=>rw[dY,if_neg (by rw[hf];simp)]at h1;exact absurd rfl h1
 rw[kP]at h3;have hr:dY n=n -16:=by rw[dY,if_pos hf]
 refine sa.2 ⟨hf, .inr rfl,?_,?_,h2,?_⟩
 ·show 0<=max 0 _;omega
 ·show max 0 _<(64:Int);omega
 show((ic r.at_).length:Int)<=_;rw[AV];omega
theorem aib{r:RV}{n:Int}(h:pQ r n=true):bH (da r n).1=(r,0):=by
 have hp:=NF (NI h);have h4:=(xz.1 h).2.2.2;rw[da,if_pos h,bH,hp];have hl:(ic r.at_).length/2=r.at_.length:=by rw[AV];omega
 rw[if_neg (by simp),if_neg (by simp),if_neg,aia h4];simp only[v8,Bool.not_eq_false,af0,decide_eq_true_eq];refine⟨⟨trivial,by rw[AV];omega⟩,?_⟩;rw[hl]
theorem Wq{r:RV}{n:Int}(h:pQ r n=true):((da r n).1.length:Int)=n:=by
 rw[da,if_pos h];exact Eo (NI h)
theorem aic{r:RV}{n:Int}(h:(da r n).2=0):pQ r n=true:=by
 cases hm:pQ r n with
 |true=>rfl
 |false=>rw[da,if_neg (by rw[hm];simp)]at h;cases h
theorem Ws{p:PV}{n:Int}(h:(dy p n).2=0):mO p n=true:=by
 cases hm:mO p n with
 |true=>rfl
 |false=>rw[dy,if_neg (by rw[hm];simp)]at h;cases h
theorem vj{c:CV}{b:Nat}{o:Int}{f:Bool}{B:BV}(hb:b<c.blocks.length)(k:Int):ak {c with ops:=o,off:=f,blocks:=c.blocks.set b B} k=if k.toNat=b then B else ak c k:=by
 simp only[ak,List.getD,au1]
 by_cases h:b=k.toNat
 ·rw[if_pos h,if_pos oM,if_pos h.symm];rfl
 rw[if_neg h,if_neg (fun g=>h g.symm)]
structure Kd(L:List Int)(c d:CV):Prop where
 cm:dV c d
 ok:aW c=true->aW d=true
 iM:d.aA=c.aA
 Iu: ∀b:Int,(ak c b).bad=true->ak d b=ak c b
 on:c.off=false->(∀f∈c.aA,f.cut=false)->d.off=false
 ops:c.ops<=d.ops
 nm: ∀n∈L,n≠0->lz c (n -1)=true->lz d (n -1)=true/\bS d (n -1)=bS c (n -1)
structure Kp(L:List Int)(c d:CV):Prop extends Kd L c d where
 r0: ∀b:Int,b<2->(ak d b).pages=(ak c b).pages/\(ak d b).used=(ak c b).used
theorem Kd.du(L:List Int)(c:CV):Kd L c c:=⟨.du c,id,rfl,fun _ _=>rfl,fun h _=>h,auY _,fun _ _ _ h=>⟨h,rfl⟩⟩
theorem Kp.du(L:List Int)(c:CV):Kp L c c:=⟨.du L c,fun _ _=>⟨rfl,rfl⟩⟩
theorem Kd.trans{L:List Int}{c d e:CV}(h:Kd L c d)(g:Kd L d e):Kd L c e where
 cm:=h.cm.trans g.cm
 ok:=fun k=>g.ok (h.ok k)
 iM:=g.iM.trans h.iM
 Iu:=fun b hb=>by
  have h1:=h.Iu b hb;rw[←h1]at hb;exact(g.Iu b hb).trans h1
 on:=fun h1 h2=>g.on (h.on h1 h2) (by rw[h.iM];exact h2)
 ops:=Int.le_trans h.ops g.ops
 nm:=fun n hn h0 hp=>by
  obtain⟨h1,h2⟩:=h.nm n hn h0 hp;obtain⟨g1,g2⟩:=g.nm n hn h0 h1;exact⟨g1,g2.trans h2⟩
theorem Kp.trans{L:List Int}{c d e:CV}(h:Kp L c d)(g:Kp L d e):Kp L c e:=
 ⟨h.toKd.trans g.toKd,fun b hb=>⟨(g.r0 b hb).1.trans (h.r0 b hb).1,(g.r0 b hb).2.trans (h.r0 b hb).2⟩⟩
theorem Kd.sub{L M:List Int}{c d:CV}(h:Kd L c d)(hs: ∀n∈M,n∈L):Kd M c d:={h with nm:=fun n hn=>h.nm n (hs n hn)}
theorem Kp.sub{L M:List Int}{c d:CV}(h:Kp L c d)(hs: ∀n∈M,n∈L):Kp M c d:=⟨h.toKd.sub hs,h.r0⟩
theorem NJ{L:List Int}{c:CV}{b:Int}{o:Int}{f:Bool}{B:BV}(hh:iw c b=true)(hk:aW c=true->aW {c with ops:=o,off:=f,blocks:=c.blocks.set b.toNat B}=true)(aid:(ak c b).bad=true->B=ak c b)
  (fY:c.off=false->(∀f∈c.aA,f.cut=false)->f=false) (ho:c.ops<=o)
  (hn: ∀n∈L,n≠0->lz c (n -1)=true->(n -1)/c.pages=b->(n -1)%c.pages<B.used/\B.pages.getD ((n -1)%c.pages).toNat []=(ak c b).pages.getD ((n -1)%c.pages).toNat []):
  Kd L c {c with ops:=o,off:=f,blocks:=c.blocks.set b.toNat B} where
 cm:=⟨rfl,rfl,by simp⟩
 ok:=hk
 iM:=rfl
 Iu:=fun k hb=>by
  obtain⟨_,h2,h3⟩:=iz.1 hh;rw[vj oM];split
  ·
   rename_i e;have e2:ak c k=ak c b:=by simp only[ak,e]
   rw[e2]at hb⊢;exact aid hb
  ·rfl
 on:=fY
 ops:=ho
 nm:=fun n hm h0 hp=>by
  obtain⟨_,h2,h3⟩:=iz.1 hh;obtain⟨p1,p2,p3⟩:=nr.1 hp;have e:=vj (c:=c) (o:=o) (f:=f) (B:=B) (show b.toNat<c.blocks.length by omega) ((n -1)/c.pages)
  by_cases h:(n -1)/c.pages=b
  ·
   rw[h,if_pos rfl]at e;obtain⟨g1,g2⟩:=hn n hm h0 hp h;refine⟨nr.2 ⟨p1,by simpa using p2,?_⟩,?_⟩
   ·show _<(ak _ ((n -1)/c.pages)).used;rw[h,e];exact g1
   ·show(ak _ ((n -1)/c.pages)).pages.getD _ []=(ak c ((n -1)/c.pages)).pages.getD _ [];rw[h,e];exact g2
  ·
   rw[if_neg oM]at e;refine⟨nr.2 ⟨p1,by simpa using p2,?_⟩,?_⟩
   ·show _<(ak _ ((n -1)/c.pages)).used;rw[e];exact p3
   ·show(ak _ ((n -1)/c.pages)).pages.getD _ []=(ak c ((n -1)/c.pages)).pages.getD _ [];rw[e]
theorem Kd.roots{L:List Int}{c:CV}{b:Int}{o:Int}{f:Bool}{B:BV}(hh:iw c b=true)(h2:2<=b)(h:Kd L c {c with ops:=o,off:=f,blocks:=c.blocks.set b.toNat B}):Kp L c {c with ops:=o,off:=f,blocks:=c.blocks.set b.toNat B}:=
 ⟨h,fun k hk=>by
  obtain⟨_,h3,h4⟩:=iz.1 hh;rw[vj oM,if_neg oM];exact⟨rfl,rfl⟩⟩
theorem Wt{c:CV}(h: ∀f∈c.aA,f.cut=false):((bt c).2&&(bt c).1.cut)=false:=by
 rw[bt]
 cases hf:c.aA.find? fun f=>decide (f.op=c.ops)with
 |none=>rfl
 |some x=>simp only[h x (awk hf),awj]
theorem aie{L:List Int}{c:CV}{b:Int}{p:List UInt8}:Kd L c (gN c b (ak c b).used p):=by
 by_cases h:oO c b (ak c b).used p=true/\c.off=false/\(ak c b).bad=false/\(ak c b).used=(ak c b).used
 ·have e:gN c b (ak c b).used p=iU c b (ak c b).used p:=if_pos h;have hk:=Lj (c:=c) (b:=b) (g:=(ak c b).used) (p:=p);rw[e]at hk;obtain⟨h1,h2,h3,_⟩:=h;obtain⟨j1,j2,j3,j4,j5⟩:=j7.1 h1;rw[e,iU];refine NJ j1 hk (fun g=>by rw[h3]at g;cases g) (fun _ g=>Wt g) oM fun n _ _ hp hb=>?_;obtain⟨p1,p2,p3⟩:=nr.1 hp;rw[hb]at p3;have h0:0<=(n -1)%c.pages:=av4 _ oM;refine⟨by simp only;omega,?_⟩;simp only[List.getD];rw[auF oM]
 rw[gN,if_neg h];exact .du L c
theorem aif{L:List Int}{c:CV}{b:Int}:Kd L c (me c b):=by
 by_cases h:qA c b=0
 ·
  have hk:=SE (c:=c) (b:=b);rw[me,if_pos h]at hk⊢;have hh:iw c b=true:=by
   cases hq:iw c b with
   |true=>rfl
   |false=>rw[qA,if_neg (by rw[hq];simp)]at h;cases h
  refine NJ (o:=c.ops) (f:=c.off) hh hk (fun g=>?_) (fun g _=>g) (auY _) fun n _ _ hp hb=>?_
  ·cases hB:ak c b with|mk a1 a2 a3 a4=>rw[hB]at g;simp only at g;rw[g]
  obtain⟨p1,p2,p3⟩:=nr.1 hp;rw[hb]at p3;exact⟨p3,rfl⟩
 rw[me,if_neg h];exact .du L c
theorem Wu{c:CV}{b k:Int}:(ak (me c b) k).pages=(ak c k).pages/\(ak (me c b) k).used=(ak c k).used:=by
 rw[me];split
 ·
  rename_i h;have hh:iw c b=true:=by
   cases hq:iw c b with
   |true=>rfl
   |false=>rw[qA,if_neg (by rw[hq];simp)]at h;cases h
  obtain⟨_,h3,h4⟩:=iz.1 hh;have e:=vj (c:=c) (o:=c.ops) (f:=c.off) (B:={ak c b with bad:=true}) (show b.toNat<c.blocks.length by omega) k
  rw[e];split
  ·
   rename_i e2;have e3:ak c k=ak c b:=by simp only[ak,e2]
   rw[e3];exact⟨rfl,rfl⟩
  exact⟨rfl,rfl⟩
 exact⟨rfl,rfl⟩
theorem Ep{L:List Int}{c:CV}{b e:Int}:Kp L c (iW c b e):=by
 rw[iW];split
 ·exact⟨aif,fun k _=>Wu⟩
 exact .du L c
theorem Iv{L:List Int}{c:CV}{b:Int}{p:List UInt8}:Kd L c (bB c b p):=aie.trans Ep.toKd
theorem Ww{c:CV}{b k g:Int}{p:List UInt8}(h:k.toNat≠b.toNat):ak (gN c b g p) k=ak c k:=by
 rw[gN];split
 ·rename_i hk;obtain⟨_,h3,h4⟩:=iz.1 (j7.1 hk.1).1;rw[iU,vj oM,if_neg h]
 rfl
theorem Iw{L:List Int}{c:CV}{b:Int}{p:List UInt8}(h2:2<=b):Kp L c (bB c b p):=
 ⟨Iv,fun k hk=>by
  have h1:=(Ep (L:=L) (c:=gN c b (ak c b).used p) (b:=b) (e:=bC c b p)).r0 k hk;rw[bB,h1.1,h1.2,Ww oM];exact⟨rfl,rfl⟩⟩
def k9(L:List Int)(c:CV)(b:Int):Prop:= ∀n∈L,n≠0->(n -1)/c.pages≠b
theorem Wx{L:List Int}{c:CV}{b:Int}(hd: ∀n∈L,n≠0->lz c (n -1)=true->(n -1)/c.pages≠b):Kd L c (gv c b):=by
 by_cases h:pM c b=true/\c.off=false/\(ak c b).bad=false
 ·have hk:=Lk (c:=c) (b:=b);rw[gv,if_pos h]at hk⊢;obtain⟨h1,h2,h3⟩:=h;have hh:=(qz.1 h1).1;rw[ly]at hk⊢;exact NJ hh hk (fun g=>by rw[h3]at g;cases g) (fun _ g=>Wt g) oM fun n hn h0 hp hb=>absurd hb (hd n hn h0 hp)
 rw[gv,if_neg h];exact .du L c
theorem aih{L:List Int}{c:CV}{b:Int}(hd:k9 L c b):Kd L c (gv c b):=Wx fun n hn h0 _=>hd n hn h0
theorem aii{L:List Int}{c:CV}{b:Int}(hb:b<2):Kd L c (dz c b):=(Wx fun n _ _ hp=>by have:=(nr.1 hp).1;omega).trans Ep.toKd
theorem aij{L:List Int}{c:CV}{b:Int}(hd:k9 L c b):Kd L c (dz c b):=(aih hd).trans Ep.toKd
theorem BR{c:CV}{b k:Int}(h:k.toNat≠b.toNat):ak (gv c b) k=ak c k:=by
 rw[gv];split
 ·rename_i hk;obtain⟨_,h3,h4⟩:=iz.1 (qz.1 hk.1).1;rw[ly,vj oM,if_neg h]
 rfl
theorem aik{L:List Int}{c:CV}{b:Int}(h2:2<=b)(hd:k9 L c b):Kp L c (dz c b):=
 ⟨aij hd,fun k hk=>by
  have h1:=(Ep (L:=L) (c:=gv c b) (b:=b) (e:=ei c b)).r0 k hk;rw[dz,h1.1,h1.2,BR oM];exact⟨rfl,rfl⟩⟩
theorem k9.cm{L:List Int}{c d:CV}{b:Int}(h:k9 L c b)(g:dV c d):k9 L d b:=fun n hn h0=>by rw[g.pages];exact h n hn h0
theorem Wz{L:List Int}: ∀(n:Nat) {c:CV} {b:Int},2<=b->k9 L c b->Kp L c (fc n c b).1
 |0,c,b,h2,hd=>aik h2 hd
 |n+1,c,b,h2,hd=>by
  rw[fc];split
  ·exact Iw h2
  exact(Iw h2).trans (Wz n h2 (hd.cm (iY _ _ _)))
theorem zR{L:List Int}{c:CV}{b:Int}(h2:2<=b)(hd:k9 L c b):Kp L c (cJ c b).1:=Wz _ h2 hd
theorem ail{c:CV}{b g:Int}{p:List UInt8}(h:kA c b g p=7):(gN c b g p).off=true:=by
 rw[kA]at h
 by_cases h1:oO c b g p=true
 ·
  rw[if_pos h1]at h
  by_cases h2:c.off=true
  ·rw[gN,if_neg (fun k=>by rw[h2]at k;cases k.2.1)];exact h2
  rw[if_neg h2]at h
  by_cases h3:(ak c b).bad=true\/g≠(ak c b).used
  ·rw[if_pos h3]at h;cases h
  rw[if_neg h3]at h
  by_cases h4:(bt c).2=true
  ·
   rw[if_pos h4,mc]at h;have h5:(bt c).1.cut=true:=by
    cases hc:(bt c).1.cut with
    |true=>rfl
    |false=>rw[if_neg (by rw[hc];simp)]at h;cases h
   have BE:(ak c b).bad=false:=by
    cases hb:(ak c b).bad with
    |true=>exact absurd (.inl hb) h3
    |false=>rfl
   rw[gN,if_pos ⟨h1,by simpa using h2,BE,aut fun k=>h3 (.inr k)⟩,iU,h4,h5];rfl
  rw[if_neg h4]at h;cases h
 rw[if_neg h1]at h;cases h
theorem WA(c:CV)(b e:Int):(iW c b e).off=c.off:=by
 rw[iW];split
 ·rw[me];split<;>rfl
 rfl
theorem Ix{c:CV}{b:Int}{p:List UInt8}(h:bC c b p=7):(bB c b p).off=true:=by rw[bB,WA];exact ail h
theorem WB{c:CV}{b:Int}(h:ei c b=7):(dz c b).off=true:=by
 rw[dz,WA];rw[ei]at h
 by_cases h1:pM c b=true
 ·
  rw[if_pos h1]at h
  by_cases h2:c.off=true
  ·rw[gv,if_neg (fun k=>by rw[h2]at k;cases k.2.1)];exact h2
  rw[if_neg h2]at h
  by_cases h3:(ak c b).bad=true
  ·rw[if_pos h3]at h;cases h
  rw[if_neg h3]at h
  by_cases h4:(bt c).2=true
  ·
   rw[if_pos h4,mc]at h;have h5:(bt c).1.cut=true:=by
    cases hc:(bt c).1.cut with
    |true=>rfl
    |false=>rw[if_neg (by rw[hc];simp)]at h;cases h
   rw[gv,if_pos ⟨h1,by simpa using h2,by simpa using h3⟩,ly,h4,h5];rfl
  rw[if_neg h4]at h;cases h
 rw[if_neg h1]at h;cases h
theorem WC: ∀(n:Nat) {c:CV} {b:Int},(fc n c b).2=7->(fc n c b).1.off=true
 |0,c,b,h=>WB h
 |n+1,c,b,h=>by
  rw[fc]at h⊢
  by_cases h0:bC c b (iX c)≠0
  ·rw[if_pos h0]at h⊢;exact Ix h
  rw[if_neg h0]at h⊢;exact WC n h
theorem Es{c:CV}{b:Int}(h:(cJ c b).2=7):(cJ c b).1.off=true:=WC _ h
def Pl(c:CV)(a:List Int):Prop:=(∀(i:Nat) (y:Int),a[i]? =some y->y≠0->oR c (i:Int) y=true)/\ ∀(i j:Nat) (y:Int),a[i]? =some y->a[j]? =some y->y≠0->i=j
theorem NK{a:List Int}{i:Nat}{y:Int}:(a.take i).contains y=true↔ ∃j,j<i/\a[j]? =some y:=by
 rw[avl,List.mem_take_iff_getElem];constructor
 ·rintro⟨j,hj,e⟩;exact⟨j,oM,by rw[at2 oM,e]⟩
 rintro⟨j,hj,e⟩;obtain⟨hl,e2⟩:=zz.1 e;exact⟨j,oM,e2⟩
theorem WD{c:CV}{a:List Int}:wa c a=true↔Pl c a:=by
 rw[Dh];constructor
 ·
  intro h;have hp: ∀(i:Nat) (y:Int),a[i]? =some y->y≠0->(a.take i).contains y=false/\oR c (i:Int) y=true:=fun i y hy h0=>by
   have hi:=(zz.1 hy).1;have h1:=h i hi;rw[Td (qC hy),decide_eq_false h0,awP,af0,au5]at h1;exact h1
  refine⟨fun i y hy h0=>(hp i y hy h0).2,fun i j y hi hj h0=>?_⟩;rcases Nat.lt_trichotomy i j with hl|hl|hl
  ·have:=(hp j y hj h0).1;rw[NK.2 ⟨i,hl,hi⟩]at this;cases this
  ·exact hl
  have:=(hp i y hi h0).1;rw[NK.2 ⟨j,hl,hj⟩]at this;cases this
 rintro⟨h1,h2⟩ i hi;have hy:=at2 hi;rw[Td (qC hy)]
 by_cases h0:a[i]=0
 ·rw[decide_eq_true h0];rfl
 rw[h1 i _ hy h0,Bool.and_true,avc];right
 cases hc:(a.take i).contains a[i]with
 |false=>rfl
 |true=>
  obtain⟨j,hj,e⟩:=NK.1 hc;have:=h2 i j _ hy e h0;omega
theorem Et{c:CV}{i n:Int}(h:oR c i n=true):lz c (n -1)=true/\(cM (bS c (n -1))).2=0/\(cM (bS c (n -1))).1.kind=1/\(cM (bS c (n -1))).1.id=i:=by
 rw[oR,af0,G1]at h;simp only[af0,decide_eq_true_eq]at h;exact⟨h.1,h.2.1.1,h.2.1.2,h.2.2⟩
theorem aim{c:CV}{i n:Int}{p:PV}(h:lz c (n -1)=true)(h2:cM (bS c (n -1))=(p,0))(hk:p.kind=1)(hi:p.id=i):oR c i n=true:=by
 rw[oR,h,h2,G1];simp[hk,hi]
theorem Pl.kd{c d:CV}{a L:List Int}(h:Pl c a)(k:Kd L c d)(hs: ∀n∈a,n∈L):Pl d a:=
 ⟨fun i y hy h0=>by
  have h1:=h.1 i y hy h0;obtain⟨g1,g2⟩:=k.nm y (hs y (atl hy)) h0 (Et h1).1;rw[oR,g1,g2];rw[oR,(Et h1).1]at h1;exact h1,h.2⟩
theorem Iy{c d:CV}{a L:List Int}(h:Pl c a)(k:Kd L c d)(hs: ∀n∈a,n∈L):a.map (eW d)=a.map (eW c):=by
 refine avf fun y hy=>?_
 by_cases h0:y=0
 ·rw[h0];rfl
 obtain⟨i,hi⟩:=aul hy;obtain⟨_,g2⟩:=k.nm y (hs y hy) h0 (Et (h.1 i y hi h0)).1;rw[eW,eW,jw,jw,g2]
theorem Pl.place{c:CV}{a:List Int}(h:Pl c a){n:Int}(hn:n∈a)(h0:n≠0):lz c (n -1)=true:=by
 obtain⟨i,hi⟩:=aul hn;exact(Et (h.1 i n hi h0)).1
structure fw(x:VV):Prop where
 bears:gH x.ae=true
 roots:(bZ x.ae).2.2=0
 used:(bZ x.ae).1%x.ae.pages<(ak x.ae ((bZ x.ae).1/x.ae.pages)).used
 pl:Pl x.ae x.at_
 at_:(bZ x.ae).2.1.at_=x.at_
 gen:(bZ x.ae).2.1.gen=x.gen
 last:(bZ x.ae).1/x.ae.pages=x.last
theorem Eu{x:VV}:mQ x=true↔fw x:=by
 rw[ad4,af0];constructor
 ·
  rintro⟨h1,h2⟩;simp only[af0,decide_eq_true_eq]at h2;obtain⟨⟨⟨g1,g2⟩,g3⟩,g4⟩:=h2;rw[wh]at g1 g2 g3 g4
  by_cases k1:(bZ x.ae).2.2≠0
  ·rw[if_pos k1]at g1;exact absurd g1 k1
  rw[if_neg k1]at g1 g2 g3 g4
  by_cases k2:nt x.ae=false
  ·rw[if_pos k2]at g1;cases g1
  rw[if_neg k2]at g2 g3 g4;have NL:nt x.ae=true:=by simpa using k2
  rw[nt,af0,decide_eq_true_eq]at NL;refine⟨h1,by simpa using k1,NL.1,?_,g2.symm,g3.symm,g4.symm⟩;rw[g2];exact WD.1 NL.2
 intro h;refine⟨h.bears,?_⟩;have hl:nt x.ae=true:=by
  rw[nt,af0,decide_eq_true_eq];exact⟨h.used,by rw[h.at_];exact WD.2 h.pl⟩
 rw[wh,if_neg (fun g=>g h.roots),if_neg (by rw[hl];simp)];simp only[h.at_,h.gen,h.last,decide_true,avE]
theorem ain{L:List Int}{c d:CV}(k:Kp L c d):bZ d=bZ c:=by
 rw[bZ,bZ,(k.r0 0 dDq).1,(k.r0 1 dDq).1]
theorem aio{L:List Int}{c d:CV}(k:Kd L c d)(h:gH c=true):gH d=true:=by
 obtain⟨h1,h2,h3,h4⟩:=fN.1 h;exact fN.2 ⟨k.ok h1,by rw[k.cm.len];exact h2,by rw[k.cm.pages];exact h3,by rw[k.cm.size];exact h4⟩
theorem Ev{c:CV}(h:gH c=true):((ak c 0).pages.length:Int)=c.pages/\((ak c 1).pages.length:Int)=c.pages:=by
 obtain⟨h1,h2,h3,h4⟩:=fN.1 h;exact⟨(fy.1 (tu h1 dDq oM)).1,(fy.1 (tu h1 dDq oM)).1⟩
theorem WE{c:CV}(h:gH c=true):0<=(bZ c).1/\(bZ c).1<2*c.pages:=by
 obtain⟨h1,h2⟩:=Ev h;obtain⟨_,_,h3,_⟩:=fN.1 h;have:=La (l:=(ak c 0).pages++(ak c 1).pages) (by rw[adr];omega);rw[adr]at this;rw[bZ];omega
theorem fw.kp{x:VV}(h:fw x){d:CV}(k:Kp x.at_ x.ae d):fw {x with ae:=d}:=by
 have e:=ain k;have ep:=k.cm.pages;have hr:=WE h.bears;have hp:0<x.ae.pages:=by have:=(fN.1 h.bears).2.2.1;omega
 exact⟨aio k.toKd h.bears,by show(bZ d).2.2=0;rw[e];exact h.roots,by
  show(bZ d).1%d.pages<(ak d ((bZ d).1/d.pages)).used;rw[e,ep,(k.r0 _ (Int.ediv_lt_of_lt_mul hp hr.2)).2];exact h.used,h.pl.kd k.toKd fun _ g=>g,by show(bZ d).2.1.at_=_;rw[e];exact h.at_,by show(bZ d).2.1.gen=_;rw[e];exact h.gen,by show(bZ d).1/d.pages=_;rw[e,ep];exact h.last⟩
theorem WG{l:List Int}{n:Int}(h0:n≠0): ∀k,n∈l.take k-> ∃j,j<k/\j<l.length/\l.getD j 0=n/\nZ l j=true
 |0,h=>by simp at h
 |k+1,h=>by
  by_cases hk:n∈l.take k
  ·obtain⟨j,h1,h2⟩:=WG h0 k hk;exact⟨j,oM,h2⟩
  rw[at6,at7]at h;rcases h with h|h
  ·exact absurd h hk
  have hx:l[k]? =some n:=by simpa[Option.mem_toList]using h
  refine⟨k,oM,(zz.1 hx).1,qC hx,?_⟩;rw[nZ,qC hx,decide_eq_true h0,au2,au5]
  cases hc:(l.take k).contains n with
  |false=>rfl
  |true=>exact absurd (avl.1 hc) hk
theorem WH{pages:Int}{l:List Int}{i:Nat}(h:kD pages l l.length i=0): ∀n∈l,n≠0->(n -1)/pages≠(i:Int)+2:=by
 intro n hn h0 hb;obtain⟨j,h1,h2,h3,h4⟩:=WG h0 l.length (by rw[aup];exact hn);rw[kD,aun]at h;have hm:j∈(List.range l.length).filter fun j=>nZ l j&&decide ((l.getD j 0 -1)/pages=(i:Int)+2):=auC.2 ⟨List.mem_range.2 h2,by rw[h4,h3,decide_eq_true hb];rfl⟩;rw[h]at hm;cases hm
theorem aip{c:CV}{fl:List Int}{i:Nat}{x:az}(h:(av c fl)[i]? =some x)(hb:x.bad=false)(hl:x.live=0):k9 fl c ((i:Int)+2):=by
 have hi:=(zz.1 h).1;rw[mh]at hi;rw[Lo hi]at h;have e:=at1 h;intro n hn h0;refine WH (l:=fl) ?_ n hn h0;rw[pR]at e;split at e
 ·rw[←e]at hb;cases hb
 rw[←e]at hl;simp only[uJ]at hl;omega
def sK(c:CV)(fl:List Int)(l:List az):Prop:= ∀(i:Nat) (x:az),l[i]? =some x->x.bad=false->x.live=0->k9 fl c ((i:Int)+2)
theorem Iz(c:CV)(fl:List Int):sK c fl (av c fl):=fun _ _ h hb hl=>aip h hb hl
theorem sK.set{c:CV}{fl:List Int}{l:List az}(h:sK c fl l)(i:Nat):sK c fl (l.set i bc):=by
 intro j x hx hb hl;rw[au1]at hx;split at hx
 ·
  split at hx
  ·obtain rfl:=at1 hx;cases hb
  cases hx
 exact h j x hx hb hl
theorem IA{c:CV}{fl:List Int}{l:List az}(h:sK c fl l){R:az->Bool}{p:Int}(hd:(fO (cl R l) p).2=true):k9 fl c ((fO (cl R l) p).1+2)/\0<=(fO (cl R l) p).1:=by
 obtain⟨x,hx,h1,_,h3,h4,_⟩:=pT (fun x h=>(mj h).1) hd;have:=h _ x hx h1 (mj h3).2.1;refine⟨?_,h4⟩;change 0<=(fO (cl R l) p).1 at h4;change k9 fl c ((((fO (cl R l) p).1.toNat:Nat):Int)+2)at this;rwa [auU h4]at this
theorem WI{c:CV}{fl:List Int}(hk:aW c=true)(h2:3<=c.blocks.length)(hi:dW (av c fl)≠0)(hb: ¬(kF c fl).2=true):(fO (cl gO (av c fl)) c.pages).2=true:=by
 have hd:=fe hk;have dI:=mh c fl;have hw:mS (cl gO (av c fl)) c.pages=true:=tt.2 ⟨by rw[xE];omega,by rw[xE];omega,oM,oM,fun x hx=>by
  obtain⟨i,hi⟩:=aul hx;obtain⟨y,hy,rfl⟩:=Lp hi;have t:=uP hk (atl hy);have pS:cT=1099511627776:=rfl;unfold iK;split
  ·exact sh.2 (by simp only[bc];omega)
  rename_i hn;have hl:y.live=0:=by
   cases hR:gO y with
   |true=>simpa[gO]using hR
   |false=>exact absurd (.inr hR) hn
  exact sh.2 ⟨oM,by have:=t.Dp;omega,t.A4,t.SQ,t.SR⟩⟩
 have sj:(kF c fl).2=false:=by simpa using hb
 have Lr:=uL hw (show(gw _ _ _ _).2=false from sj);have xF:0<((av c fl).filter fun x=> !x.bad&&decide (x.live=0)).length:=by rw[dW]at hi;omega
 obtain⟨x,hx⟩:=List.exists_mem_of_length_pos xF;obtain⟨pU,kR⟩:=auC.1 hx;simp only[af0,au5,decide_eq_true_eq]at kR;have xG:iK gO x=x:=by
  unfold iK;rw[if_neg];rintro(g|g)
  ·rw[kR.1]at g;cases g
  rw[show gO x=true by simp[gO,kR.2]]at g;cases g
 have we:x∈cl gO (av c fl):=by
  rw[←xG];exact auq pU
 have Dq:=Lr x we;have t:=uP hk pU;have nv:mR x=true:=by
  have: ¬x.used<c.pages:=fun h=>by
   rw[nu,kR.1,decide_eq_true h]at Dq;cases Dq
  simp only[mR,kR.1,avZ,au2,af0,decide_eq_true_eq];omega
 cases hq:(fO (cl gO (av c fl)) c.pages).2 with
 |true=>rfl
 |false=>have:=uL hw hq x we;rw[nv]at this;cases this
theorem aiq{c:CV}{fl:List Int}{aF:Bool}(hk:aW c=true)(h2:3<=c.blocks.length):Kp fl c (bj c fl aF).1/\((bj c fl aF).2.2=7->(bj c fl aF).1.off=true):=by
 rw[bj]
 by_cases h1:(mT c fl).2=true
 ·rw[if_pos h1];exact⟨.du _ _,fun h=>absurd (show(0:Int)=7 from h) dDq⟩
 rw[if_neg h1]
 by_cases h3:dW (av c fl)=0\/(dW (av c fl)=1/\aF=false)
 ·rw[if_pos h3];exact⟨.du _ _,fun h=>absurd (show(5:Int)=7 from h) dDq⟩
 rw[if_neg h3]
 by_cases h4:(kF c fl).2=true
 ·rw[if_pos h4];exact⟨.du _ _,fun h=>absurd (show(0:Int)=7 from h) dDq⟩
 rw[if_neg h4];obtain⟨d1,d2⟩:=IA (Iz c fl) (WI hk h2 (fun e=>h3 (.inl e)) h4);exact⟨zR (by show 2<=jN c fl+2;change 0<=jN c fl at d2;omega) d1,Es⟩
theorem IB{L:List Int}{c:CV}{b:Int}{p:List UInt8}(h2:2<=b)(h:bC c b p=0):lz (bB c b p) (b*c.pages+(ak c b).used)=true/\bS (bB c b p) (b*c.pages+(ak c b).used)=p/\
  0<=b*c.pages+(ak c b).used/\lz c (b*c.pages+(ak c b).used)=false:=by
 obtain⟨h1,h3,h4,h5,e⟩:=qD h;obtain⟨j1,j2,j3,j4,j5⟩:=j7.1 h1;obtain⟨k1,k2,k3⟩:=iz.1 j1;have hd:(b*c.pages+(ak c b).used)/c.pages=b:=by
  rw[avT,avh _ _ oM,auZ j2 j3,avY]
 have hm:(b*c.pages+(ak c b).used)%c.pages=(ak c b).used:=by
  rw[avT,awv,awC j2 j3]
 have cf:=(fy.1 (rp j1)).1;rw[e];refine⟨nr.2 ?_,?_,?_,?_⟩
 ·show 2<=(b*c.pages+(ak c b).used)/c.pages/\(b*c.pages+(ak c b).used)/c.pages<((c.blocks.set b.toNat _).length:Int)/\(b*c.pages+(ak c b).used)%c.pages<(ak _ ((b*c.pages+(ak c b).used)/c.pages)).used;rw[hd,hm,iU,ru j1,auA];exact⟨h2,k3,by simp only;omega⟩
 ·show(ak _ ((b*c.pages+(ak c b).used)/c.pages)).pages.getD ((b*c.pages+(ak c b).used)%c.pages).toNat []=p;rw[hd,hm,iU,ru j1];simp only[List.getD];rw[auk oM,pL,h5];rfl
 ·have:0<=b*c.pages:=avG oM oM;omega
 ·
  cases hq:lz c (b*c.pages+(ak c b).used)with
  |false=>rfl
  |true=>
   obtain⟨p1,p2,p3⟩:=nr.1 hq;rw[hd,hm]at p3;omega
structure Ew(fl:List Int)(c d:CV)(n:Int)(p:List UInt8):Prop where
 pos:1<=n
 ok:lz d (n -1)=true
 pg:bS d (n -1)=p
 new: ∀m∈fl,m≠0->lz c (m -1)=true->m≠n
theorem NM: ∀(n:Nat) {c:CV} {fl:List Int} {aF:Bool} {b:List UInt8},aW c=true->3<=c.blocks.length->(cT -c.ops).toNat<n->
  Kp fl c (ie n c fl aF b).1/\((ie n c fl aF b).2.2=0->Ew fl c (ie n c fl aF b).1 (ie n c fl aF b).2.1 b)/\((ie n c fl aF b).2.2=7->(ie n c fl aF b).1.off=true)
 |0,c,fl,aF,b,_,_,hn=>by omega
 |n+1,c,fl,aF,b,hk,h2,hn=>by
  obtain⟨f1,f2,f3,f4,f5⟩:=Ls (fl:=fl) (aF:=aF) hk h2;obtain⟨k1,k2⟩:=aiq (fl:=fl) (aF:=aF) hk h2;rw[ie]
  by_cases h0:(bj c fl aF).2.2=0
  ·
   rw[if_pos h0];obtain⟨g1,g2,g3⟩:=f4 h0;have kp:=k1.trans (Iw (c:=(bj c fl aF).1) (p:=b) (L:=fl) g1)
   by_cases h1:bC (bj c fl aF).1 (bj c fl aF).2.1 b=0
   ·
    rw[if_pos h1];refine⟨kp,fun _=>?_,fun h=>absurd (show(0:Int)=7 from h) dDq⟩;obtain⟨q1,q2,q3,q4⟩:=IB (L:=fl) g1 h1;rw[f2.pages]at q1 q2 q3 q4;have e:(bj c fl aF).2.1*c.pages+(ak (bj c fl aF).1 (bj c fl aF).2.1).used+1 -1=(bj c fl aF).2.1*c.pages+(ak (bj c fl aF).1 (bj c fl aF).2.1).used:=by omega
    refine⟨by simp only;omega,by simp only;rw[e];exact q1,by simp only;rw[e];exact q2,fun m hm h0 hp he=>?_⟩;have:=(k1.nm m hm h0 hp).1;simp only at he;rw[he,e,q4]at this;cases this
   ·
    rw[if_neg h1]
    by_cases h9:bC (bj c fl aF).1 (bj c fl aF).2.1 b≠9
    ·rw[if_pos h9];exact⟨kp,fun h=>absurd h h1,Ix⟩
    ·rw[if_neg h9];have ho:=uM g3 (p:=b) (.inl (by simpa using h9));have bJ:=mg f1 (bj c fl aF).2.1 b;have hl:=f2.trans (iY (bj c fl aF).1 (bj c fl aF).2.1 b);have hle:=tw bJ;obtain⟨t1,t2,t3⟩:=NM n (fl:=fl) (aF:=aF) (b:=b) bJ (by rw[hl.len];exact h2) oM;refine⟨kp.trans t1,fun h=>?_,t3⟩;have g:=t2 h;exact⟨g.pos,g.ok,g.pg,fun m hm h0 hp=>g.new m hm h0 (kp.nm m hm h0 hp).1⟩
  ·
   rw[if_neg h0]
   by_cases h9:(bj c fl aF).2.2≠9
   ·rw[if_pos h9];exact⟨k1,fun h=>absurd h h0,k2⟩
   ·rw[if_neg h9];have ho:=f5 (by simpa using h9);have hle:=tw f1;obtain⟨t1,t2,t3⟩:=NM n (fl:=fl) (aF:=aF) (b:=b) f1 (by rw[f2.len];exact h2) oM;refine⟨k1.trans t1,fun h=>?_,t3⟩;have g:=t2 h;exact⟨g.pos,g.ok,g.pg,fun m hm h0 hp=>g.new m hm h0 (k1.nm m hm h0 hp).1⟩
theorem WJ{c:CV}{fl:List Int}{aF:Bool}{p:PV}(hk:aW c=true)(h2:3<=c.blocks.length):
  Kp fl c (cY c fl aF p).1/\((cY c fl aF p).2.2=0->mO p c.size=true/\Ew fl c (cY c fl aF p).1 (cY c fl aF p).2.1 (dy p c.size).1)/\((cY c fl aF p).2.2=7->(cY c fl aF p).1.off=true):=by
 rw[cY];split
 ·
  rename_i h;refine⟨.du _ _,fun g=>absurd g h,fun g=>?_⟩;rcases A5 p c.size with e|e
  ·exact absurd e h
  ·simp only at g;rw[e]at g;cases g
 ·rename_i h;obtain⟨t1,t2,t3⟩:=NM ((cT -c.ops).toNat+1) (fl:=fl) (aF:=aF) (b:=(dy p c.size).1) hk h2 oM;exact⟨t1,fun g=>⟨Ws (by simpa using h),t2 g⟩,t3⟩
def vk(bs:List (List UInt8))(l:List (Int×List UInt8)):List (List UInt8):=l.foldl (fun b x=>b.set x.1.toNat x.2) bs
theorem NN{α β:Type}{f:α->β}{l:List α}{i:Nat}{x:α}:(l.set i x).map f=(l.map f).set i (f x):=by rw[awe]
theorem Pl.zero{c:CV}{a:List Int}(h:Pl c a)(i:Nat):Pl c (a.set i 0):=by
 have hs: ∀(j:Nat) (y:Int),(a.set i 0)[j]? =some y->y≠0->a[j]? =some y:=fun j y hy h0=>by
  rw[au1]at hy;split at hy
  ·
   split at hy
   ·exact absurd (at1 hy).symm h0
   cases hy
  exact hy
 exact⟨fun j y hy h0=>h.1 j y (hs j y hy h0) h0,fun j k y hj hk h0=>h.2 j k y (hs j y hj h0) (hs k y hk h0) h0⟩
theorem Pl.put{c d:CV}{a fl:List Int}{i:Nat}{n:Int}{p:PV}{pg:List UInt8}(h:Pl c a)(k:Kd fl c d)(hs: ∀m∈a,m∈fl)(g:Ew fl c d n pg)(hp:cM pg=(p,0))(hk:p.kind=1)(hi:p.id=(i:Int)):Pl d (a.set i n):=by
 have hd:=h.kd k hs;have hn: ∀m∈a,m≠n:=fun m hm e=>by
  have h0:m≠0:=by have:=g.pos;omega
  exact g.new m (hs m hm) h0 (h.place hm h0) e
 have NO: ∀(j:Nat) (y:Int),(a.set i n)[j]? =some y->(j=i/\y=n)\/(a[j]? =some y/\y≠n):=fun j y hy=>by
  rw[au1]at hy;split at hy
  ·
   rename_i e;split at hy
   ·exact .inl ⟨e.symm,(at1 hy).symm⟩
   cases hy
  exact .inr ⟨hy,hn y (atl hy)⟩
 refine⟨fun j y hy h0=>?_,fun j l y hj hl h0=>?_⟩
 ·
  rcases NO j y hy with⟨rfl,rfl⟩|⟨e,_⟩
  ·exact aim g.ok (by rw[g.pg];exact hp) hk hi
  exact hd.1 j y e h0
 rcases NO j y hj with⟨e1,e2⟩|⟨e1,e2⟩<;>rcases NO l y hl with⟨e3,e4⟩|⟨e3,e4⟩
 ·rw[e1,e3]
 ·exact absurd e2 e4
 ·exact absurd e4 e2
 exact h.2 j l y e1 e3 h0
theorem WK{fl:List Int}{c d:CV}{n:Int}{p:PV}{pg:List UInt8}(g:Ew fl c d n pg)(hp:cM pg=(p,0)):eW d n=p.body:=by
 rw[eW,if_neg (by have:=g.pos;omega),jw,g.pg,hp,if_pos rfl]
theorem IC{v:VV}{aF:Bool}: ∀(l:List (Int×List UInt8)) {c:CV} {a:List Int},aW c=true->3<=c.blocks.length->Pl c v.at_->Pl c a->(∀x∈l,0<=x.1)->
  Kp v.at_ c (gp v aF l c a).1/\((gp v aF l c a).2.2=0->Pl (gp v aF l c a).1 (gp v aF l c a).2.1/\(gp v aF l c a).2.1.map (eW (gp v aF l c a).1)=vk (a.map (eW c)) l/\(gp v aF l c a).2.1.length=a.length)/\((gp v aF l c a).2.2=7->(gp v aF l c a).1.off=true)
 |[],c,a,_,_,_,ha,_=>⟨.du _ _,fun _=>⟨ha,rfl,rfl⟩,fun h=>absurd (show(0:Int)=7 from h) dDq⟩
 |x::r,c,a,hk,h2,hv,ha,hid=>by
  have WL: ∀y∈r,0<=y.1:=fun y hy=>hid y (aui _ hy);have Qj:=hid x auD;rw[gp]
  by_cases h0:x.2.length=0
  ·rw[if_pos h0];obtain⟨t1,t2,t3⟩:=IC (v:=v) (aF:=aF) r hk h2 hv (ha.zero x.1.toNat) WL;refine⟨t1,fun h=>?_,t3⟩;obtain⟨g1,g2,g3⟩:=t2 h;refine⟨g1,?_,by rw[g3,auA]⟩;rw[g2,NN,show eW c 0=x.2 from(aun.1 h0).symm];rfl
  ·
   rw[if_neg h0];obtain⟨k1,k2,k3⟩:=WJ (fl:=v.at_++a) (aF:=aF) (p:=jb v x) hk h2
   by_cases h1:(cY c (v.at_++a) aF (jb v x)).2.2≠0
   ·rw[if_pos h1];exact⟨k1.sub fun n hn=>auy _ hn,fun h=>absurd h h1,k3⟩
   ·rw[if_neg h1];obtain⟨m1,m2⟩:=k2 (by simpa using h1);have hb:=NF m1;have cf:=ha.put k1.toKd (fun n hn=>avp _ hn) m2 hb rfl (i:=x.1.toNat) (by show x.1=_;omega);have Be:=hv.kd k1.toKd fun n hn=>auy _ hn;obtain⟨t1,t2,t3⟩:=IC (v:=v) (aF:=aF) r (k1.ok hk) (by rw[k1.cm.len];exact h2) Be cf WL;refine⟨(k1.sub fun n hn=>auy _ hn).trans t1,fun h=>?_,t3⟩;obtain⟨g1,g2,g3⟩:=t2 h;refine⟨g1,?_,by rw[g3,auA]⟩;rw[g2,NN,WK m2 hb,Iy ha k1.toKd fun n hn=>avp _ hn];rfl
theorem air{c:CV}{a0 a:List Int}{src tgt:Int}(h:(cC c a0 a src tgt).2=true)(hs:2<=src)(ht:0<=tgt->tgt≠src):(cC c a0 a src tgt).1≠src:=by
 rw[cC]at h⊢
 by_cases h1:tgt<0
 ·
  rw[if_pos h1]at h⊢
  by_cases h2:(fL ((av c (a0++a)).set (src -2).toNat bc) c.pages).2=true
  ·
   rw[if_pos h2];obtain⟨f1,f2,f3,f4⟩:=A0 h2;intro e;simp only at e;have e2:(fL ((av c (a0++a)).set (src -2).toNat bc) c.pages).1.toNat=(src -2).toNat:=by omega
   change nu c.pages (((av c (a0++a)).set (src -2).toNat bc).getD (fL ((av c (a0++a)).set (src -2).toNat bc) c.pages).1.toNat eu)=true at f4;change(fL ((av c (a0++a)).set (src -2).toNat bc) c.pages).1<_ at f3;change 0<=(fL ((av c (a0++a)).set (src -2).toNat bc) c.pages).1 at f2;rw[auA]at f3;rw[e2]at f4;simp only[List.getD]at f4;rw[auk oM]at f4
   cases f4
  rw[if_neg h2]at h;cases h
 rw[if_neg h1];exact ht oM
theorem ID{v:VV}{src tgt:Int}(nL:2<=src)(qd:0<=tgt->tgt≠src)(Hc:1<=v.ae.pages): ∀(l:List Int) (id:Nat) {c:CV} {a:List Int},aW c=true->Pl v.ae v.at_->Kp v.at_ v.ae c->Pl c a->a.map (eW c)=v.at_.map (eW v.ae)->
  (0<=tgt->2<=tgt/\tgt<c.blocks.length/\(ak c tgt).bad=false)->v.at_.drop id=l->(∀j,id<=j->a[j]? =v.at_[j]?)->(∀j n,j<id->a[j]? =some n->n≠0->(n -1)/v.ae.pages≠src)->a.length=v.at_.length->
  Kp v.at_ v.ae (cj v src tgt l id c a).c/\((cj v src tgt l id c a).e=none->Pl (cj v src tgt l id c a).c (cj v src tgt l id c a).a/\(cj v src tgt l id c a).a.map (eW (cj v src tgt l id c a).c)=v.at_.map (eW v.ae)/\(cj v src tgt l id c a).a.length=v.at_.length/\
   k9 (cj v src tgt l id c a).a v.ae src)/\((cj v src tgt l id c a).e=some 7->(cj v src tgt l id c a).c.off=true)/\(cj v src tgt l id c a).e≠some 9
 |[],id,c,a,hk,hv,oG,ha,hb,ht,hl,fP,dB,dj=>by
  refine⟨oG,fun _=>⟨ha,hb,dj,fun n hn h0=>?_⟩,fun h=>by simp[cj]at h,by simp[cj]⟩;obtain⟨j,hj⟩:=aul hn;have hlen:v.at_.length<=id:=List.drop_eq_nil_iff.1 hl;have:=(zz.1 hj).1;exact dB j n (by simp only[cj]at this;omega) hj h0
 |n::r,id,c,a,hk,hv,oG,ha,hb,ht,hl,fP,dB,dj=>by
  have hn:v.at_[id]? =some n:=by
   have:=congrArg (fun l:List Int=>l[0]?) hl;simpa using this
  have hr:v.at_.drop (id+1)=r:=by
   rw[←av0,hl];rfl
  have hp:=oG.cm.pages;rw[cj]
  by_cases h1:n=0\/(n -1)/v.ae.pages≠src
  ·
   rw[if_pos h1];refine ID nL qd Hc r (id+1) hk hv oG ha hb ht hr (fun j hj=>fP j oM) (fun j m hj hm h0=>?_) dj
   by_cases e:j=id
   ·rw[e,fP id (at5 _),hn]at hm;obtain rfl:=at1 hm;exact h1.resolve_left h0
   ·exact dB j m oM hm h0
  ·
   rw[if_neg h1];have h0:n≠0:=fun e=>h1 (.inl e)
   by_cases h2:(cC c v.at_ a src tgt).2=false
   ·rw[if_pos h2];exact⟨oG,fun h=>by simp at h,fun h=>by simp at h,by simp⟩
   ·
    rw[if_neg h2];have BO:(cC c v.at_ a src tgt).2=true:=by simpa using h2
    obtain⟨m1,m2,m3⟩:=S3 BO ht;have mne:=air BO nL qd;generalize cC c v.at_ a src tgt=B at*
    by_cases h3:(eA c ((v.gen:Int)+1) id n).2≠0
    ·rw[if_pos h3];have A6:(eA c ((v.gen:Int)+1) id n).2=1:=(A5 _ _).resolve_left h3;exact⟨oG,fun h=>by simp at h,fun h=>absurd (A6.symm.trans (at1 h)) dDq,fun h=>absurd (A6.symm.trans (at1 h)) dDq⟩
    ·
     rw[if_neg h3];have BS:=Ws (p:=⟨1,id,((v.gen:Int)+1).toNat,jw c n⟩) (n:=c.size) (by simpa[eA]using h3);have Ey:=NF BS;have Ez:=Iw (L:=v.at_++a) (c:=c) (p:=(eA c ((v.gen:Int)+1) id n).1) m1
     by_cases h4:bC c B.1 (eA c ((v.gen:Int)+1) id n).1≠0
     ·
      rw[if_pos h4];refine⟨oG.trans (Ez.sub fun n hn=>auy _ hn),fun h=>by simp at h,fun h=>?_,fun h=>?_⟩
      ·
       have h:=at1 h;rw[j9]at h;split at h
       ·cases h
       ·exact Ix h
      ·
       have h:=at1 h;rw[j9]at h;split at h
       ·cases h
       ·rename_i h9;exact h9 h
     ·
      rw[if_neg h4];have xL:bC c B.1 (eA c ((v.gen:Int)+1) id n).1=0:=by simpa using h4
      obtain⟨q1,q2,q3,q4⟩:=IB (L:=v.at_++a) m1 xL;rw[hp]at q1 q2 q3 q4;have e1:B.1*v.ae.pages+(ak c B.1).used+1 -1=B.1*v.ae.pages+(ak c B.1).used:=by omega
      have BJ:Ew (v.at_++a) c (bB c B.1 (eA c ((v.gen:Int)+1) id n).1) (B.1*v.ae.pages+(ak c B.1).used+1) (eA c ((v.gen:Int)+1) id n).1:=
       ⟨oM,by rw[e1];exact q1,by rw[e1];exact q2,fun m hm _ yz he=>by rw[he,e1,q4]at yz;cases yz⟩
      have cf:=ha.put Ez.toKd (fun n hn=>avp _ hn) BJ Ey rfl (i:=id) rfl;have mX:=WK BJ Ey;have gn:=j7.1 (qD xL).1;have hq:(B.1*v.ae.pages+(ak c B.1).used+1 -1)/v.ae.pages=B.1:=by
       rw[e1,avT,avh _ _ oM,auZ gn.2.1 (by rw[←hp];exact gn.2.2.1),avY]
      have Ve:eW c n=jw c n:=by
       rw[eW];split
       ·rename_i ais;have DF:=hv.place (atl hn) h0;have atG:=(nr.1 DF).1;have:(n -1)/v.ae.pages<0:=awA ais oM;omega
       ·rfl
      refine ID nL qd Hc r (id+1) (Ez.ok hk) hv (oG.trans (Ez.sub fun n hn=>auy _ hn)) cf ?_ (fun h=>?_) hr (fun j hj=>?_) (fun j m hj hm oW=>?_) (by rw[auA,dj])
      ·rw[NN,mX,Iy ha Ez.toKd fun n hn=>avp _ hn,hb];refine xw ?_;have e3:=congrArg (fun l:List (List UInt8)=>l[id]?) hb;simp only[aua]at e3;rw[fP id (at5 _),hn]at e3;rw[aua,hn];simp only[auI]at e3⊢;rw[←e3,Ve]
      ·have:=ht h;rw[(iY c _ _).len,LC xL];exact this
      ·rw[auF oM];exact fP j oM
      ·
       rw[au1]at hm;split at hm
       ·
        split at hm
        ·obtain rfl:=at1 hm;rw[hq];exact mne
        ·cases hm
       ·exact dB j m oM hm oW
def iN(c:CV):Prop:= ∀f∈c.aA,f.mask=0\/f.mask=255
theorem iN.kd{L:List Int}{c d:CV}(h:iN c)(k:Kd L c d):iN d:=by unfold iN;rw[k.iM];exact h
theorem iN.EA{c:CV}(h:iN c)(hs:(bt c).2=true):(bt c).1.mask=0\/(bt c).1.mask=255:=by
 rw[bt]at hs⊢
 cases hf:c.aA.find? fun f=>decide (f.op=c.ops)with
 |none=>rw[hf]at hs;cases hs
 |some x=>exact h x (awk hf)
theorem WM(p:List UInt8):dn 0 p=p:=by
 rw[dn]
 conv=>rhs;rw[←List.map_id p]
 exact avf fun x _=>by simp
theorem WN(p:List UInt8):kC (dn 255 p)=true:=by
 refine Df.2 fun x hx=>?_;obtain⟨y,_,rfl⟩:=ava.1 hx;apply UInt8.eq_of_toBitVec_eq;show y.toBitVec|||255#8=255#8;exact BitVec.or_allOnes
theorem NP{p:List UInt8}(h:kC p=true):(bH p).2≠0:=by
 rw[bH]
 by_cases h1:oP p.length=false
 ·rw[if_pos (by rw[cM,if_pos h1];decide)];rw[cM,if_pos h1];decide
 have e:cM p=(kB,0):=by rw[cM,if_neg h1,if_pos h]
 rw[e,if_neg dDq,if_pos (show(kB,(0:Int)).1.kind=0 from rfl)];decide
theorem ait(n:Int):kC (iA n)=true:=Df.2 fun _ hx=>List.eq_of_mem_replicate hx
theorem vl{c:CV}(hb:gH c=true){k:Nat}(hk:(k:Int)<2*c.pages):((ak c 0).pages++(ak c 1).pages).getD k []=bS c k:=by
 obtain⟨l0,l1⟩:=Ev hb;have hp:2<=c.pages:=(fN.1 hb).2.2.1;rw[bS]
 by_cases h:(k:Int)<c.pages
 ·rw[auZ oM h,awC oM h,avb];simp only[List.getD];rw[aus oM]
 have e1:(k:Int)/c.pages=1:=by
  have:(k:Int)=(k -c.pages)+1*c.pages:=by omega
  rw[this,avh _ _ oM,auZ oM oM];rfl
 have e2:(k:Int)%c.pages=k -c.pages:=by
  have:(k:Int)=(k -c.pages)+1*c.pages:=by omega
  rw[this,awv,awC oM oM];omega
 rw[e1,e2];simp only[List.getD];rw[auf oM];congr 2;omega
theorem WO{c:CV}(hb:gH c=true){i:Int}(h0:0<=i)(h1:i<2*c.pages)(hi:(bH (bS c i)).2=0)(jh: ∀k,0<=k->k<2*c.pages->(bH (bS c k)).2=0-> ¬((bH (bS c i)).1.gen<(bH (bS c k)).1.gen\/((bH (bS c k)).1.gen=(bH (bS c i)).1.gen/\i<k))):
  bZ c=(i,(bH (bS c i)).1,0):=by
 obtain⟨l0,l1⟩:=Ev hb;obtain⟨n,rfl⟩: ∃n:Nat,i=n:=⟨i.toNat,oM⟩;have hl:((ak c 0).pages++(ak c 1).pages).length=(ak c 0).pages.length+(ak c 1).pages.length:=adr;have hn:n<((ak c 0).pages++(ak c 1).pages).length:=by omega
 have:=Tc hn (Hk.2 ⟨by rw[vl hb h1];exact hi,fun k hk hv=>by
  rw[vl hb h1,vl hb oM];rw[vl hb oM]at hv;have:=jh k oM oM hv;omega⟩)
 rw[bZ,this,vl hb h1]
theorem WQ{c:CV}(hb:gH c=true)(h:(bZ c).2.2=0):bH (bS c (bZ c).1)=((bZ c).2.1,0)/\ ∀k,0<=k->k<2*c.pages->(bH (bS c k)).2=0-> ¬((bZ c).2.1.gen<(bH (bS c k)).1.gen\/((bH (bS c k)).1.gen=(bZ c).2.1.gen/\(bZ c).1<k)):=by
 obtain⟨l0,l1⟩:=Ev hb;have hl:((ak c 0).pages++(ak c 1).pages).length=(ak c 0).pages.length+(ak c 1).pages.length:=adr
 by_cases hex: ∃i,i<((ak c 0).pages++(ak c 1).pages).length/\zt ((ak c 0).pages++(ak c 1).pages) i=true
 ·obtain⟨i,hi,WR⟩:=hex;have e:=Tc hi WR;obtain⟨g1,g2⟩:=Hk.1 WR;rw[vl hb oM]at e g1;rw[bZ,e];refine⟨by rw[←g1],fun k k0 k1 hv=>?_⟩;obtain⟨n,rfl⟩: ∃n:Nat,k=n:=⟨k.toNat,oM⟩;have:=g2 n oM (by rw[vl hb k1];exact hv);rw[vl hb k1,vl hb oM]at this;simp only;omega
 have:=ad1 (l:=(ak c 0).pages++(ak c 1).pages) fun i hi=>by
  cases hq:zt ((ak c 0).pages++(ak c 1).pages) i with
  |false=>rfl
  |true=>exact absurd ⟨i,hi,hq⟩ hex
 rw[bZ,this]at h;simp only at h;split at h<;>cases h
structure Wv(g:Nat)(at_:List Int)(last:Int)(a:List Int)(c:CV):Prop where
 bears:gH c=true
 Bh: ∃i:Int,0<=i/\i<2*c.pages/\bH (bS c i)=(⟨g,at_⟩,0)/\i/c.pages=last/\i%c.pages<(ak c last).used/\
  ∀k,0<=k->k<2*c.pages->(bH (bS c k)).2=0->(bH (bS c k)).1.gen<g\/((bH (bS c k)).1.gen=g/\k<=i)\/(bH (bS c k)=(⟨g+1,a⟩,0)/\k%c.pages<(ak c (k/c.pages)).used)
theorem fw.wv{x:VV}(h:fw x)(a:List Int):Wv x.gen x.at_ x.last a x.ae:=by
 obtain⟨h1,h2⟩:=WQ h.bears h.roots;have hr:=WE h.bears;refine⟨h.bears,(bZ x.ae).1,hr.1,hr.2,?_,h.last,by rw[←h.last];exact h.used,fun k k0 k1 hv=>?_⟩
 ·rw[h1,←h.at_,←h.gen]
 have:=h2 k k0 k1 hv;rw[h.gen]at this;omega
theorem Wv.step{g:Nat}{at_ a:List Int}{last:Int}{c d:CV}(h:Wv g at_ last a c)(hb:gH d=true)(hP:d.pages=c.pages)
  (hl: ∀i,0<=i->i/c.pages=last->i%c.pages<(ak c last).used->bS d i=bS c i/\i%c.pages<(ak d last).used)
  (hk: ∀k,0<=k->k<2*c.pages->(bH (bS d k)).2=0->(bS d k=bS c k/\(k%c.pages<(ak c (k/c.pages)).used->k%c.pages<(ak d (k/c.pages)).used))\/(bH (bS d k)=(⟨g+1,a⟩,0)/\k%c.pages<(ak d (k/c.pages)).used)):Wv g at_ last a d:=by
 obtain⟨i,i0,i1,i2,i3,i4,i5⟩:=h.Bh;obtain⟨e1,e2⟩:=hl i i0 i3 i4;refine⟨hb,i,i0,by rw[hP];exact i1,by rw[e1];exact i2,by rw[hP];exact i3,by rw[hP];exact e2,fun k k0 k1 hv=>?_⟩;rw[hP]at k1⊢;rcases hk k k0 k1 hv with⟨q1,q2⟩|q
 ·
  rw[q1]at hv⊢;rcases i5 k k0 k1 hv with r|r|r
  ·exact .inl r
  ·exact .inr (.inl r)
  ·exact .inr (.inr ⟨r.1,q2 r.2⟩)
 ·exact .inr (.inr q)
theorem Wv.WS{g:Nat}{at_ a:List Int}{last:Int}{c:CV}(h:Wv g at_ last a c)(hp:Pl c at_)(fj: ∀k,0<=k->k<2*c.pages->bH (bS c k)≠(⟨g+1,a⟩,0)):fw ⟨c,at_,g,last⟩:=by
 obtain⟨i,i0,i1,i2,i3,i4,i5⟩:=h.Bh;have e:=WO h.bears i0 i1 (by rw[i2]) (fun k k0 k1 hv=>by
  rw[i2];rcases i5 k k0 k1 hv with r|r|r
  ·simp only;omega
  ·simp only;omega
  exact absurd r.1 (fj k k0 k1))
 rw[i2]at e;exact⟨h.bears,by show(bZ c).2.2=0;rw[e],by show(bZ c).1%c.pages<(ak c ((bZ c).1/c.pages)).used;rw[e];simp only;rw[i3];exact i4,hp,by show(bZ c).2.1.at_=at_;rw[e],by show(bZ c).2.1.gen=g;rw[e],by show(bZ c).1/c.pages=last;rw[e];exact i3⟩
theorem WT{P:Int->Prop}{m:Int}: ∀(n:Nat),(∃k,0<=k/\k<m/\P k/\m -k<=n)-> ∃i,0<=i/\i<m/\P i/\ ∀k,k<m->P k->k<=i
 |0,⟨k,_,h1,_,h3⟩=>by omega
 |n+1,⟨k,h0,h1,h2,h3⟩=>by
  by_cases h: ∃j,0<=j/\j<m/\P j/\m -j<=n
  ·exact WT n h
  refine⟨k,h0,h1,h2,fun j hj hP=>?_⟩;apply aut;intro bq;exact h ⟨j,oM,hj,hP,oM⟩
theorem Wv.WU{g:Nat}{at_ a:List Int}{last:Int}{c:CV}(h:Wv g at_ last a c)(hp:Pl c a){k0:Int}(q0:0<=k0)(q1:k0<2*c.pages)(q2:bH (bS c k0)=(⟨g+1,a⟩,0)):
  ∃i,fw ⟨c,a,g+1,i/c.pages⟩/\0<=i/\i<2*c.pages/\bH (bS c i)=(⟨g+1,a⟩,0)/\ ∀k,k<2*c.pages->bH (bS c k)=(⟨g+1,a⟩,0)->k<=i:=by
 obtain⟨i,i0,i1,i2,i3⟩:=WT (P:=fun k=>bH (bS c k)=(⟨g+1,a⟩,0)) (m:=2*c.pages) (2*c.pages -k0).toNat ⟨k0,q0,q1,q2,oM⟩;obtain⟨j,j0,j1,j2,j3,j4,j5⟩:=h.Bh;have e:=WO h.bears i0 i1 (by rw[i2]) (fun k k0 k1 hv=>by
  rw[i2];rcases j5 k k0 k1 hv with r|r|r
  ·simp only;omega
  ·simp only;omega
  ·have:=i3 k k1 r.1;rw[r.1];simp only;omega)
 rw[i2]at e;have hu:i%c.pages<(ak c (i/c.pages)).used:=by
  rcases j5 i i0 i1 (by rw[i2])with r|r|r
  ·rw[i2]at r;simp only at r;omega
  ·rw[i2]at r;simp only at r;omega
  ·exact r.2
 exact⟨i,⟨h.bears,by show(bZ c).2.2=0;rw[e],by show(bZ c).1%c.pages<(ak c ((bZ c).1/c.pages)).used;rw[e];exact hu,hp,by show(bZ c).2.1.at_=a;rw[e],by show(bZ c).2.1.gen=g+1;rw[e],by show(bZ c).1/c.pages=_;rw[e]⟩,i0,i1,i2,i3⟩
theorem Wv.some{g:Nat}{at_ a:List Int}{last:Int}{c:CV}(h:Wv g at_ last a c)(h1:Pl c at_)(h2:Pl c a): ∃u,fw u/\u.ae=c/\(u=⟨c,at_,g,last⟩\/(u.at_=a/\u.gen=g+1)):=by
 by_cases hex: ∃k,0<=k/\k<2*c.pages/\bH (bS c k)=(⟨g+1,a⟩,0)
 ·obtain⟨k,k0,k1,k2⟩:=hex;obtain⟨i,hi,_⟩:=h.WU h2 k0 k1 k2;exact⟨_,hi,rfl, .inr ⟨rfl,rfl⟩⟩
 exact⟨_,h.WS h1 fun k k0 k1 e=>hex ⟨k,k0,k1,e⟩,rfl, .inl rfl⟩
theorem wK{c:CV}{b e k:Int}:(ak (iW c b e) k).pages=(ak c k).pages/\(ak (iW c b e) k).used=(ak c k).used:=by
 rw[iW];split
 ·exact Wu
 exact⟨rfl,rfl⟩
theorem IE{c:CV}{b e k:Int}:bS (iW c b e) k=bS c k:=by
 rw[bS,bS,(G4 c b e).pages,wK.1]
theorem WW{c:CV}{b k:Int}(cf:iN c)(hk:0<=k)(hp:1<=c.pages)(vh:k/c.pages=b)(hv:(bH (bS (dz c b) k)).2=0):bS (dz c b) k=bS c k/\(k%c.pages<(ak c b).used->k%c.pages<(ak (dz c b) b).used):=by
 rw[dz,IE]at hv⊢;rw[wK.2]
 by_cases h:pM c b=true/\c.off=false/\(ak c b).bad=false
 ·
  have hh:=(qz.1 h.1).1;have e:gv c b=ly c b:=if_pos h;have eb:ak (ly c b) b={ak c b with used:=if(bt c).2=true then c.pages else 0,aU:=(ak c b).aU+1,pages:=tm c (ak c b).pages}:=ru hh
  have oW:0<=k%c.pages:=av4 _ oM;have qM:k%c.pages<c.pages:=av8 _ oM;have DU:=(fy.1 (rp hh)).1;have EB:bS (ly c b) k=(tm c (ak c b).pages).getD (k%c.pages).toNat []:=by
   show(ak (ly c b) (k/c.pages)).pages.getD _ []=_;rw[vh,eb];rfl
  obtain⟨x,hx⟩: ∃x,(ak c b).pages[(k%c.pages).toNat]? =some x:=⟨_,at2 oM⟩;have ec:bS c k=x:=by rw[bS,vh];simp[List.getD,hx]
  rw[e]at hv⊢;rw[EB,tm]at hv⊢
  by_cases hs:(bt c).2=true
  ·
   rw[if_pos hs]at hv⊢;have eg:((ak c b).pages.map (dn (bt c).1.mask)).getD (k%c.pages).toNat []=dn (bt c).1.mask x:=by simp[List.getD,hx]
   rw[eg]at hv⊢;rcases cf.EA hs with m|m
   ·rw[m,WM,ec,eb];exact⟨rfl,fun _=>by simp only;rw[if_pos hs];exact qM⟩
   rw[m]at hv;exact absurd hv (NP (WN x))
  rw[if_neg hs]at hv;have eg:((ak c b).pages.map fun _=>iA c.size).getD (k%c.pages).toNat []=iA c.size:=by simp[List.getD,hx]
  rw[eg]at hv;exact absurd hv (NP (ait _))
 rw[gv,if_neg h];exact⟨rfl,id⟩
theorem Wv.erase{g:Nat}{at_ a:List Int}{last:Int}{c:CV}(h:Wv g at_ last a c)(cf:iN c){b:Int}(hb:b≠last)(rF:0<=b)(kO:0<=last):Wv g at_ last a (dz c b):=by
 have hP:=(xC c b).pages;have hp:2<=c.pages:=(fN.1 h.bears).2.2.1;have oh:gH (dz c b)=true:=by
  obtain⟨h1,h2,h3,h4⟩:=fN.1 h.bears;exact fN.2 ⟨Dl h1 b,by rw[(xC c b).len];exact h2,by rw[hP];exact h3,by rw[(xC c b).size];exact h4⟩
 have tZ: ∀k,0<=k->k≠b->(ak (dz c b) k).pages=(ak c k).pages/\(ak (dz c b) k).used=(ak c k).used:=fun k k0 hk=>by
  rw[dz,wK.1,wK.2,BR oM];exact⟨rfl,rfl⟩
 refine h.step oh hP (fun i i0 i1 i2=>?_) fun k k0 k1 hv=> .inl ?_
 ·obtain⟨e1,e2⟩:=tZ last kO (fun e=>hb e.symm);exact⟨by rw[bS,bS,hP,i1,e1],by rw[e2];exact i2⟩
 by_cases e:k/c.pages=b
 ·have:=WW cf k0 oM e hv;rw[e];exact this
 obtain⟨e1,e2⟩:=tZ (k/c.pages) (av3 k0 oM) e;exact⟨by rw[bS,bS,hP,e1],by rw[e2];exact id⟩
theorem aiu{c:CV}{b k:Int}{p:List UInt8}(cf:iN c)(hk:0<=k)(hp:1<=c.pages)(vh:k/c.pages=b)(hv:(bH (bS (bB c b p) k)).2=0):
  (bS (bB c b p) k=bS c k/\(k%c.pages<(ak c b).used->k%c.pages<(ak (bB c b p) b).used))\/(bS (bB c b p) k=p/\k%c.pages<(ak (bB c b p) b).used):=by
 rw[bB,IE]at hv⊢;rw[wK.2]
 by_cases h:oO c b (ak c b).used p=true/\c.off=false/\(ak c b).bad=false/\(ak c b).used=(ak c b).used
 ·
  obtain⟨hh,u0,u1,_,_⟩:=j7.1 h.1;have e:gN c b (ak c b).used p=iU c b (ak c b).used p:=if_pos h;have eb:ak (iU c b (ak c b).used p) b={ak c b with used:=(ak c b).used+1,pages:=(ak c b).pages.set (ak c b).used.toNat (pL c p)}:=ru hh
  have oW:0<=k%c.pages:=av4 _ oM;have qM:k%c.pages<c.pages:=av8 _ oM;have DU:=(fy.1 (rp hh)).1;have EB:bS (iU c b (ak c b).used p) k=((ak c b).pages.set (ak c b).used.toNat (pL c p)).getD (k%c.pages).toNat []:=by
   show(ak (iU c b (ak c b).used p) (k/c.pages)).pages.getD _ []=_;rw[vh,eb];rfl
  rw[e]at hv⊢;rw[EB]at hv⊢
  by_cases hj:k%c.pages=(ak c b).used
  ·
   have eg:((ak c b).pages.set (ak c b).used.toNat (pL c p)).getD (k%c.pages).toNat []=pL c p:=by
    rw[hj];simp only[List.getD];rw[auk oM];rfl
   rw[eg]at hv⊢;right;refine⟨?_,by rw[eb];simp only;omega⟩;rw[pL]at hv⊢;split
   ·
    rename_i hs;rw[if_pos hs]at hv;rcases cf.EA hs with m|m
    ·rw[m]at hv;exact absurd hv (NP (WN p))
    ·rw[m];exact WM p
   ·rfl
  ·left;refine⟨?_,fun bq=>by rw[eb];simp only;omega⟩;simp only[List.getD];rw[auF oM,bS,vh];rfl
 ·left;rw[gN,if_neg h];exact⟨rfl,id⟩
theorem aiv{c:CV}{b k:Int}{p:List UInt8}(hp:1<=c.pages)(vh:k/c.pages=b)(hu:k%c.pages<(ak c b).used):bS (bB c b p) k=bS c k/\k%c.pages<(ak (bB c b p) b).used:=by
 rw[bB,IE,wK.2]
 by_cases h:oO c b (ak c b).used p=true/\c.off=false/\(ak c b).bad=false/\(ak c b).used=(ak c b).used
 ·
  obtain⟨hh,u0,u1,_,_⟩:=j7.1 h.1;have e:gN c b (ak c b).used p=iU c b (ak c b).used p:=if_pos h;have eb:ak (iU c b (ak c b).used p) b={ak c b with used:=(ak c b).used+1,pages:=(ak c b).pages.set (ak c b).used.toNat (pL c p)}:=ru hh
  have oW:0<=k%c.pages:=av4 _ oM;have EB:bS (iU c b (ak c b).used p) k=((ak c b).pages.set (ak c b).used.toNat (pL c p)).getD (k%c.pages).toNat []:=by
   show(ak (iU c b (ak c b).used p) (k/c.pages)).pages.getD _ []=_;rw[vh,eb];rfl
  rw[e,EB,eb];refine⟨?_,by simp only;omega⟩;simp only[List.getD];rw[auF oM,bS,vh];rfl
 rw[gN,if_neg h];exact⟨rfl,hu⟩
theorem Wv.prog{g:Nat}{at_ a:List Int}{last:Int}{c:CV}{p:List UInt8}(h:Wv g at_ last a c)(cf:iN c){b:Int}(rF:0<=b)(kO:0<=last)(hr:bH p=(⟨g+1,a⟩,0)):Wv g at_ last a (bB c b p):=by
 have hP:=(iY c b p).pages;have hp:2<=c.pages:=(fN.1 h.bears).2.2.1;have oh:gH (bB c b p)=true:=by
  obtain⟨h1,h2,h3,h4⟩:=fN.1 h.bears;exact fN.2 ⟨mg h1 b p,by rw[(iY c b p).len];exact h2,by rw[hP];exact h3,by rw[(iY c b p).size];exact h4⟩
 have tZ: ∀k,0<=k->k≠b->(ak (bB c b p) k).pages=(ak c k).pages/\(ak (bB c b p) k).used=(ak c k).used:=fun k k0 hk=>by
  rw[bB,wK.1,wK.2,Ww oM];exact⟨rfl,rfl⟩
 refine h.step oh hP (fun i i0 i1 i2=>?_) fun k k0 k1 hv=>?_
 ·
  by_cases e:last=b
  ·have:=aiv (p:=p) (show 1<=c.pages by omega) (i1.trans e) (by rw[←e];exact i2);rw[e];exact this
  obtain⟨e1,e2⟩:=tZ last kO e;exact⟨by rw[bS,bS,hP,i1,e1],by rw[e2];exact i2⟩
 by_cases e:k/c.pages=b
 ·
  rcases aiu cf k0 oM e hv with q|q
  ·left;rw[e];exact q
  right;rw[q.1,e];exact⟨hr,q.2⟩
 obtain⟨e1,e2⟩:=tZ (k/c.pages) (av3 k0 oM) e;exact .inl ⟨by rw[bS,bS,hP,e1],by rw[e2];exact id⟩
def IF(c:CV):Prop:=cT<=c.ops\/ ∃b,cT<=(ak c b).aU
def ua(g:Nat)(a:List Int)(c:CV):Prop:= ∀k,0<=k->k<2*c.pages->bH (bS c k)≠(⟨g+1,a⟩,0)
theorem aiw{c:CV}(h:c.aA=[]):(bt c).2=false:=by rw[bt,h];rfl
theorem WX{c:CV}{b:Int}{p:List UInt8}(h:c.aA=[])(he:bC c b p≠0):gN c b (ak c b).used p=c:=by
 rw[gN,if_neg];rintro⟨h1,h2,h3,h4⟩;apply he;rw[bC,kA,if_pos h1,if_neg (by rw[h2];simp),if_neg (by rw[h3];simp),if_neg (by rw[aiw h];simp)]
theorem ua.erase{g:Nat}{a:List Int}{c:CV}(h:ua g a c)(hb:gH c=true)(cf:iN c){b:Int}(rF:0<=b):ua g a (dz c b):=by
 have hP:=(xC c b).pages;have hp:2<=c.pages:=(fN.1 hb).2.2.1;intro k k0 k1 he;rw[hP]at k1
 by_cases e:k/c.pages=b
 ·have:=(WW cf k0 oM e (by rw[he])).1;rw[this]at he;exact h k k0 k1 he
 have:bS (dz c b) k=bS c k:=by
  have hk:=av3 k0 (show 0<=c.pages by omega);rw[bS,bS,hP,dz,wK.1,BR oM]
 rw[this]at he;exact h k k0 k1 he
theorem aix{c:CV}{b:Int}(q:ei c b=1):pM c b=false:=by
 cases ho:pM c b with
 |false=>rfl
 |true=>
  exfalso;rw[ei,if_pos ho]at q
  by_cases h1:c.off=true
  ·rw[if_pos h1]at q;cases q
  rw[if_neg h1]at q
  by_cases h2:(ak c b).bad=true
  ·rw[if_pos h2]at q;cases q
  rw[if_neg h2]at q
  by_cases h3:(bt c).2=true
  ·rw[if_pos h3,mc]at q;split at q<;>cases q
  rw[if_neg h3]at q;cases q
theorem aiy{g:Nat}{at_ a:List Int}{last:Int}{c:CV}(h:Wv g at_ last a c)(cf:iN c)(hl:last=0\/last=1):
  (∀L,Kd L c (aZ c last).1)/\Wv g at_ last a (aZ c last).1/\(ua g a c->ua g a (aZ c last).1)/\((aZ c last).2.2=7->(aZ c last).1.off=true)/\
   ((aZ c last).2.2=0->((aZ c last).2.1=0\/(aZ c last).2.1=1)/\0<ez (aZ c last).1 (aZ c last).2.1)/\((aZ c last).2.2≠0->(aZ c last).2.2=7\/(aZ c last).2.2=9\/((aZ c last).2.2=1/\IF (aZ c last).1)):=by
 have hk:=(fN.1 h.bears).1;have h4:=(fN.1 h.bears).2.1;have z7: ∀{P:Prop},(0:Int)=7->P:=fun h=>absurd h dDq;rw[aZ]
 by_cases h1:0<ez c last
 ·rw[if_pos h1];exact⟨fun L=> .du _ _,h,id,fun h=>z7 h,fun _=>⟨hl,h1⟩,fun h=>absurd rfl h⟩
 ·
  rw[if_neg h1]
  by_cases h2:0<ez c (1 -last)
  ·rw[if_pos h2];exact⟨fun L=> .du _ _,h,id,fun h=>z7 h,fun _=>⟨by simp only;omega,h2⟩,fun h=>absurd rfl h⟩
  ·
   rw[if_neg h2]
   by_cases h3:(ak c (1 -last)).bad=true
   ·rw[if_pos h3];exact⟨fun L=> .du _ _,h,id,fun h=>absurd (show(9:Int)=7 from h) dDq,fun h=>absurd (show(9:Int)=0 from h) dDq,fun _=> .inr (.inl rfl)⟩
   ·
    rw[if_neg h3];refine⟨fun L=>aii oM,h.erase cf oM oM oM,fun g=>g.erase h.bears cf oM,WB,fun he=>⟨by simp only;omega,?_⟩,fun he=>?_⟩
    ·obtain⟨e1,e2,e3,e4,e5⟩:=Dr he;have hh:=(qz.1 e1).1;have hd:=fe hk;show 0<ez (dz c (1 -last)) (1 -last);rw[e5,ez,ly,ru hh,e4,e3];simp only[auH,if_false];omega
    ·
     simp only at he;rcases LF c (1 -last)with q|q|q|q
     ·exact absurd q he
     ·
      refine .inr (.inr ⟨q,?_⟩);simp only;have fj:=aix q;have aiz:dz c (1 -last)=c:=by rw[dz,q,iW,if_neg dDq,gv,if_neg (by rw[fj];simp)]
      rw[aiz];have hh:iw c (1 -last)=true:=iz.2 ⟨hk,oM,oM⟩
      by_cases ho:c.ops<cT
      ·right;refine⟨1 -last,?_⟩;apply aut;intro hw;rw[qz.2 ⟨hh,ho,oM⟩]at fj;cases fj
      ·exact .inl oM
     ·exact .inl q
     ·exact .inr (.inl q)
theorem aiA{c:CV}{b:Int}{p:List UInt8}(hh:iw c b=true)(hf:0<ez c b)(hl:(p.length:Int)=c.size)(h:bC c b p=1):cT<=c.ops/\gN c b (ak c b).used p=c:=by
 have fj:oO c b (ak c b).used p=false:=by
  cases ho:oO c b (ak c b).used p with
  |false=>rfl
  |true=>
   rw[bC,kA,if_pos ho]at h;split at h
   ·cases h
   split at h
   ·cases h
   split at h
   ·rw[mc]at h;split at h<;>cases h
   cases h
 have hu:=(fy.1 (rp hh)).2.1;have hb:=G9 hf;rw[ez,if_neg (by rw[hb];simp)]at hf;refine⟨?_,by rw[gN,if_neg (by rw[fj];simp)]⟩;apply aut;intro hw;rw[j7.2 ⟨hh,hu,oM,hl,oM⟩]at fj;cases fj
theorem ua.prog{g:Nat}{a:List Int}{c:CV}{b:Int}{p:List UInt8}(h:ua g a c)(hf:c.aA=[])(he:bC c b p≠0):ua g a (bB c b p):=by
 intro k k0 k1 e;rw[bB,IE,WX hf he]at e;rw[bB,(G4 _ _ _).pages,WX hf he]at k1;exact h k k0 k1 e
theorem WY{p:List UInt8}: ∀(l:List (List UInt8)) (m:Nat),m<=l.foldl (fun m p=>max m (lA p)) m/\(p∈l->lA p<=l.foldl (fun m p=>max m (lA p)) m)
 |[],m=>⟨Nat.le_refl _,fun h=>by cases h⟩
 |q::r,m=>by
  obtain⟨h1,h2⟩:=WY (p:=p) r (max m (lA q));refine⟨by rw[avq];omega,fun h=>?_⟩;rw[avq];rcases auc.1 h with rfl|h
  ·omega
  exact h2 h
theorem NQ{M:Nat}: ∀(l:List (List UInt8)) (m:Nat),m<=M->(∀p∈l,lA p<=M)->l.foldl (fun m p=>max m (lA p)) m<=M
 |[],m,h,_=>h
 |q::r,m,h,hp=>by
  rw[avq];exact NQ r _ (by have:=hp q auD;omega) fun p iP=>hp p (aui _ iP)
theorem Wv.last{g:Nat}{at_ a:List Int}{last:Int}{c:CV}(h:Wv g at_ last a c)(hp:Pl c a){b:Int}(hb:b=0\/b=1){k0:Int}(q0:0<=k0)(q1:k0/c.pages=b)(q2:bH (bS c k0)=(⟨g+1,a⟩,0)):
  fw ⟨c,a,g+1,if mi c 1=g+1 then 1 else b⟩:=by
 have jM:2<=c.pages:=(fN.1 h.bears).2.2.1;obtain⟨l0,l1⟩:=Ev h.bears;have bq: ∀k:Int,k/c.pages<2->k<2*c.pages:=fun k hk=>by
  apply aut;intro hn;have:2<=k/c.pages:=by
   have:=Int.ediv_le_ediv (show 0<c.pages by omega) (show 2*c.pages<=k by omega);rwa [Int.mul_ediv_cancel _ oM]at this
  omega
 obtain⟨i,hR,i0,i1,i2,i3⟩:=h.WU hp q0 (bq k0 oM) q2;have MT:i/c.pages=0\/i/c.pages=1:=by
  have h1:=av3 i0 (show 0<=c.pages by omega);have h2:i/c.pages<2:=Int.ediv_lt_of_lt_mul oM i1;omega
 have hle: ∀k,0<=k->k<2*c.pages->lA (bS c k)<=g+1:=fun k k0 k1=>by
  rw[lA];split
  ·
   rename_i hv;obtain⟨j,_,_,_,_,_,j5⟩:=h.Bh;rcases j5 k k0 k1 hv with r|r|r
   ·omega
   ·omega
   ·rw[r.1];exact at5 _
  ·omega
 have WZ: ∀p∈(ak c 1).pages,∃k,c.pages<=k/\k<2*c.pages/\bS c k=p:=fun p yz=>by
  obtain⟨j,hj⟩:=aul yz;have km:=(zz.1 hj).1;refine⟨c.pages+j,oM,oM,?_⟩;have:=vl h.bears (k:=(ak c 0).pages.length+j) oM;rw[show(((ak c 0).pages.length+j:Nat):Int)=c.pages+j by omega]at this;rw[←this];simp only[List.getD];rw[auf oM,auM,hj];rfl
 have aiB:i/c.pages=(if mi c 1=g+1 then 1 else b):=by
  rcases MT with e|e
  ·
   have fo:i<c.pages:=by
    apply aut;intro hn;have:=Int.ediv_le_ediv (show 0<c.pages by omega) (show c.pages<=i by omega);rw[Int.ediv_self oM]at this;omega
   have hg:mi c 1<=g:=by
    refine NQ _ 0 (auo _) fun p yz=>?_;obtain⟨k,C5,oy,rfl⟩:=WZ p yz;rw[lA];split
    ·
     rename_i hv;obtain⟨j,_,_,_,_,_,j5⟩:=h.Bh;rcases j5 k oM oy hv with r|r|r
     ·omega
     ·omega
     ·have:=i3 k oy r.1;omega
    ·omega
   rw[if_neg oM,e];have atH:=i3 k0 (bq k0 oM) q2;have:k0/c.pages=0:=auZ q0 oM;omega
  ·
   have fo:c.pages<=i:=by
    apply aut;intro hn;have:i/c.pages=0:=auZ i0 oM;omega
   have hg:mi c 1=g+1:=by
    have h1:mi c 1<=g+1:=NQ _ 0 (auo _) fun p yz=>by
     obtain⟨k,C5,oy,rfl⟩:=WZ p yz;exact hle k oM oy
    have h2:bS c i∈(ak c 1).pages:=by
     rw[bS,e];have oW:0<=i%c.pages:=av4 _ oM;have qM:i%c.pages<c.pages:=av8 _ oM;have hj:(i%c.pages).toNat<(ak c 1).pages.length:=by omega
     simp only[List.getD];rw[at2 hj];exact avL hj
    have h3:=(WY (p:=bS c i) (ak c 1).pages 0).2 h2;have h4:lA (bS c i)=g+1:=by rw[lA,if_pos (by rw[i2]),i2]
    have h5:mi c 1=(ak c 1).pages.foldl (fun m p=>max m (lA p)) 0:=rfl;omega
   rw[if_pos hg,e]
 rw[←aiB];exact hR
theorem W0: ∀(n:Nat) {x:WV} {a:List Int} {b:List UInt8},db x->Wv x.v.gen x.v.at_ x.v.last a x.v.ae->Pl x.v.ae a->iN x.v.ae->bH b=(⟨x.v.gen+1,a⟩,0)->(b.length:Int)=x.v.ae.size->(cT -x.v.ae.ops).toNat<n->
  (∀L,Kd L x.v.ae (gx n x a b).1.v.ae)/\((gx n x a b).2=0->fw (gx n x a b).1.v/\(gx n x a b).1.v.at_=a)/\
  ((gx n x a b).2≠0->(gx n x a b).1=x.on (gx n x a b).1.v.ae/\Wv x.v.gen x.v.at_ x.v.last a (gx n x a b).1.v.ae/\(x.v.ae.aA=[]->ua x.v.gen a x.v.ae->ua x.v.gen a (gx n x a b).1.v.ae)/\
   ((gx n x a b).2=7\/(gx n x a b).2=9\/((gx n x a b).2=1/\IF (gx n x a b).1.v.ae)))/\((gx n x a b).2=7->(gx n x a b).1.v.ae.off=true)
 |0,x,a,b,_,_,_,_,_,_,hn=>by omega
 |n+1,x,a,b,hx,hw,ha,cf,hr,dI,hn=>by
  have hl:=hx.last;obtain⟨k1,k2,k3,k4,k5,k6⟩:=aiy hw cf hl;obtain⟨o1,o2,o3,o4⟩:=Ha (last:=x.v.last) hx.ae hl;have kO:0<=x.v.last:=by omega
  rw[gx]
  by_cases h0:(aZ x.v.ae x.v.last).2.2≠0
  ·rw[if_pos h0];exact⟨k1,fun h=>absurd h h0,fun _=>⟨rfl,k2,fun _ g=>k3 g,k6 h0⟩,k4⟩
  ·
   rw[if_neg h0];obtain⟨g1,g2⟩:=k5 (by simpa using h0);have aiC:iN (aZ x.v.ae x.v.last).1:=cf.kd (k1 []);have hh:iw (aZ x.v.ae x.v.last).1 (aZ x.v.ae x.v.last).2.1=true:=by
    have:=(fN.1 k2.bears).2.1;exact iz.2 ⟨o1,oM,oM⟩
   have rF:0<=(aZ x.v.ae x.v.last).2.1:=by omega
   have fD:=k2.prog aiC rF kO hr;have wL: ∀L,Kd L x.v.ae (bB (aZ x.v.ae x.v.last).1 (aZ x.v.ae x.v.last).2.1 b):=fun L=>(k1 L).trans Iv
   by_cases h1:bC (aZ x.v.ae x.v.last).1 (aZ x.v.ae x.v.last).2.1 b=0
   ·
    rw[if_pos h1];refine⟨wL,fun _=>⟨?_,rfl⟩,fun h=>absurd rfl h,fun h=>absurd (show(0:Int)=7 from h) dDq⟩;have hz:=qD h1;obtain⟨j1,j2,j3,j4,j5⟩:=j7.1 hz.1;have hP:=(iY (aZ x.v.ae x.v.last).1 (aZ x.v.ae x.v.last).2.1 b).pages;generalize(aZ x.v.ae x.v.last).1=c at*;generalize(aZ x.v.ae x.v.last).2.1=B at*;have hd:(B*c.pages+(ak c B).used)/c.pages=B:=by
     rw[avT,avh _ _ oM,auZ j2 j3,avY]
    have hm:(B*c.pages+(ak c B).used)%c.pages=(ak c B).used:=by
     rw[avT,awv,awC j2 j3]
    have DU:=(fy.1 (rp j1)).1;have qO:bS (bB c B b) (B*c.pages+(ak c B).used)=b:=by
     rw[hz.2.2.2.2];show(ak _ ((B*c.pages+(ak c B).used)/c.pages)).pages.getD ((B*c.pages+(ak c B).used)%c.pages).toNat []=b;rw[hd,hm,iU,ru j1];simp only[List.getD];rw[auk oM,pL,hz.2.2.2.1];rfl
    have:0<=B*c.pages:=avG rF oM;exact fD.last (k0:=B*c.pages+(ak c B).used) (ha.kd (wL a) fun _ g=>g) g1 oM (by rw[hP,hd]) (by rw[qO];exact hr)
   ·
    rw[if_neg h1]
    by_cases h9:bC (aZ x.v.ae x.v.last).1 (aZ x.v.ae x.v.last).2.1 b≠9
    ·
     rw[if_pos h9];refine⟨wL,fun h=>absurd h h1,fun _=>⟨rfl,fD,fun hf fj=>(k3 fj).prog (by rw[(k1 []).iM];exact hf) h1,?_⟩,Ix⟩;rcases Ds (aZ x.v.ae x.v.last).1 (aZ x.v.ae x.v.last).2.1 (ak (aZ x.v.ae x.v.last).1 (aZ x.v.ae x.v.last).2.1).used b with q|q|q|q
     ·exact absurd q h1
     ·obtain⟨t1,t2⟩:=aiA hh g2 (by rw[dI,o2.size]) q;refine .inr (.inr ⟨q, .inl ?_⟩);simp only[WV.on];rw[bB,Dm,t2];exact t1
     ·exact .inl q
     ·exact absurd q h9
    ·
     rw[if_neg h9];have e9:bC (aZ x.v.ae x.v.last).1 (aZ x.v.ae x.v.last).2.1 b=9:=by simpa using h9
     have ho:=uM (G9 g2) (p:=b) (.inl e9);have bJ:=mg o1 (aZ x.v.ae x.v.last).2.1 b;have fI:=o2.trans (iY (aZ x.v.ae x.v.last).1 (aZ x.v.ae x.v.last).2.1 b);have hle:=tw bJ;have fY:=hx.on bJ fI;obtain⟨t1,t2,t3,t4⟩:=W0 n (x:=x.on (bB (aZ x.v.ae x.v.last).1 (aZ x.v.ae x.v.last).2.1 b)) (a:=a) (b:=b) fY fD (ha.kd (wL a) fun _ g=>g) (cf.kd (wL [])) hr (by rw[dI];exact fI.size.symm) (by simp only[WV.on];omega);refine⟨fun L=>(wL L).trans (t1 L),t2,fun h=>?_,t4⟩;obtain⟨s1,s2,s3,s4⟩:=t3 h;refine⟨by rw[s1,S1];rfl,s2,fun hf fj=>s3 (by rw[←hf];exact(wL []).iM) ((k3 fj).prog (by rw[(k1 []).iM];exact hf) h1),s4⟩
structure Sf(x:WV)(bs:List (List UInt8))(y:WV)(e:Int):Prop where
 kd:Kd [] x.v.ae y.v.ae
 len:y.v.at_.length=x.v.at_.length
 cP:e=0->fw y.v/\cG y.v=bs
 err:e≠0->(e=7\/e=9\/(e=1/\IF y.v.ae))\/(fw y.v/\cG y.v=cG x.v)
 zS:e≠0->x.v.ae.aA=[]->fw y.v/\cG y.v=cG x.v
 any: ∃u:VV,fw u/\u.ae=y.v.ae/\u.at_.length=x.v.at_.length/\(cG u=cG x.v\/cG u=bs)
 off:e=7->y.v.ae.off=true
theorem W1{v:VV}{c:CV}(hp:Pl v.ae v.at_)(k:Kd v.at_ v.ae c):cG {v with ae:=c}=cG v:=Iy hp k fun _ h=>h
theorem Sf.data{x:WV}(h:fw x.v){c:CV}(k:Kp x.v.at_ x.v.ae c){e:Int}{bs:List (List UInt8)}(wk:e=0->bs=cG x.v)(ho:e=7->c.off=true):Sf x bs (x.on c) e:=by
 have h2:fw (x.on c).v/\cG (x.on c).v=cG x.v:=⟨h.kp k,W1 h.pl k.toKd⟩;exact⟨k.toKd.sub fun _ h=>absurd h avO,rfl,fun g=>⟨h2.1,by rw[wk g];exact h2.2⟩,fun _=> .inr h2,fun _ _=>h2,⟨_,h2.1,rfl,rfl, .inl h2.2⟩,ho⟩
theorem Sf.trans{x y z:WV}{bs:List (List UInt8)}{e:Int}(h:Sf x (cG x.v) y 0)(g:Sf y bs z e):Sf x bs z e:=by
 have hb:=(h.cP rfl).2;refine⟨h.kd.trans g.kd,g.len.trans h.len,g.cP,fun he=>?_,fun he hf=>?_,?_,g.off⟩
 ·rw[←hb];exact g.err he
 ·rw[←hb];exact g.zS he (by rw[h.kd.iM];exact hf)
 rw[←hb,←h.len];exact g.any
theorem NR{x:WV}{a:List Int}(hx:db x)(h:fw x.v)(cf:iN x.v.ae)(ha:Pl x.v.ae a)(dj:a.length=x.v.at_.length):Sf x (a.map (eW x.v.ae)) (dQ x a).1 (dQ x a).2/\((dQ x a).2=0->(dQ x a).1.v.at_=a):=by
 rw[dQ]
 by_cases h0:(da ⟨x.v.gen+1,a⟩ x.v.ae.size).2≠0
 ·
  rw[if_pos h0];refine⟨?_,fun g=>absurd g h0⟩;have:=Sf.data (x:=x) h (.du _ _) (e:=(da ⟨x.v.gen+1,a⟩ x.v.ae.size).2) (bs:=a.map (eW x.v.ae)) (fun g=>absurd g h0) (fun g=>by
   rw[da]at g;split at g
   ·
    rcases A5 ⟨2,max 0 ((a.length:Int) -1),x.v.gen+1,ic a⟩ x.v.ae.size with q|q
    ·rw[q]at g;cases g
    rw[q]at g;cases g
   cases g)
  rw[S0]at this;exact this
 rw[if_neg h0];have hm:=aic (by simpa using h0);obtain⟨t1,t2,t3,t4⟩:=W0 ((cT -x.v.ae.ops).toNat+1) (b:=(da ⟨x.v.gen+1,a⟩ x.v.ae.size).1) hx (h.wv a) ha cf (aib hm) (Wq hm) oM;generalize gx ((cT -x.v.ae.ops).toNat+1) x a (da ⟨x.v.gen+1,a⟩ x.v.ae.size).1=W at*;have mX:cG ⟨W.1.v.ae,a,x.v.gen+1,0⟩=a.map (eW x.v.ae):=Iy ha (t1 a) fun _ g=>g;have ph:cG ⟨W.1.v.ae,x.v.at_,x.v.gen,x.v.last⟩=cG x.v:=W1 h.pl (t1 x.v.at_);have gn:=h.pl.kd (t1 x.v.at_) fun _ g=>g;have fC:=ha.kd (t1 a) fun _ g=>g;have aiD:ua x.v.gen a x.v.ae:=fun k k0 k1 e=>by
  have:=(WQ h.bears h.roots).2 k k0 k1 (by rw[e]);rw[e,h.gen]at this;simp only at this;omega
 refine⟨⟨t1 [],?_,fun g=>?_,fun g=>?_,fun g hf=>?_,?_,t4⟩,fun g=>(t2 g).2⟩
 ·
  by_cases g:W.2=0
  ·rw[(t2 g).2,dj]
  rw[(t3 g).1];rfl
 ·obtain⟨q1,q2⟩:=t2 g;refine⟨q1,?_⟩;show W.1.v.at_.map (eW W.1.v.ae)=_;rw[q2];exact mX
 ·exact .inl (t3 g).2.2.2
 ·obtain⟨q1,q2,q3,_⟩:=t3 g;have:=q2.WS gn (q3 hf aiD);rw[q1];exact⟨this,ph⟩
 by_cases g:W.2=0
 ·obtain⟨q1,q2⟩:=t2 g;refine⟨W.1.v,q1,rfl,by rw[q2,dj], .inr ?_⟩;show W.1.v.at_.map (eW W.1.v.ae)=_;rw[q2];exact mX
 obtain⟨q1,q2,_⟩:=t3 g;obtain⟨u,hu,hc,IG⟩:=q2.some gn fC;rcases IG with rfl|⟨e1,e2⟩
 ·exact⟨_,hu,rfl,rfl, .inl ph⟩
 refine⟨u,hu,hc,by rw[e1,dj], .inr ?_⟩;show u.at_.map (eW u.ae)=_;rw[e1,hc];exact mX
theorem Sf.by{x y:WV}{bs:List (List UInt8)}{e:Int}(h:Sf x bs y e)(b:Bool):Sf x bs {y with beyond:=b} e:=⟨h.kd,h.len,h.cP,h.err,h.zS,h.any,h.off⟩
theorem Sf.bP{x y:WV}{bs:List (List UInt8)}{e:Int}{b:Bool}(h:Sf {x with beyond:=b} bs y e):Sf x bs y e:=⟨h.kd,h.len,h.cP,h.err,h.zS,h.any,h.off⟩
theorem Sf.ne{x y:WV}{bs:List (List UInt8)}{e:Int}(h:Sf x (cG x.v) y e)(he:e≠0):Sf x bs y e:=
 ⟨h.kd,h.len,fun g=>absurd g he,h.err,h.zS,by
  obtain⟨u,h1,h2,h3,h4⟩:=h.any;exact⟨u,h1,h2,h3, .inl (h4.elim id id)⟩,h.off⟩
theorem Sf.stay{x:WV}(h:fw x.v){e:Int}(he:e≠7):Sf x (cG x.v) x e:=by
 have:=Sf.data (x:=x) h (.du _ _) (e:=e) (bs:=cG x.v) (fun _=>rfl) (fun g=>absurd g he);rw[S0]at this;exact this
theorem Sf.zero{x y:WV}{bs:List (List UInt8)}{e:Int}(h:Sf x bs y e)(h0:e≠0)(h7:e≠7)(h9:e≠9)(h1:e≠1):Sf x (cG x.v) y 0:=by
 have hr:fw y.v/\cG y.v=cG x.v:=(h.err h0).resolve_left fun g=>by
  rcases g with g|g|g
  ·exact h7 g
  ·exact h9 g
  exact h1 g.1
 exact⟨h.kd,h.len,fun _=>hr,fun g=>absurd rfl g,fun g=>absurd rfl g,⟨y.v,hr.1,rfl,h.len, .inl hr.2⟩,fun g=>absurd g dDq⟩
theorem aiE{x:WV}{src tgt:Int}(hx:db x)(h:fw x.v)(cf:iN x.v.ae)(nL:2<=src)(qd:0<=tgt->tgt≠src)(ht:0<=tgt->2<=tgt/\tgt<x.v.ae.blocks.length/\(ak x.v.ae tgt).bad=false):
  Sf x (cG x.v) (cZ x src tgt).1 (cZ x src tgt).2.2/\((cZ x src tgt).2.1=true->(cZ x src tgt).2.2=0/\k9 (cZ x src tgt).1.v.at_ x.v.ae src)/\((cZ x src tgt).2.2=6->(cZ x src tgt).1=x.on (cZ x src tgt).1.v.ae):=by
 have hp:1<=x.v.ae.pages:=by have:=hx.pages;omega
 obtain⟨t1,t2,t3,t4⟩:=ID nL qd hp x.v.at_ 0 (c:=x.v.ae) (a:=x.v.at_) hx.ae h.pl (.du _ _) h.pl rfl ht rfl (fun _ _=>rfl) (fun j n hj=>by omega) rfl;rw[cZ];split
 ·rename_i e he;exact⟨Sf.data h t1 (fun _=>rfl) (fun g=>t3 (by rw[he];exact congrArg some g)),fun g=>absurd (show false=true from g) (by simp),fun _=>rfl⟩
 ·rename_i he;obtain⟨g1,g2,g3,g4⟩:=t2 he;have fY:=hx.on (t1.ok hx.ae) t1.cm;have hw:=NR fY (h.kp t1) (cf.kd t1.toKd) g1 g3;have hs:=Sf.data h t1 (e:=0) (bs:=cG x.v) (fun _=>rfl) (fun g=>absurd g dDq);have mz:=hw.1;rw[show List.map (eW (x.on (cj x.v src tgt x.v.at_ 0 x.v.ae x.v.at_).c).v.ae) (cj x.v src tgt x.v.at_ 0 x.v.ae x.v.at_).a=cG x.v from g2]at mz;refine⟨hs.trans mz,fun g=>?_,fun g=>absurd g (LG _ _)⟩;simp only[decide_eq_true_eq]at g;refine⟨g,?_⟩;rw[hw.2 g];exact g4
theorem aiF{c:CV}{l:List az}{fl:List Int}(hd:sK c fl l):Kp fl c (cc c l).1/\((cc c l).2.2=7->(cc c l).1.off=true)/\((cc c l).2.2=0-> ∃(j:Nat) (x:az),(cc c l).2.1=(j:Int)+2/\l[j]? =some x/\x.bad=false):=by
 rw[cc]
 by_cases h1:(mU c l).2=true
 ·rw[if_pos h1];obtain⟨x,hx,k1,_,_,k4,_⟩:=pT (fun x h=>(tv h).1) h1;exact⟨.du _ _,fun h=>absurd (show(0:Int)=7 from h) dDq,fun _=>⟨_,x,by show(mU c l).1+2=(((mU c l).1.toNat:Nat):Int)+2;rw[auU (show 0<=(mU c l).1 from k4)],hx,k1⟩⟩
 rw[if_neg h1]
 by_cases h2:(ka c l).2=true
 ·rw[if_pos h2];obtain⟨x,hx,k1,_,_,k4,_⟩:=pT (fun x h=>(mj h).1) h2;obtain⟨d1,d2⟩:=IA hd h2;exact⟨zR (by show 2<=(ka c l).1+2;change 0<=(ka c l).1 at d2;omega) d1,Es,fun _=>⟨_,x,by show(ka c l).1+2=(((ka c l).1.toNat:Nat):Int)+2;rw[auU (show 0<=(ka c l).1 from k4)],hx,k1⟩⟩
 rw[if_neg h2]
 by_cases h3:(kb c l).2=true
 ·rw[if_pos h3];obtain⟨x,hx,k1,_,_,k4,_⟩:=pT (fun x h=>(mj h).1) h3;obtain⟨d1,d2⟩:=IA hd h3;exact⟨zR (by show 2<=(kb c l).1+2;change 0<=(kb c l).1 at d2;omega) d1,Es,fun _=>⟨_,x,by show(kb c l).1+2=(((kb c l).1.toNat:Nat):Int)+2;rw[auU (show 0<=(kb c l).1 from k4)],hx,k1⟩⟩
 rw[if_neg h3];exact⟨.du _ _,fun h=>absurd (show(6:Int)=7 from h) dDq,fun h=>absurd (show(6:Int)=0 from h) dDq⟩
theorem NT{e:Int}(h:j9 e=7):e=7:=by rw[j9]at h;split at h<;>omega
theorem W2{x:WV}{l:List az}{i:Int}(hx:db x)(h:fw x.v)(cf:iN x.v.ae)(ht:lD x.v.ae l)(hd:sK x.v.ae x.v.at_ l)(h0:0<=i)(hi:i<l.length):
  Sf x (cG x.v) (ff x l i).1 (ff x l i).2/\((ff x l i).2=6->(ff x l i).1=x.on (ff x l i).1.v.ae):=by
 obtain⟨k1,k2,k3⟩:=aiF (hd.set i.toNat);have gz: ∀{e:Int},(e=7->(cc x.v.ae (l.set i.toNat bc)).1.off=true)->Sf x (cG x.v) (x.on (cc x.v.ae (l.set i.toNat bc)).1) e:=fun ho=>Sf.data h k1 (fun _=>rfl) ho;rw[ff]
 by_cases qE:(cU x.v.ae l i).2≠0
 ·
  rw[if_pos qE];refine⟨gz fun g=>k2 ?_,fun _=>rfl⟩;have g:=NT g;rw[cU]at g;split at g
  ·cases g
  ·exact g
 ·
  rw[if_neg qE];have NU:(cU x.v.ae l i).2=0:=by simpa using qE
  have nM:=Hg (i:=i) hx.ae ht NU;have fY:=hx.on (k1.ok hx.ae) k1.cm;have bN:0<=(cU x.v.ae l i).1->(cU x.v.ae l i).1≠i+2:=fun hn e=>by
   have ea:rv x.v.ae l i=false:=by
    cases hq:rv x.v.ae l i with
    |false=>rfl
    |true=>rw[cU,if_pos hq]at hn;exact absurd (show(0:Int)<= -1 from hn) dDq
   rw[cU,if_neg (by rw[ea];simp)]at e NU;obtain⟨j,z,e1,e2,e3⟩:=k3 NU;have:j=i.toNat:=by omega
   rw[this,auk oM]at e2;obtain rfl:=at1 e2;cases e3
  obtain⟨m1,m2,m3⟩:=aiE (x:=x.on (cc x.v.ae (l.set i.toNat bc)).1) (src:=i+2) (tgt:=(cU x.v.ae l i).1) fY (h.kp k1) (cf.kd k1.toKd) oM bN (fun hn=>by
   have:=nM hn;exact⟨this.1,by simp only[WV.on];rw[k1.cm.len];exact this.2.1,this.2.2⟩)
  have mok:=He (x:=x.on (cc x.v.ae (l.set i.toNat bc)).1) (src:=i+2) (tgt:=(cU x.v.ae l i).1) fY (fun hn=>by
   have:=nM hn;exact⟨this.1,by simp only[WV.on];rw[k1.cm.len];exact this.2.1,this.2.2⟩)
  have BT:Sf x (cG x.v) (x.on (cc x.v.ae (l.set i.toNat bc)).1) 0:=gz fun g=>absurd g dDq;rw[(BT.cP rfl).2]at m1;generalize cZ (x.on (cc x.v.ae (l.set i.toNat bc)).1) (i+2) (cU x.v.ae l i).1=M at*
  by_cases h1:M.2.1=false\/(l.getD i.toNat eu).used=x.v.ae.pages
  ·rw[if_pos h1];exact⟨BT.trans m1,fun g=>by rw[m3 g,S1];rfl⟩
  ·
   rw[if_neg h1];have hdn:M.2.1=true:=by
    cases hq:M.2.1 with
    |true=>rfl
    |false=>exact absurd (.inl hq) h1
   obtain⟨e0,hdd⟩:=m2 hdn;rw[e0]at m1;have hR:=m1.cP rfl;have aiG:k9 M.1.v.at_ M.1.v.ae (i+2):=hdd.cm m1.kd.cm;have hc:=zR (c:=M.1.v.ae) oM aiG;have IH:=Sf.data (x:=M.1) hR.1 hc (e:=j9 (cJ M.1.v.ae (i+2)).2) (bs:=cG M.1.v) (fun _=>rfl) (fun g=>Es (NT g));have aiH:=BT.trans m1;rw[hR.2]at IH;exact⟨aiH.trans IH,fun g=>absurd (Hf g) (S6 _ _)⟩
theorem NV{x:WV}{l:List az}(h:fw x.v)(hd:sK x.v.ae x.v.at_ l):Sf x (cG x.v) (jz x l).1 (jz x l).2:=by
 rw[jz];split
 ·exact Sf.stay h (e:=6) dDq
 rename_i hq;obtain⟨d1,d2⟩:=IA hd (show(oT x.v.ae l).2=true by simpa using hq);exact Sf.data h (zR (by show 2<=(oT x.v.ae l).1+2;change 0<=(oT x.v.ae l).1 at d2;omega) d1) (fun _=>rfl) (fun g=>Es (NT g))
theorem sK.cm{c d:CV}{fl:List Int}{l:List az}(h:sK c fl l)(g:dV c d):sK d fl l:=fun i x hx hb hl=>(h i x hx hb hl).cm g
theorem aiI{x:WV}(hx:db x)(h:fw x.v)(cf:iN x.v.ae):Sf x (cG x.v) (eC x).1 (eC x).2:=by
 have ht:lD x.v.ae (dv x):=zr _ _;have hd:sK x.v.ae x.v.at_ (dv x):=Iz _ _;rw[eC];split
 ·
  rename_i hv;have II:=Lz (l:=dv x) hv.1;obtain⟨r1,r2⟩:=W2 (i:=(tE x).1) hx h cf ht hd II.1 II.2;split
  ·exact r1
  rename_i h6;have A7:(ff x (dv x) (tE x).1).2=6:=by simpa using h6
  have hz:=r1.zero oM oM oM oM;have e:=r2 A7;have hR:=hz.cP rfl;have ke:(ff x (dv x) (tE x).1).1.v.at_=x.v.at_:=by rw[e];rfl
  have:=NV hR.1 (l:=dv x) (by rw[ke];exact hd.cm hz.kd.cm);rw[hR.2]at this;exact hz.trans this
 exact NV h hd
theorem W3: ∀(n:Nat) {x:WV} {need:Int},db x->fw x.v->iN x.v.ae->Sf x (cG x.v) (lE n x need).1 (lE n x need).2
 |0,x,need,hx,h,cf=>Sf.stay h (e:=0) dDq
 |n+1,x,need,hx,h,cf=>by
  have hc:=aiI hx h cf;have rW:=Hh hx;rw[lE];split
  ·exact Sf.stay h (e:=0) dDq
  split
  ·exact(Sf.stay h (e:=0) dDq).by true
  split
  ·rename_i h0;rw[h0]at hc;have hR:=hc.cP rfl;have:=W3 n (need:=need) rW.1.ok hR.1 (cf.kd hc.kd);rw[hR.2]at this;exact hc.trans this
  split
  ·exact hc
  rename_i h6;have A7:(eC x).2=6:=by simpa using h6
  have hz:=hc.zero oM oM oM oM;have hR:=hz.cP rfl;split
  ·exact hz.by true
  have:=Sf.stay (x:=(eC x).1) hR.1 (e:=5) dDq;rw[hR.2]at this;exact hz.trans this
theorem W4{x:WV}{need:Int}(hx:db x)(h:fw x.v)(cf:iN x.v.ae):Sf x (cG x.v) (kU x need).1 (kU x need).2:=W3 _ hx h cf
theorem W5{x:WV}{l:List (Int×List UInt8)}(hx:db x)(h:fw x.v)(cf:iN x.v.ae)(hid: ∀y∈l,0<=y.1):Sf x (vk (cG x.v) l) (gI x l).1 (gI x l).2:=by
 have hs:Sf x (cG x.v) (cN x l).1 (cN x l).2:=(W4 (x:={x with beyond:=false}) (need:=mV l) (hx.by false) h cf).bP
 have ho:=Hi (l:=l) hx;rw[gI]
 by_cases h0:(cN x l).2≠0
 ·rw[if_pos h0];exact hs.ne h0
 rw[if_neg h0];rw[show(cN x l).2=0 by simpa using h0]at hs;have hR:=hs.cP rfl;obtain⟨t1,t2,t3⟩:=IC (v:=(cN x l).1.v) (aF:=(cN x l).1.beyond) l (c:=(cN x l).1.v.ae) (a:=(cN x l).1.v.at_) ho.ok.ae (by have:=ho.ok.tB;omega) hR.1.pl hR.1.pl hid
 by_cases h1:(gy x l).2.2≠0
 ·rw[if_pos h1];exact hs.trans (Sf.data hR.1 t1 (fun g=>absurd g h1) t3)
 rw[if_neg h1];obtain⟨g1,g2,g3⟩:=t2 (awW.1 h1);have fY:=ho.ok.on (t1.ok ho.ok.ae) t1.cm;have hw:=(NR fY (hR.1.kp t1) ((cf.kd hs.kd).kd t1.toKd) g1 g3).1;have e:List.map (eW (gy x l).1) (gy x l).2.1=vk (cG x.v) l:=by rw[←hR.2];exact g2
 have hd:=Sf.data (x:=(cN x l).1) hR.1 t1 (e:=0) (bs:=cG (cN x l).1.v) (fun _=>rfl) (fun g=>absurd g dDq);have fD:Sf ((cN x l).1.on (gy x l).1) (vk (cG x.v) l) (dQ ((cN x l).1.on (gy x l).1) (gy x l).2.1).1 (dQ ((cN x l).1.on (gy x l).1) (gy x l).2.1).2:=by rw[←e];exact hw
 exact hs.trans (Sf.trans hd fD)
theorem W6{l:List (Int×List UInt8)}(hid: ∀y∈l,0<=y.1): ∀(n:Nat) {x:WV},db x->fw x.v->iN x.v.ae->x.v.ae.blocks.length<n+n7 x.v.ae->Sf x (vk (cG x.v) l) (lF n x l).1 (lF n x l).2
 |0,x,hx,h,cf,hn=>by have:=S9 x.v.ae;omega
 |n+1,x,hx,h,cf,hn=>by
  have hb:=W5 (l:=l) hx h cf hid;have ho:=Hj (l:=l) hx;rw[lF];split
  ·rename_i h5;rw[h5.1]at hb;have hz:=hb.zero dDq dDq dDq dDq;have hR:=hz.cP rfl;have:=W6 hid n ho.ok hR.1 (cf.kd hz.kd) (by have:=ho.cm.len;omega);rw[hR.2]at this;exact hz.trans this
  exact hb
theorem W7{v:VV}{l:List (Int×List UInt8)}(h:fw v)(cf:iN v.ae):Sf ⟨v,false⟩ (vk (cG v) l) ⟨(fg v l).1,false⟩ (fg v l).2:=by
 rw[fg];split
 ·exact(Sf.stay (x:=⟨v,false⟩) h (e:=1) dDq).ne dDq
 rename_i h1;have W8:=awW.1 h1;split
 ·rename_i ho;have:=Sf.data (x:=⟨v,false⟩) h (.du _ _) (e:=7) (bs:=vk (cG v) l) (fun g=>absurd g dDq) (fun _=>ho);exact this
 have hid: ∀y∈l,0<=y.1:=fun y hy=>by
  obtain⟨j,hj⟩:=aul hy;have:=Dt.1 W8.2.2 j (zz.1 hj).1;rw[uR,show l.getD j (0,[])=y by simp[List.getD,hj],af0,uQ,af0,af0,decide_eq_true_eq]at this;exact this.1.1.1
 have:=W6 hid (v.ae.blocks.length+1) (x:=⟨v,false⟩) (Du W8.1) h cf (by show v.ae.blocks.length<_;omega);exact this.by false
theorem aiJ{t:List Rt}(h:cS t=true): ∀l:List Ch,cS (jk t l).1=true:=by
 intro l
 induction l generalizing t with
 |nil=>exact h
 |cons c r ih=>
  rw[jk];split
  ·exact ih (Vu h c)
  exact h
theorem aiK{t:List Rt}(h:cS t=true)(l:List Ch):cS (bT t l)=true:=by
 rw[bT];split
 ·exact aiJ h l
 exact h
def powC(c:CV):CV:={c with off:=false}
theorem fw.on{v:VV}(h:fw v)(b:Bool):fw {v with ae:={v.ae with off:=b}}:=by
 obtain⟨h1,h2,h3,h4,h5,h6,h7⟩:=h;exact⟨h1,h2,h3,h4,h5,h6,h7⟩
theorem W9{v:VV}(h:fw v):bG (powC v.ae)=(⟨powC v.ae,v.at_,v.gen,v.last⟩,0):=by
 have h2:=Eu.2 (h.on false);rw[mQ]at h2;simp only[af0,decide_eq_true_eq]at h2;obtain⟨⟨⟨g1,g2⟩,g3⟩,g4⟩:=h2;have hc:=L9 g1;change(bG (powC v.ae)).2=0 at g1;change(bG (powC v.ae)).1.gen=v.gen at g2;change(bG (powC v.ae)).1.last=v.last at g3;change(bG (powC v.ae)).1.at_=v.at_ at g4;change(bG (powC v.ae)).1.ae=powC v.ae at hc;generalize bG (powC v.ae)=F at*;obtain⟨⟨f1,f2,f3,f4⟩,f5⟩:=F;simp only at g1 g2 g3 g4 hc;subst g1 g2 g3 g4 hc;rfl
structure jT(f:FV):Prop where
 rt:fw f.aj
 jA:fh f.aj.ae≠0
 ids:(f.aj.at_.length:Int)=eJ f.aj.ae
 oo:lJ (cG f.aj)=0
 eq:f.table=kf (cG f.aj)
theorem Xa{v:VV}(h:fw v)(hm:fh v.ae≠0)(hi:(v.at_.length:Int)=eJ v.ae)(ht:lJ (cG v)=0):cy (powC v.ae)=(⟨⟨powC v.ae,v.at_,v.gen,v.last⟩,kf (cG v)⟩,0)/\lK (powC v.ae)=cG v:=by
 have hf:=W9 h;have:=Dy (c:=powC v.ae) hm (by rw[hf]) (by rw[hf];exact hi) (by rw[hf];exact ht);rw[hf]at this;exact this
theorem jT.load{f:FV}(h:jT f):cy (powC f.aj.ae)=(⟨⟨powC f.aj.ae,f.aj.at_,f.aj.gen,f.aj.last⟩,f.table⟩,0)/\lK (powC f.aj.ae)=cG f.aj:=by
 rw[h.eq];exact Xa h.rt h.jA h.ids h.oo
theorem zT{f:FV}:jP f=true↔jT f:=by
 constructor
 ·intro h;rw[aeF]at h;simp only[af0,decide_eq_true_eq]at h;obtain⟨⟨h1,h2⟩,h3⟩:=h;obtain⟨g0,g1,g2,g3⟩:=Dz h1;have hr:=Eu.1 h2;have hf:=W9 hr;change(bG (powC f.aj.ae)).2=0 at g1;change(((bG (powC f.aj.ae)).1.at_.length:Nat):Int)=_ at g2;change lJ (cG (bG (powC f.aj.ae)).1)=0 at g3;rw[hf]at g2 g3;refine⟨hr,g0,g2,g3,?_⟩;rw[←h3];exact congrArg (fun z:FV×Int=>z.1.table) (Xa hr g0 g2 g3).1
 intro h;rw[L7];change(cy (powC f.aj.ae)).2=0/\f.aj.gen=(cy (powC f.aj.ae)).1.aj.gen/\f.aj.last=(cy (powC f.aj.ae)).1.aj.last/\f.aj.at_=(cy (powC f.aj.ae)).1.aj.at_/\f.table=(cy (powC f.aj.ae)).1.table;rw[h.load.1];exact⟨rfl,rfl,rfl,rfl,rfl⟩
theorem jT.right{f:FV}(h:jT f):cS f.table=true:=by rw[h.eq];exact TR h.oo
theorem NW{c d:CV}(h:dV c d):fh d=fh c/\eJ d=eJ c:=by
 rw[fh,fh,eJ,eJ,h.len,h.pages,h.size];exact⟨rfl,rfl⟩
theorem Xb: ∀(l:List (Int×List UInt8)) (bs:List (List UInt8)) (i:Nat),l.Pairwise (fun p q=>p.1≠q.1)->(∀p∈l,0<=p.1)->(vk bs l)[i]? =match l.find? fun p=>decide (p.1=(i:Int))with
  |some p=>if i<bs.length then some p.2 else none
  |none=>bs[i]?
 |[],bs,i,_,_=>rfl
 |p::r,bs,i,hw,h0=>by
  obtain⟨mz,fD⟩:=auV.1 hw;have ih:=Xb r (bs.set p.1.toNat p.2) i fD fun q hq=>h0 q (aui _ hq);have hp0:=h0 p auD;show(vk (bs.set p.1.toNat p.2) r)[i]? =_;rw[ih,List.find?_cons]
  by_cases e:p.1=(i:Int)
  ·
   have hn:(r.find? fun q=>decide (q.1=(i:Int)))=none:=List.find?_eq_none.2 fun q hq=>by
    rw[decide_eq_true_eq];intro e2;exact mz q hq (by rw[e,e2])
   rw[hn,decide_eq_true e];simp only;rw[au1,if_pos oM]
   by_cases hl:i<bs.length
   ·rw[if_pos oM,if_pos hl]
   ·rw[if_neg oM,if_neg hl]
  ·
   rw[decide_eq_false e];simp only
   cases hf:r.find? fun q=>decide (q.1=(i:Int))with
   |some q=>simp only;rw[auA]
   |none=>simp only;rw[auF oM]
theorem Xc{a b:List (List UInt8)}(hl:a.length=b.length):vk a (fq a b)=b:=by
 have hs:=Ie a b (max a.length b.length);have NX:(fq a b).Pairwise fun p q=>p.1≠q.1:=hs.imp fun h=>by omega
 have hm: ∀p∈fq a b,∃i:Nat,i<max a.length b.length/\p=((i:Int),b.getD i [])/\ ¬a.getD i []=b.getD i []:=fun p hp=>Nq hp;refine au6 fun i=>?_;rw[Xb (fq a b) a i NX fun p hp=>by obtain⟨j,_,rfl,_⟩:=hm p hp;exact Int.natCast_nonneg _]
 cases hf:(fq a b).find? fun p=>decide (p.1=(i:Int))with
 |some p=>
  obtain⟨j,h1,h2,h3⟩:=hm p (awk hf);have e:=List.find?_some hf;rw[decide_eq_true_eq,h2]at e;simp only at e;have e':j=i:=by omega
  subst e';simp only
  by_cases hi:j<a.length
  ·rw[if_pos hi,h2,at2 oM];simp[List.getD,show j<b.length by omega]
  rw[if_neg hi,aub oM]
 |none=>
  simp only;rcases aud i a.length with hi|hi
  ·
   have fj:=List.find?_eq_none.1 hf;have hq:a.getD i []=b.getD i []:=by
    apply aut;intro bN;have l5:((i:Int),b.getD i [])∈fq a b:=by
     rw[fq,oV];exact List.mem_filterMap.2 ⟨i,auB.2 oM,by rw[uU,if_neg bN]⟩
    have:=fj _ l5;simp at this
   simp only[List.getD,at2 hi,at2 (show i<b.length by omega),avM]at hq;rw[at2 hi,at2 (show i<b.length by omega),hq]
  rw[aub hi,aub oM]
structure Af(f:FV)(t:List Rt)(o:FV)(e:Int):Prop where
 kd:Kd [] f.aj.ae o.aj.ae
 cP:e=0->jT o/\o.table=t
 bad:e≠0->o.table=f.table
 err:e≠0->(e=7\/e=9\/(e=1/\IF o.aj.ae))\/jT o
 zS:e≠0->f.aj.ae.aA=[]->jT o
 any: ∃g:FV,jT g/\g.aj.ae=o.aj.ae/\(g.table=f.table\/g.table=t)
 off:e=7->o.aj.ae.off=true
theorem BU{f:FV}{l:List Ch}(h:jT f):xP f l=if fh f.aj.ae<(bT f.table l).length then 5 else 0:=by
 have hr:=aiK h.right l;have hm:jA (eJ f.aj.ae) (dY f.aj.ae.size)=fh f.aj.ae:=rfl;rw[xP,jO,if_neg,hm];rintro(g|g)
 ·rw[hr]at g;cases g
 exact h.jA g
theorem NY{f:FV}{l:List Ch}(h:jT f)(he:dF f.table l≠0):bI f l=(f,dF f.table l):=TV (zT.2 h) he
theorem NZ{f:FV}{l:List Ch}(h:jT f)(he:dF f.table l=0)(hm:fh f.aj.ae<(bT f.table l).length):bI f l=(f,5):=by
 have:=BU (l:=l) h;rw[if_pos hm]at this;rw[TW (zT.2 h) he (by rw[this];decide),this]
theorem ub{f:FV}(h:jT f):eX f=cG f.aj:=h.load.2
theorem IJ{f:FV}{l:List Ch}(h:jT f)(he:dF f.table l=0)(hm: ¬fh f.aj.ae<(bT f.table l).length)(hc:fq (eX f) (dL f l)=[]):bI f l=(f,0)/\bT f.table l=f.table:=by
 have hE:=BU (l:=l) h;rw[if_neg hm]at hE;have hlen:(eX f).length=(dL f l).length:=by
  have:=(Ei hE).1;have h2:=h.ids;rw[ub h,Bd];have:((dL f l).length:Int)=eJ f.aj.ae:=this;omega
 have heq:=(ahr hlen).1 hc;have ht:kf (dL f l)=bT f.table l:=(VU hE).1;have e:bT f.table l=f.table:=by
  rw[←ht,←heq,ub h];exact h.eq.symm
 rw[TX (zT.2 h) he hE hc,e];exact⟨rfl,rfl⟩
theorem N1{f:FV}{l:List Ch}(h:jT f)(cf:iN f.aj.ae)(he:dF f.table l=0)(hm: ¬fh f.aj.ae<(bT f.table l).length):Af f (bT f.table l) (bI f l).1 (bI f l).2:=by
 have hE:=BU (l:=l) h;rw[if_neg hm]at hE
 by_cases hc:fq (eX f) (dL f l)=[]
 ·obtain⟨e1,e2⟩:=IJ h he hm hc;rw[e1,e2];exact⟨.du _ _,fun _=>⟨h,rfl⟩,fun g=>absurd rfl g,fun g=>absurd rfl g,fun g=>absurd rfl g,⟨f,h,rfl, .inl rfl⟩,fun g=>absurd (show(0:Int)=7 from g) dDq⟩
 have hlen:(eX f).length=(dL f l).length:=by
  have:=(Ei hE).1;have h2:=h.ids;rw[ub h,Bd];have:((dL f l).length:Int)=eJ f.aj.ae:=this;omega
 have hs:=W7 (l:=fq (eX f) (dL f l)) h.rt cf;rw[←ub h,Xc hlen]at hs;have ht:=VU hE;rw[Hv (zT.2 h) he hE hc];generalize fg f.aj (fq (eX f) (dL f l))=W at*;have fI:=NW hs.kd.cm;change fh W.1.ae=fh f.aj.ae/\eJ W.1.ae=eJ f.aj.ae at fI;have N2:W.1.at_.length=f.aj.at_.length:=hs.len;have ph:cG (⟨f.aj,false⟩:WV).v=eX f:=(ub h).symm;have mk: ∀{u:VV} {t:List Rt},fw u->dV f.aj.ae u.ae->u.at_.length=f.aj.at_.length->lJ (cG u)=0->t=kf (cG u)->jT ⟨u,t⟩:=fun hu hk hl Iq aiL=>by
  have:=NW hk;exact⟨hu,by show fh _≠0;rw[this.1];exact h.jA,by show(_:Int)=eJ _;rw[this.2,hl];exact h.ids,Iq,aiL⟩
 have hold:lJ (eX f)=0/\f.table=kf (eX f):=by rw[ub h];exact⟨h.oo,h.eq⟩
 refine⟨hs.kd,fun g=>?_,fun g=>?_,fun g=>?_,fun g hf=>?_,?_,hs.off⟩
 ·obtain⟨q1,q2⟩:=hs.cP g;change fw W.1 at q1;change cG W.1=dL f l at q2;simp only at g;refine⟨mk q1 hs.kd.cm N2 (by rw[q2];exact ht.2) (by rw[if_neg (fun k=>k g),q2];exact ht.1.symm),by rw[if_neg (fun k=>k g)]⟩
 ·simp only at g⊢;rw[if_pos g]
 ·simp only at g;refine(hs.err g).imp id fun q=>?_;rw[ph]at q;exact mk q.1 hs.kd.cm N2 (by rw[show cG W.1=eX f from q.2];exact hold.1) (by rw[if_pos g,show cG W.1=eX f from q.2];exact hold.2)
 ·simp only at g;have q:=hs.zS g hf;rw[ph]at q;exact mk q.1 hs.kd.cm N2 (by rw[show cG W.1=eX f from q.2];exact hold.1) (by rw[if_pos g,show cG W.1=eX f from q.2];exact hold.2)
 obtain⟨u,q1,q2,q3,q4⟩:=hs.any;change u.ae=W.1.ae at q2;have qe:dV f.aj.ae u.ae:=by rw[q2];exact hs.kd.cm
 rw[ph]at q4;rcases q4 with q4|q4
 ·exact⟨⟨u,f.table⟩,mk q1 qe q3 (by rw[q4];exact hold.1) (by rw[q4];exact hold.2),q2, .inl rfl⟩
 exact⟨⟨u,bT f.table l⟩,mk q1 qe q3 (by rw[q4];exact ht.2) (by rw[q4];exact ht.1.symm),q2, .inr rfl⟩
theorem iN.nil{c:CV}(h:c.aA=[]):iN c:=fun f hf=>by rw[h]at hf;cases hf
theorem aiM(t:List Rt)(c:List Ch):(jk t c).2=0\/(jk t c).2=1\/(jk t c).2=5\/(jk t c).2=6:=by
 induction c generalizing t with
 |nil=>exact .inl rfl
 |cons x r ih=>
  rw[jk];split
  ·exact ih _
  show eO t x=0\/eO t x=1\/eO t x=5\/eO t x=6;rw[eO];repeat' split
  all_goals decide
theorem aiN(t:List Rt)(l:List Ch):dF t l=0\/dF t l=1\/dF t l=5\/dF t l=6:=by
 rw[dF];split
 ·exact aiM t l
 exact .inr (.inl rfl)
theorem aiO(t:List Rt)(l:List Ch):dF t l≠7:=by have:=aiN t l;omega
theorem aiP{f:FV}(h:jT f)(hf:f.aj.ae.aA=[])(ho:f.aj.ae.off=false)(l:List Ch):
  jT (bI f l).1/\(bI f l).1.aj.ae.aA=[]/\(bI f l).1.aj.ae.off=false/\((bI f l).2=0->dF f.table l=0/\(bI f l).1.table=bT f.table l)/\((bI f l).2≠0->(bI f l).1.table=f.table)/\
   ((bI f l).2≠7)/\(dF f.table l≠0->bI f l=(f,dF f.table l)):=by
 have hE7:=aiO f.table l
 by_cases he:dF f.table l=0
 ·
  by_cases hm:fh f.aj.ae<(bT f.table l).length
  ·rw[NZ h he hm];exact⟨h,hf,ho,fun g=>absurd (show(5:Int)=0 from g) dDq,fun _=>rfl,show(5:Int)≠7 by decide,fun g=>absurd he g⟩
  ·
   have ha:=N1 h (.nil hf) he hm;have lO:=ha.kd.on ho (by rw[hf];intro x hx;cases hx);refine⟨?_,ha.kd.iM.trans hf,lO,fun g=>⟨he,(ha.cP g).2⟩,ha.bad,fun g=>?_,fun g=>absurd he g⟩
   ·
    by_cases g:(bI f l).2=0
    ·exact(ha.cP g).1
    ·exact ha.zS g hf
   ·have:=ha.off g;rw[lO]at this;cases this
 ·rw[NY h he];exact⟨h,hf,ho,fun g=>absurd g he,fun _=>rfl,hE7,fun _=>rfl⟩
theorem Xd{P Q:Nat->Bool}{j0:Nat}(hp:P j0=false)(hq: ∀j,Q j=(P j||decide (j=j0))): ∀n,((List.range n).filter Q).length=((List.range n).filter P).length+(if j0<n then 1 else 0)
 |0=>by simp
 |n+1=>by
  have ih:=Xd hp hq n;rw[avi,avj,avj,adr,adr,ih]
  by_cases e:n=j0
  ·
   have h1:Q n=true:=by rw[hq n,decide_eq_true e,Bool.or_true]
   have h2:P n=false:=by rw[e];exact hp
   rw[List.filter_cons_of_pos h1,List.filter_cons_of_neg (by rw[h2];simp),if_neg oM,if_pos oM];simp
  have h1:Q n=P n:=by rw[hq n,decide_eq_false e,Bool.or_false]
  have h2:([n].filter Q).length=([n].filter P).length:=by simp[au9,h1]
  rw[h2]
  by_cases h:j0<n
  ·rw[if_pos h,if_pos oM];omega
  rw[if_neg h,if_neg oM];omega
def dh(pages:Int)(fl:List Int)(i:Nat):Nat:=((List.range pages.toNat).filter fun j:Nat=>fl.contains (((i:Int)+2)*pages+j+1)).length
theorem yA{pages:Int}{fl gl:List Int}{i:Nat}(h: ∀n:Int,(n -1)/pages=(i:Int)+2->(n∈fl↔n∈gl))(hp:1<=pages):dh pages fl i=dh pages gl i:=by
 rw[dh,dh];congr 1;refine List.filter_congr fun j hj=>?_;have jn:=auB.1 hj;have hd:(((i:Int)+2)*pages+j+1 -1)/pages=(i:Int)+2:=by
  rw[avt,avT,avh _ _ oM,auZ oM oM,avY]
 rw[awn,avl,avl];exact h _ hd
theorem aiQ{pages n:Int}(hp:1<=pages){i:Nat}(hb:(n -1)/pages=(i:Int)+2): ∃j:Nat,j<pages.toNat/\n=((i:Int)+2)*pages+j+1/\(n -1)%pages=j:=by
 have h0:0<=(n -1)%pages:=av4 _ oM;have h1:(n -1)%pages<pages:=av8 _ oM;have h2:=Int.mul_ediv_add_emod (n -1) pages;rw[hb,Int.mul_comm]at h2;exact⟨((n -1)%pages).toNat,oM,oM,oM⟩
theorem N3{pages n:Int}{fl gl:List Int}{i0:Nat}(hp:1<=pages)(hb:(n -1)/pages=(i0:Int)+2)(hn:n∉fl)(h: ∀m,m∈gl↔m∈fl\/m=n)(i:Nat):dh pages gl i=dh pages fl i+(if i=i0 then 1 else 0):=by
 by_cases e:i=i0
 ·
  subst e;obtain⟨j0,IK,en,_⟩:=aiQ hp hb;rw[if_pos rfl,dh,dh];have:=Xd (P:=fun j:Nat=>fl.contains (((i:Int)+2)*pages+j+1)) (Q:=fun j:Nat=>gl.contains (((i:Int)+2)*pages+j+1)) (j0:=j0) (by
   rw[←en]
   cases hc:fl.contains n with
   |false=>rfl
   |true=>exact absurd (avl.1 hc) hn) (fun j=>by
   rw[awn,avc,avl,avl,decide_eq_true_eq,h,en];constructor
   ·
    rintro(g|g)
    ·exact .inl g
    exact .inr oM
   rintro(g|g)
   ·exact .inl g
   exact .inr (by rw[g])) pages.toNat
  rw[if_pos IK]at this;exact this
 rw[if_neg e,avk];refine yA (fun m hm=>?_) hp;rw[h];constructor
 ·
  rintro(g|g)
  ·exact g
  rw[g,hb]at hm;omega
 exact .inl
theorem Xe{pages:Int}{l:List Int}(hp:1<=pages)(i:Nat)(h: ∀n∈l,n=0\/1<=n): ∀k,k<=l.length->kD pages l k i=dh pages (l.take k) i
 |0,_=>by
  rw[dh,List.filter_eq_nil_iff.2 (fun j _=>by simp)];simp[kD]
 |k+1,hk=>by
  have ih:=Xe hp i h k oM;obtain⟨y,hy⟩: ∃y,l[k]? =some y:=⟨_,at2 oM⟩;have l5: ∀m,m∈l.take (k+1)↔m∈l.take k\/m=y:=fun m=>by
   rw[at6,hy,at7];simp
  rw[Dk,ih,qC hy];have va:nZ l k=(decide (y≠0)&& !(l.take k).contains y):=by rw[nZ,qC hy]
  by_cases h0:y=0
  ·rw[va,decide_eq_false (fun g=>g h0),awt,awt,if_neg (by simp),avk];refine yA (fun m hm=>?_) hp;rw[l5];refine⟨.inl,fun g=>g.elim id fun g=>?_⟩;exfalso;rw[g,h0]at hm;have:((0:Int) -1)/pages<0:=awA dDq oM;omega
  by_cases hc:(l.take k).contains y=true
  ·rw[va,hc,Bool.not_true,awj,awt,if_neg (by simp),avk];refine yA (fun m _=>?_) hp;rw[l5];exact⟨.inl,fun g=>g.elim id fun g=>by rw[g];exact avl.1 hc⟩
  have hn:y∉l.take k:=fun g=>hc (avl.2 g);have Vn:(l.take k).contains y=false:=by simpa using hc
  rw[va,Vn,decide_eq_true h0,avZ,avE,au2]
  by_cases hb:(y -1)/pages=(i:Int)+2
  ·rw[decide_eq_true hb,if_pos rfl,N3 hp hb hn l5 i,if_pos rfl]
  rw[decide_eq_false hb,if_neg (by simp),avk];refine yA (fun m hm=>?_) hp;rw[l5];exact⟨.inl,fun g=>g.elim id fun g=>by rw[g]at hm;exact absurd hm hb⟩
theorem IL{pages:Int}{l:List Int}(hp:1<=pages)(i:Nat)(h: ∀n∈l,n=0\/1<=n):kD pages l l.length i=dh pages l i:=by
 have:=Xe hp i h l.length (at5 _);rwa [aup]at this
def Std(c:CV)(fl:List Int):Prop:= ∀n∈fl,n≠0->lz c (n -1)=true
theorem Pl.nF{c:CV}{a:List Int}(h:Pl c a):Std c a:=fun _ hn h0=>h.place hn h0
theorem Std.append{c:CV}{a b:List Int}(h:Std c a)(g:Std c b):Std c (a++b):=fun n hn=>(at7.1 hn).elim (h n) (g n)
theorem Std.pos{c:CV}{fl:List Int}(h:Std c fl)(hp:1<=c.pages): ∀n∈fl,n=0\/1<=n:=fun n hn=>by
 by_cases h0:n=0
 ·exact .inl h0
 right;have:=(nr.1 (h n hn h0)).1;apply aut;intro bq;have:(n -1)/c.pages<0:=awA oM oM;omega
theorem Std.kd{c d:CV}{fl L:List Int}(h:Std c fl)(k:Kd L c d)(hs: ∀n∈fl,n∈L):Std d fl:=fun n hn h0=>(k.nm n (hs n hn) h0 (h n hn h0)).1
def qf(c:CV)(fl:List Int)(i:Nat):az:=if(ak c ((i:Int)+2)).bad=true then bc else⟨dh c.pages fl i,(ak c ((i:Int)+2)).used,(ak c ((i:Int)+2)).aU,false⟩
theorem zU{c:CV}{fl:List Int}(hp:1<=c.pages)(h:Std c fl):av c fl=(List.range (c.blocks.length -2)).map (qf c fl):=by
 rw[av,jx,kE,awJ];refine avf fun i _=>?_;simp only[Function.comp];rw[IL hp i (h.pos hp),pR,qf,uJ];split
 ·rfl
 rename_i hb;have:(ak c ((i:Int)+2)).bad=false:=by simpa using hb
 rw[this]
theorem Xf{c:CV}{fl:List Int}(hp:1<=c.pages)(h:Std c fl)(i:Nat)(hu:0<=(ak c ((i:Int)+2)).used):(dh c.pages fl i:Int)<=(ak c ((i:Int)+2)).used:=by
 have nI: ∀j,j∈(List.range c.pages.toNat).filter (fun j:Nat=>fl.contains (((i:Int)+2)*c.pages+j+1))->j<(ak c ((i:Int)+2)).used.toNat:=fun j hj=>by
  obtain⟨h1,h2⟩:=auC.1 hj;have jn:=auB.1 h1;have hm:=avl.1 h2;have h0:0<=((i:Int)+2)*c.pages:=avG oM oM;have cf:=nr.1 (h _ hm oM);have hd:(((i:Int)+2)*c.pages+j+1 -1)/c.pages=(i:Int)+2:=by
   rw[avt,avT,avh _ _ oM,auZ oM oM,avY]
  have rY:(((i:Int)+2)*c.pages+j+1 -1)%c.pages=j:=by
   rw[avt,avT,awv,awC oM oM]
  rw[hd,rY]at cf;omega
 have key: ∀(n m:Nat) (P:Nat->Bool),(∀j,j∈(List.range n).filter P->j<m)->((List.range n).filter P).length<=m:=by
  intro n m P
  induction n generalizing m with
  |zero=>intro _;simp
  |succ n ih=>
   intro hs;rw[avi,avj,adr]
   by_cases hP:P n=true
   ·have hm:n<m:=hs n (auC.2 ⟨List.mem_range.2 oM,hP⟩);have:=ih n fun j hj=>auB.1 (auC.1 hj).1;simp only[au9,awc,hP,if_true,ad2,alM];omega
   have:=ih m fun j hj=>hs j (by rw[avi,avj];exact auy _ hj);simp only[au9,awc,hP];simpa using this
 have:=key c.pages.toNat (ak c ((i:Int)+2)).used.toNat _ nI;rw[dh];omega
theorem vm{c:CV}{fl:List Int}(hp:1<=c.pages)(h:Std c fl)(i:Nat):dh c.pages fl i=0↔k9 fl c ((i:Int)+2):=by
 constructor
 ·intro h0;rw[←IL hp i (h.pos hp)]at h0;exact WH h0
 intro hd;rw[dh,aun,List.filter_eq_nil_iff];intro j hj hc;have jn:=auB.1 hj;have hm:=avl.1 hc;have h0:0<=((i:Int)+2)*c.pages:=avG oM oM;refine hd _ hm oM ?_;rw[avt,avT,avh _ _ oM,auZ oM oM,avY]
theorem N4{c d:CV}{fl gl:List Int}{i0:Nat}{x:az}(hp:1<=c.pages)(h:Std c fl)(hg:Std d gl)(hk:dV c d)(ho: ∀i:Nat,i≠i0->ak d ((i:Int)+2)=ak c ((i:Int)+2)/\dh c.pages gl i=dh c.pages fl i)(hx:qf d gl i0=x):av d gl=(av c fl).set i0 x:=by
 rw[zU (by rw[hk.pages];exact hp) hg,zU hp h,hk.len];refine au6 fun i=>?_;rw[au1]
 by_cases e:i0=i
 ·
  subst e;rw[if_pos rfl,aur,awV,aua]
  by_cases hi:i0<c.blocks.length -2
  ·rw[avw hi,if_pos hi,auI,hx]
  rw[if_neg hi,aub (by simpa using hi)];rfl
 rw[if_neg e,aua,aua]
 by_cases hi:i<c.blocks.length -2
 ·rw[avw hi,auI,auI];obtain⟨o1,o2⟩:=ho i (fun g=>e g.symm);rw[qf,qf,o1,hk.pages,o2]
 rw[aub (by simpa using hi)];rfl
theorem N5{c d:CV}{fl gl:List Int}(hp:1<=c.pages)(h:Std c fl)(hg:Std d gl)(hk:dV c d)(ho: ∀i:Nat,(ak d ((i:Int)+2)).bad=(ak c ((i:Int)+2)).bad/\(ak d ((i:Int)+2)).used=(ak c ((i:Int)+2)).used/\(ak d ((i:Int)+2)).aU=(ak c ((i:Int)+2)).aU/\((ak c ((i:Int)+2)).bad=false->dh c.pages gl i=dh c.pages fl i)):av d gl=av c fl:=by
 rw[zU (by rw[hk.pages];exact hp) hg,zU hp h,hk.len];refine avf fun i _=>?_;obtain⟨o1,o2,o3,o4⟩:=ho i;rw[qf,qf,o1,o2,o3,hk.pages]
 by_cases hb:(ak c ((i:Int)+2)).bad=true
 ·rw[if_pos hb,if_pos hb]
 rw[if_neg hb,if_neg hb,o4 (by simpa using hb)]
theorem wM{c:CV}{fl:List Int}{i:Nat}{x:az}(hp:1<=c.pages)(h:Std c fl)(hx:(av c fl)[i]? =some x):x=qf c fl i/\i<c.blocks.length -2:=by
 rw[zU hp h,aua]at hx;obtain⟨j,hj,rfl⟩:=avC.1 hx;obtain⟨hl,e⟩:=zz.1 hj;rw[List.getElem_range]at e;rw[awV]at hl;exact⟨by rw[e],hl⟩
theorem N6{c:CV}{fl:List Int}{i:Nat}(hb:(ak c ((i:Int)+2)).bad=false):qf c fl i=⟨dh c.pages fl i,(ak c ((i:Int)+2)).used,(ak c ((i:Int)+2)).aU,false⟩:=by rw[qf,if_neg (by rw[hb];simp)]
theorem N7{c:CV}{fl:List Int}(hk:aW c=true)(h:Std c fl)(h2:3<=c.blocks.length):mS (av c fl) c.pages=true:=by
 have hd:=fe hk;have dI:=mh c fl;refine tt.2 ⟨oM,oM,oM,oM,fun x hx=>?_⟩;obtain⟨i,hi⟩:=aul hx;obtain⟨rfl,fo⟩:=wM oM h hi;have pS:cT=1099511627776:=rfl;rw[qf];split
 ·exact sh.2 (by simp only[bc];omega)
 have hb:=fy.1 (tu hk (b:=(i:Int)+2) oM oM);have:=Xf oM h i hb.2.1;exact sh.2 ⟨by simp only;omega,this,hb.2.2.1,hb.2.2.2.1,hb.2.2.2.2.1⟩
theorem BW{R:az->Bool}{l:List az}{p:Int}(h:mS l p=true):mS (cl R l) p=true:=by
 obtain⟨h1,h2,h3,h4,h5⟩:=tt.1 h;refine tt.2 ⟨by rw[xE];exact h1,by rw[xE];exact h2,h3,h4,fun x hx=>?_⟩;obtain⟨y,hy,rfl⟩:=ava.1 hx;rw[iK];split
 ·have pS:cT=1099511627776:=rfl;exact sh.2 (by simp only[bc];omega)
 exact h5 y hy
theorem aiR{l:List az}{p:Int}(h:mS l p=true)(i:Nat):mS (l.set i bc) p=true:=by
 obtain⟨h1,h2,h3,h4,h5⟩:=tt.1 h;refine tt.2 ⟨by rw[auA];exact h1,by rw[auA];exact h2,h3,h4,fun x hx=>?_⟩;rcases auG hx with g|rfl
 ·exact h5 x g
 have pS:cT=1099511627776:=rfl;exact sh.2 (by simp only[bc];omega)
theorem IM{c:CV}{b k:Int}{p:List UInt8}(h:bC c b p=0)(hk:k.toNat≠b.toNat):ak (bB c b p) k=ak c k:=by
 obtain⟨h1,_,_,_,e⟩:=qD h;obtain⟨_,h3,h4⟩:=iz.1 (j7.1 h1).1;rw[e,iU,vj oM,if_neg hk]
theorem EC{c:CV}{b:Int}{p:List UInt8}(h:bC c b p=0):(ak (bB c b p) b).used=(ak c b).used+1/\(ak (bB c b p) b).aU=(ak c b).aU/\(ak (bB c b p) b).bad=false:=by
 obtain⟨h1,_,h3,_,e⟩:=qD h;rw[e,iU,ru (j7.1 h1).1];exact⟨rfl,rfl,h3⟩
theorem Xg{c:CV}{fl gl:List Int}{i0:Nat}{pg:List UInt8}(hk:aW c=true)(h:Std c fl)(hz:bC c ((i0:Int)+2) pg=0)(hm: ∀m,m∈gl↔m∈fl\/m=((i0:Int)+2)*c.pages+(ak c ((i0:Int)+2)).used+1):
  av (bB c ((i0:Int)+2) pg) gl=(av c fl).set i0 ⟨dh c.pages fl i0+1,(ak c ((i0:Int)+2)).used+1,(ak c ((i0:Int)+2)).aU,false⟩/\Std (bB c ((i0:Int)+2) pg) gl:=by
 have hd:=fe hk;have fI:=iY c ((i0:Int)+2) pg;obtain⟨q1,q2,q3,q4⟩:=IB (L:=fl) oM hz;have gn:=j7.1 (qD hz).1;have hb:(((i0:Int)+2)*c.pages+(ak c ((i0:Int)+2)).used+1 -1)/c.pages=(i0:Int)+2:=by
  rw[avt,avT,avh _ _ oM,auZ gn.2.1 gn.2.2.1,avY]
 have hn:((i0:Int)+2)*c.pages+(ak c ((i0:Int)+2)).used+1∉fl:=fun iO=>by
  have:=h _ iO oM;rw[avt,q4]at this;cases this
 have hS:Std (bB c ((i0:Int)+2) pg) gl:=fun m rY h0=>by
  rcases(hm m).1 rY with g|g
  ·exact h.kd (Iv (L:=fl)) (fun _ k=>k) m g h0
  ·rw[g,avt];exact q1
 have hl:=N3 oM hb hn hm;obtain⟨a1,a2,a3⟩:=EC hz;refine⟨N4 oM h hS fI (fun i hi=>⟨IM hz oM,by rw[hl i,if_neg hi];rfl⟩) ?_,hS⟩;rw[N6 a3,fI.pages,hl i0,if_pos rfl,a1,a2];rfl
theorem Xh: ∀(n:Nat) {c:CV} {b:Int},(fc n c b).2=0->(∀k:Int,k.toNat≠b.toNat->ak (fc n c b).1 k=ak c k)/\(ak (fc n c b).1 b).used=0/\(ak (fc n c b).1 b).aU=(ak c b).aU+1/\(ak (fc n c b).1 b).bad=false
 |0,c,b,h=>by
  obtain⟨e1,_,e3,e4,e5⟩:=Dr h;have hh:=(qz.1 e1).1;obtain⟨_,h3,h4⟩:=iz.1 hh;show(∀k:Int,k.toNat≠b.toNat->ak (dz c b) k=ak c k)/\(ak (dz c b) b).used=0/\(ak (dz c b) b).aU=(ak c b).aU+1/\(ak (dz c b) b).bad=false;rw[e5];refine⟨fun k hk=>by rw[ly,vj oM,if_neg hk],?_⟩;rw[ly,ru hh,e4];exact⟨rfl,rfl,e3⟩
 |n+1,c,b,h=>by
  rw[fc]at h⊢
  by_cases h0:bC c b (iX c)≠0
  ·rw[if_pos h0]at h;exact absurd h h0
  rw[if_neg h0]at h⊢;have r8:bC c b (iX c)=0:=by simpa using h0
  obtain⟨g1,g2,g3,g4⟩:=Xh n h;exact⟨fun k hk=>(g1 k hk).trans (IM r8 hk),g2,by rw[g3,(EC r8).2.1],g4⟩
theorem IN{c:CV}{fl:List Int}{i0:Nat}(hk:aW c=true)(h:Std c fl)(hd:k9 fl c ((i0:Int)+2))(hz:(cJ c ((i0:Int)+2)).2=0):av (cJ c ((i0:Int)+2)).1 fl=(av c fl).set i0 ⟨0,0,(ak c ((i0:Int)+2)).aU+1,false⟩/\Std (cJ c ((i0:Int)+2)).1 fl:=by
 have hdm:=fe hk;have kp:=zR (L:=fl) (c:=c) (b:=(i0:Int)+2) oM hd;have hS:=h.kd kp.toKd fun _ g=>g;obtain⟨z1,z2,z3,z4⟩:=Xh _ hz;change∀k:Int,k.toNat≠((i0:Int)+2).toNat->ak (cJ c ((i0:Int)+2)).1 k=ak c k at z1;change(ak (cJ c ((i0:Int)+2)).1 ((i0:Int)+2)).used=0 at z2;change(ak (cJ c ((i0:Int)+2)).1 ((i0:Int)+2)).aU=_ at z3;change(ak (cJ c ((i0:Int)+2)).1 ((i0:Int)+2)).bad=false at z4;refine⟨N4 oM h hS kp.cm (fun i hi=>⟨z1 _ oM,rfl⟩) ?_,hS⟩;rw[N6 z4,kp.cm.pages,z2,z3,(vm oM h i0).2 hd];rfl
structure Ok(n:Nat)(c:CV):Prop where
 ok:gH c=true
 nb: ∀b:Int,(ak c b).bad=false
 off:c.off=false
 cut: ∀f∈c.aA,f.fail=true->f.cut=true
 ops:c.ops+n<cT
 aU: ∀b:Int,(ak c b).aU+n<cT
theorem Ok.mono{n m:Nat}{c:CV}(h:Ok n c)(hm:m<=n):Ok m c:=⟨h.ok,h.nb,h.off,h.cut,by have:=h.ops;omega,fun b=>by have:=h.aU b;omega⟩
theorem Ok.EA{n:Nat}{c:CV}(h:Ok n c)(hs:(bt c).2=true):(bt c).1.cut=true:=by
 rw[bt]at hs⊢
 cases hf:c.aA.find? fun f=>decide (f.op=c.ops)with
 |none=>rw[hf]at hs;cases hs
 |some x=>
  rw[hf]at hs;simp only[avc]at hs;exact hs.elim id fun g=>h.cut x (awk hf) g
theorem Ok.ae{n:Nat}{c:CV}(h:Ok n c):aW c=true:=(fN.1 h.ok).1
theorem Xi{c d:CV}(h:gH c=true)(hk:aW d=true)(hl:dV c d):gH d=true:=by
 obtain⟨h1,h2,h3,h4⟩:=fN.1 h;exact fN.2 ⟨hk,by rw[hl.len];exact h2,by rw[hl.pages];exact h3,by rw[hl.size];exact h4⟩
theorem Ok.prog{n:Nat}{c:CV}{b:Int}{p:List UInt8}(h:Ok (n+1) c)(h0:0<=b)(h1:b<c.blocks.length)(hu:(ak c b).used<c.pages)(hl:(p.length:Int)=c.size):(bC c b p=0/\Ok n (bB c b p))\/bC c b p=7:=by
 have hh:iw c b=true:=iz.2 ⟨h.ae,h0,h1⟩;have ph:=fy.1 (rp hh);have Xj:=h.ops;have gn:oO c b (ak c b).used p=true:=j7.2 ⟨hh,ph.2.1,hu,hl,oM⟩
 by_cases hs:(bt c).2=true
 ·right;rw[bC,kA,if_pos gn,if_neg (by rw[h.off];simp),if_neg (by rw[h.nb b];simp),if_pos hs,mc,if_pos (h.EA hs)]
 left;have hz:bC c b p=0:=by
  rw[bC,kA,if_pos gn,if_neg (by rw[h.off];simp),if_neg (by rw[h.nb b];simp),if_neg hs]
 refine⟨hz,?_⟩;have e:=(qD hz).2.2.2.2;have hf:(bB c b p).aA=c.aA:=by rw[e];rfl
 have ho:(bB c b p).ops=c.ops+1:=by rw[e];rfl
 have lO:(bB c b p).off=false:=by rw[e,iU,(show(bt c).2=false by simpa using hs)];rfl
 have ke:=EC hz;have tZ: ∀k:Int,(ak (bB c b p) k).bad=false/\(ak (bB c b p) k).aU=(ak c k).aU:=fun k=>by
  by_cases hk:k.toNat=b.toNat
  ·
   have e1:ak (bB c b p) k=ak (bB c b p) b:=by simp only[ak,hk]
   have e2:ak c k=ak c b:=by simp only[ak,hk]
   rw[e1,e2];exact⟨ke.2.2,ke.2.1⟩
  rw[IM hz hk];exact⟨h.nb k,rfl⟩
 exact⟨Xi h.ok (mg h.ae b p) (iY c b p),fun k=>(tZ k).1,lO,by rw[hf];exact h.cut,by rw[ho];omega,fun k=>by rw[(tZ k).2];have:=h.aU k;omega⟩
theorem Ok.erase{n:Nat}{c:CV}{b:Int}(h:Ok (n+1) c)(h0:0<=b)(h1:b<c.blocks.length):(ei c b=0/\Ok n (dz c b))\/ei c b=7:=by
 have hh:iw c b=true:=iz.2 ⟨h.ae,h0,h1⟩;have Xj:=h.ops;have hwb:=h.aU b;have Xk:pM c b=true:=qz.2 ⟨hh,oM,oM⟩
 by_cases hs:(bt c).2=true
 ·right;rw[ei,if_pos Xk,if_neg (by rw[h.off];simp),if_neg (by rw[h.nb b];simp),if_pos hs,mc,if_pos (h.EA hs)]
 left;have hz:ei c b=0:=by
  rw[ei,if_pos Xk,if_neg (by rw[h.off];simp),if_neg (by rw[h.nb b];simp),if_neg hs]
 refine⟨hz,?_⟩;have e:=(Dr hz).2.2.2.2;have hf:(dz c b).aA=c.aA:=by rw[e];rfl
 have ho:(dz c b).ops=c.ops+1:=by rw[e];rfl
 have lO:(dz c b).off=false:=by rw[e,ly,(show(bt c).2=false by simpa using hs)];rfl
 obtain⟨_,h3,h4⟩:=iz.1 hh;have tZ: ∀k:Int,(ak (dz c b) k).bad=false/\(ak (dz c b) k).aU<=(ak c k).aU+1:=fun k=>by
  rw[e,ly,vj oM];split
  ·
   rename_i hk;have e2:ak c k=ak c b:=by simp only[ak,hk]
   rw[e2];exact⟨h.nb b,by simp only;omega⟩
  exact⟨h.nb k,oM⟩
 exact⟨Xi h.ok (Dl h.ae b) (xC c b),fun k=>(tZ k).1,lO,by rw[hf];exact h.cut,by rw[ho];omega,fun k=>by have:=(tZ k).2;have:=h.aU k;omega⟩
theorem aiS{c:CV}(h:gH c=true):((iX c).length:Int)=c.size:=by
 obtain⟨h1,_,_,h4⟩:=fN.1 h;have hd:=fe h1;have hf:oP c.size=true:=tn.2 ⟨h4,oM⟩;exact Eo (sa.2 ⟨hf, .inl rfl,dDq,dDq,by show(0:Nat)<_;omega,by rw[dY,if_pos hf];simp only[alM];omega⟩)
theorem Ok.clear{n:Nat}: ∀(m:Nat) {c:CV} {b:Int},Ok (n+(m+1)) c->0<=b->b<c.blocks.length->(m:Int)<=c.pages -(ak c b).used->((fc m c b).2=0/\Ok n (fc m c b).1)\/(fc m c b).2=7
 |0,c,b,h,h0,h1,hm=>h.erase h0 h1
 |m+1,c,b,h,h0,h1,hm=>by
  rcases h.prog (n:=n+(m+1)) (p:=iX c) h0 h1 oM (aiS h.ok)with⟨e,g⟩|e
  ·rw[fc,if_neg (by rw[e];simp)];have fI:=iY c b (iX c);exact Ok.clear m g h0 (by rw[fI.len];exact h1) (by rw[fI.pages,(EC e).1];omega)
  right;rw[fc,if_pos (by rw[e];decide)];exact e
theorem Ok.IP{n:Nat}{c:CV}{b:Int}(h:Ok (n+17) c)(h0:0<=b)(h1:b<c.blocks.length):((cJ c b).2=0/\Ok n (cJ c b).1)\/(cJ c b).2=7:=by
 have hd:=fe h.ae;have ph:=fy.1 (tu h.ae h0 h1);have hf:ez c b=c.pages -(ak c b).used:=by rw[ez,if_neg (by rw[h.nb b];simp)]
 exact Ok.clear (n:=n) (ez c b).toNat (h.mono oM) h0 h1 oM
theorem Ok.root{n:Nat}{c:CV}{last:Int}(h:Ok (n+1) c)(hl:last=0\/last=1):((aZ c last).2.2=0/\Ok n (aZ c last).1)\/(aZ c last).2.2=7:=by
 have h4:=(fN.1 h.ok).2.1;rw[aZ];split
 ·exact .inl ⟨rfl,h.mono oM⟩
 split
 ·exact .inl ⟨rfl,h.mono oM⟩
 split
 ·rename_i hb;rw[h.nb]at hb;cases hb
 exact h.erase oM oM
structure IQ(c:CV)(g:Nat)(a:List Int):Prop where
 gen:g+1<281474976710656
 len:(a.length:Int)<=kP c.size
 num: ∀x∈a,0<=x/\x<=65535
theorem IQ.put{c:CV}{g:Nat}{a:List Int}(h:IQ c g a)(hb:gH c=true):(da ⟨g+1,a⟩ c.size).2=0/\((da ⟨g+1,a⟩ c.size).1.length:Int)=c.size:=by
 obtain⟨h1,_,_,h4⟩:=fN.1 hb;have hd:=fe h1;have hf:oP c.size=true:=tn.2 ⟨h4,oM⟩;have hm:pQ ⟨g+1,a⟩ c.size=true:=xz.2 ⟨by rw[dY,if_pos hf];omega,h.gen,h.len,fun x hx=>Dg.2 (h.num x hx)⟩;refine⟨?_,Wq hm⟩;rw[da,if_pos hm,dy,if_pos (NI hm)]
theorem aiT{c:CV}{last:Int}(hl:last=0\/last=1)(i:Nat):ak (aZ c last).1 ((i:Int)+2)=ak c ((i:Int)+2):=by
 rw[aZ];split
 ·rfl
 split
 ·rfl
 split
 ·rfl
 show ak (dz c (1 -last)) ((i:Int)+2)=_;rw[dz,iW];split
 ·
  rw[me];split
  ·
   rename_i hm;have hh:iw (gv c (1 -last)) (1 -last)=true:=by
    cases hq:iw (gv c (1 -last)) (1 -last)with
    |true=>rfl
    |false=>rw[qA,if_neg (by rw[hq];simp)]at hm;cases hm
   obtain⟨_,h3,h4⟩:=iz.1 hh;have:=vj (c:=gv c (1 -last)) (o:=(gv c (1 -last)).ops) (f:=(gv c (1 -last)).off) (B:={ak (gv c (1 -last)) (1 -last)with bad:=true}) (show(1 -last).toNat<(gv c (1 -last)).blocks.length by omega) ((i:Int)+2);rw[if_neg oM]at this;rw[this,BR oM]
  rw[BR oM]
 rw[BR oM]
theorem Xl{n:Nat}{x:WV}{a:List Int}(hx:db x)(h:Ok (n+2) x.v.ae)(hr:IQ x.v.ae x.v.gen a):((dQ x a).2=0/\Ok n (dQ x a).1.v.ae/\(dQ x a).1.v.at_=a/\(dQ x a).1.v.gen=x.v.gen+1/\(∀i:Nat,ak (dQ x a).1.v.ae ((i:Int)+2)=ak x.v.ae ((i:Int)+2))/\(dQ x a).1.beyond=x.beyond)\/(dQ x a).2=7:=by
 obtain⟨p1,p2⟩:=hr.put h.ok;have Xj:=h.ops;have hl:=hx.last;have h4:=(fN.1 h.ok).2.1;rw[dQ,if_neg (by rw[p1];simp)];obtain⟨m,hm⟩: ∃m,(cT -x.v.ae.ops).toNat+1=m+1:=⟨_,rfl⟩;rw[hm,gx];rcases Ok.root (n:=n+1) (last:=x.v.last) h hl with⟨e,g⟩|e
 ·
  rw[if_neg (by rw[e];simp)];have bJ:=Ha (c:=x.v.ae) (last:=x.v.last) h.ae hl;have ri:=(bJ.2.2.2 e).1;have aiU:=aiV (c:=x.v.ae) (last:=x.v.last) h.ae hl e;rcases g.prog (n:=n) (b:=(aZ x.v.ae x.v.last).2.1) (p:=(da ⟨x.v.gen+1,a⟩ x.v.ae.size).1) oM (by rw[bJ.2.1.len];omega) (by
   rw[ez,if_neg (by rw[g.nb];simp)]at aiU;omega) (by rw[bJ.2.1.size];exact p2)with⟨e2,g2⟩|e2
  ·rw[if_pos e2];left;refine⟨rfl,g2,rfl,rfl,fun i=>?_,rfl⟩;show ak (bB (aZ x.v.ae x.v.last).1 (aZ x.v.ae x.v.last).2.1 _) ((i:Int)+2)=_;rw[IM e2 oM];exact aiT hl i
  right;rw[if_neg (by rw[e2];decide),if_pos (by rw[e2];decide)];exact e2
 right;rw[if_pos (by rw[e];decide)];exact e
where
 aiV {c:CV} {last:Int} (hk:aW c=true) (hl:last=0\/last=1) (he:(aZ c last).2.2=0):0<ez (aZ c last).1 (aZ c last).2.1:=by
  rw[aZ]at he⊢
  by_cases h1:0<ez c last
  ·rw[if_pos h1];exact h1
  rw[if_neg h1]at he⊢
  by_cases h2:0<ez c (1 -last)
  ·rw[if_pos h2];exact h2
  rw[if_neg h2]at he⊢
  by_cases h3:(ak c (1 -last)).bad=true
  ·rw[if_pos h3]at he;cases he
  rw[if_neg h3]at he⊢;obtain⟨e1,e2,e3,e4,e5⟩:=Dr he;have hh:=(qz.1 e1).1;have hd:=fe hk;show 0<ez (dz c (1 -last)) (1 -last);rw[e5,ez,ly,ru hh,e4,e3];simp only[auH,if_false];omega
def lf(p:Int)(x:az):Nat:=if x.bad=true then 0 else if x.live=0 then(if 0<x.used/\x.used<p then 1 else 0)else(x.used -x.live).toNat
def qg(p:Int)(l:List az):Nat:=(l.map (lf p)).sum
theorem Xm{f:az->Nat}: ∀{l:List az} {i:Nat} {x y:az},l[i]? =some y->((l.set i x).map f).sum+f y=(l.map f).sum+f x
 |[],i,x,y,h=>by simp at h
 |z::r,0,x,y,h=>by
  obtain rfl:z=y:=by simpa using h
  simp only[avo,aum,awz];omega
 |z::r,i+1,x,y,h=>by
  have:=Xm (f:=f) (l:=r) (i:=i) (x:=x) (y:=y) (by simpa using h);simp only[awg,aum,awz];omega
theorem ED{p:Int}{l:List az}{i:Nat}{x y:az}(h:l[i]? =some y):qg p (l.set i x)+lf p y=qg p l+lf p x:=Xm h
theorem Xn{f:az->Nat}: ∀{l:List az},(∀x∈l,f x=0)->(l.map f).sum=0
 |[],_=>rfl
 |z::r,h=>by
  rw[aum,awz,h z auD,Xn fun x hx=>h x (aui _ hx)]
theorem aiW{b:List UInt8}(h:(cM b).2=0)(hk:(cM b).1.kind≠0):mO (cM b).1 b.length=true:=by
 rw[cM]at h hk⊢
 by_cases h1:oP b.length=false
 ·rw[if_pos h1]at h;cases h
 rw[if_neg h1]at h hk⊢
 by_cases h2:kC b=true
 ·rw[if_pos h2]at hk;exact absurd rfl hk
 rw[if_neg h2]at h hk⊢
 by_cases h3:de (zl b)≠pI (mP b)
 ·rw[if_pos h3]at h;cases h
 rw[if_neg h3]at h hk⊢
 by_cases h4:pP b=false
 ·rw[if_pos h4]at h;cases h
 rw[if_neg h4]at h hk⊢
 by_cases h5:xx (oQ b)=false
 ·rw[if_pos h5]at h;cases h
 rw[if_neg h5];have hf:pP b=true:=by simpa using h4
 rw[pP,af0,decide_eq_true_eq]at hf;obtain⟨m1,m2,m3,m4,m5,m6⟩:=sa.1 hf.2;exact sa.2 ⟨m1,m2,m3,m4,m5,by
  have:((b.drop 10).take (10+iJ b -10)).length<=iJ b:=by rw[at3];omega
  show(((b.drop 10).take (10+iJ b -10)).length:Int)<=_;omega⟩
theorem Ok.tell{n:Nat}{c:CV}{fl:List Int}(h:Ok n c)(i:Nat):qf c fl i=⟨dh c.pages fl i,(ak c ((i:Int)+2)).used,(ak c ((i:Int)+2)).aU,false⟩:=N6 (h.nb _)
theorem Ok.get{n:Nat}{c:CV}{fl:List Int}(h:Ok n c)(hs:Std c fl){i:Nat}(hi:i<c.blocks.length -2):(av c fl)[i]? =some ⟨dh c.pages fl i,(ak c ((i:Int)+2)).used,(ak c ((i:Int)+2)).aU,false⟩:=by
 have hd:=fe h.ae;rw[zU oM hs,aua,avw hi,auI,h.tell]
theorem Ok.getD{n:Nat}{c:CV}{fl:List Int}(h:Ok n c)(hs:Std c fl){i:Nat}(hi:i<c.blocks.length -2):(av c fl).getD i eu=⟨dh c.pages fl i,(ak c ((i:Int)+2)).used,(ak c ((i:Int)+2)).aU,false⟩:=by
 have:=h.get hs hi;simp only[List.getD,this,avM]
theorem Ok.BX{n:Nat}{c:CV}(h:Ok n c){i:Nat}(hi:i<c.blocks.length -2):0<=(ak c ((i:Int)+2)).used/\(ak c ((i:Int)+2)).used<=c.pages:=by
 have hb:=fy.1 (tu h.ae (b:=(i:Int)+2) oM oM);exact⟨hb.2.1,hb.2.2.1⟩
theorem Ok.Xo{n:Nat}{c:CV}{fl:List Int}(h:Ok n c)(hs:Std c fl){i:Nat}(hi:i<c.blocks.length -2):(dh c.pages fl i:Int)<=(ak c ((i:Int)+2)).used:=by
 have hd:=fe h.ae;exact Xf oM hs i (h.BX hi).1
theorem Xp(l:List az): ∀k,0<(gP l k).2->(gP l k).1.toNat<k/\(l.getD (gP l k).1.toNat eu).bad=false/\(l.getD (gP l k).1.toNat eu).live≠0/\(gP l k).2=(l.getD (gP l k).1.toNat eu).used -(l.getD (gP l k).1.toNat eu).live
 |0,h=>by simp[gP]at h
 |k+1,h=>by
  have ih:=Xp l k;rw[gP,xJ]at h⊢
  by_cases h1:(l.getD k eu).bad=true\/(l.getD k eu).live=0\/cT<=(l.getD k eu).aU
  ·rw[if_pos h1]at h⊢;obtain⟨i1,i2⟩:=ih h;exact⟨oM,i2⟩
  rw[if_neg h1]at h⊢
  by_cases h2:(gP l k).2<(l.getD k eu).used -(l.getD k eu).live
  ·
   rw[if_pos h2];simp only[avb];exact⟨oM,by
    cases hb:(l.getD k eu).bad with
    |false=>rfl
    |true=>exact absurd (.inl hb) h1,fun g=>h1 (.inr (.inl g)),trivial⟩
  rw[if_neg h2]at h⊢;obtain⟨i1,i2⟩:=ih h;exact⟨oM,i2⟩
theorem Xq(l:List az){j:Nat}(h1:(l.getD j eu).bad=false)(h2:(l.getD j eu).live≠0)(h3:(l.getD j eu).aU<cT): ∀k,j<k->(l.getD j eu).used -(l.getD j eu).live<=(gP l k).2
 |0,h=>by omega
 |k+1,h=>by
  rw[gP,xJ]
  by_cases e:j=k
  ·
   subst e;rw[if_neg (by rintro(g|g|g);rw[h1]at g;cases g;exact h2 g;omega)];split
   ·exact auY _
   omega
  have ih:=Xq l h1 h2 h3 k oM;split
  ·exact ih
  split
  ·simp only;omega
  exact ih
theorem aiX{n:Nat}{c:CV}{fl:List Int}(h:Ok n c)(hs:Std c fl)(hv:(ja (av c fl) c.pages).2=true):
  ∃i:Nat,(ja (av c fl) c.pages).1=i/\i<c.blocks.length -2/\0<dh c.pages fl i/\(dh c.pages fl i:Int)<(ak c ((i:Int)+2)).used:=by
 have hd:=fe h.ae;have II:=Lz hv;rw[mh]at II;refine⟨(ja (av c fl) c.pages).1.toNat,oM,oM,?_⟩;have nG:=h.getD hs (i:=(ja (av c fl) c.pages).1.toNat) oM;rw[ja]at hv nG⊢
 by_cases h1:(wb (av c fl) c.pages).2=true
 ·rw[if_pos h1]at nG⊢;obtain⟨f1,f2,f3,f4⟩:=A0 h1;simp only at nG⊢;change zp c.pages ((av c fl).getD (wb (av c fl) c.pages).1.toNat eu)=true at f4;rw[nG,zp]at f4;simp only[auH,if_false,af0,decide_eq_true_eq]at f4;omega
 ·rw[if_neg h1]at hv nG⊢;simp only[decide_eq_true_eq]at hv nG⊢;obtain⟨_,s1,s2,s3⟩:=Xp _ _ hv;rw[nG]at s2 s3;simp only at s2 s3;omega
theorem aiY{n:Nat}{c:CV}{fl:List Int}(h:Ok n c)(hs:Std c fl){j:Nat}(hj:j<c.blocks.length -2)(h1:0<dh c.pages fl j)(h2:(dh c.pages fl j:Int)<(ak c ((j:Int)+2)).used):(ja (av c fl) c.pages).2=true:=by
 rw[ja];split
 ·rfl
 have nG:=h.getD hs hj;have:=Xq (av c fl) (j:=j) (by rw[nG]) (by rw[nG];simp only;omega) (by rw[nG];have:=h.aU ((j:Int)+2);simp only;omega) (av c fl).length (by rw[mh];exact hj);rw[nG]at this;simp only[decide_eq_true_eq]at this⊢;omega
theorem BY{R:az->Bool}{x:az}(h:x.bad=false)(hR:R x=true):iK R x=x:=by
 rw[iK,if_neg];rintro(g|g)
 ·rw[h]at g;cases g
 rw[hR]at g;cases g
theorem IS{α:Type}{l:List α}{i:Nat}{x:α}(h:l[i]? =some x):l.set i x=l:=xw h
theorem aiZ{n:Nat}{c:CV}{fl:List Int}{i j:Nat}(h:Ok (n+17) c)(hs:Std c fl)(hj:j<c.blocks.length -2)(cD:j≠i)(hd0:dh c.pages fl j=0):
  (∃(t:Nat) (w:Int),t≠i/\t<c.blocks.length -2/\dh c.pages fl t=0/\(cc c ((av c fl).set i bc)).2=((t:Int)+2,0)/\Ok n (cc c ((av c fl).set i bc)).1/\av (cc c ((av c fl).set i bc)).1 fl=(av c fl).set t ⟨0,0,w,false⟩/\Kp fl c (cc c ((av c fl).set i bc)).1)\/(cc c ((av c fl).set i bc)).2.2=7:=by
 have hd:=fe h.ae;have Nu:=N7 h.ae hs oM;have hw:=aiR Nu i;have hgj:=h.get hs hj;have l5:(⟨dh c.pages fl j,(ak c ((j:Int)+2)).used,(ak c ((j:Int)+2)).aU,false⟩:az)∈(av c fl).set i bc:=by
  refine atl (i:=j) ?_;rw[auF (fun e=>cD e.symm)];exact hgj
 have N8:=h.BX hj;have hwo:=h.aU ((j:Int)+2);have Xr: ∀{k:Nat} {x:az},((av c fl).set i bc)[k]? =some x->x.bad=false->k≠i/\k<c.blocks.length -2/\x=⟨dh c.pages fl k,(ak c ((k:Int)+2)).used,(ak c ((k:Int)+2)).aU,false⟩:=fun{k x} hx hb=>by
  have hk:k≠i:=fun e=>by
   rw[e,au1]at hx;rw[if_pos rfl]at hx;split at hx
   ·obtain rfl:=at1 hx;cases hb
   ·cases hx
  rw[auF (fun e=>hk e.symm)]at hx;obtain⟨rfl,hl⟩:=wM oM hs hx;exact⟨hk,hl,h.tell k⟩
 have Xs: ∀{d:Int×Bool},(∃x,((av c fl).set i bc)[d.1.toNat]? =some x/\x.bad=false/\x.live=0)->0<=d.1->
   ((∃(t:Nat) (w:Int),t≠i/\t<c.blocks.length -2/\dh c.pages fl t=0/\(d.1+2,(cJ c (d.1+2)).2)=((t:Int)+2,0)/\Ok n (cJ c (d.1+2)).1/\av (cJ c (d.1+2)).1 fl=(av c fl).set t ⟨0,0,w,false⟩/\Kp fl c (cJ c (d.1+2)).1)\/(cJ c (d.1+2)).2=7):=fun{d} hx h0=>by
  obtain⟨x,hx,hb,hl⟩:=hx;obtain⟨k1,k2,k3⟩:=Xr hx hb;rw[k3]at hl;simp only at hl;have e:d.1=((d.1.toNat:Nat):Int):=by omega
  rw[e];have nv:=(vm oM hs d.1.toNat).1 oM;rcases h.IP (b:=((d.1.toNat:Nat):Int)+2) oM oM with⟨z,g⟩|z
  ·left;exact⟨d.1.toNat,_,k1,k2,oM,by rw[z],g,(IN h.ae hs nv z).1,zR oM nv⟩
  ·exact .inr z
 rw[cc]
 by_cases hA:(mU c ((av c fl).set i bc)).2=true
 ·
  rw[if_pos hA];left;obtain⟨x,hx,a1,a2,a3,a4,a5⟩:=pT (fun x h=>(tv h).1) hA;have xm:((av c fl).set i bc)[(mU c ((av c fl).set i bc)).1.toNat]? =some x:=hx;change 0<=(mU c ((av c fl).set i bc)).1 at a4;generalize mU c ((av c fl).set i bc)=T at*;obtain⟨k1,k2,k3⟩:=Xr xm a1;simp only[sq,decide_eq_true_eq]at a2;rw[k3]at a2;simp only at a2;have TZ:=h.Xo hs k2;have kO:dh c.pages fl T.1.toNat=0:=by omega
  refine⟨T.1.toNat,(ak c ((T.1.toNat:Int)+2)).aU,k1,k2,kO,by simp only;rw[auU a4],h.mono oM,?_, .du _ _⟩;refine(IS ?_).symm;have:=h.get hs k2;rw[kO,a2]at this;exact this
 ·
  rw[if_neg hA];have N9:=uL (BW (R:=sq) hw) (show(gw (cl sq ((av c fl).set i bc)) c.pages (nu c.pages) [AX,tr]).2=false by simpa[mU,fL]using hA);have DY:(ak c ((j:Int)+2)).used≠0:=fun e=>by
   have:=N9 _ (auq (f:=iK sq) l5);rw[BY rfl (by simp[sq,e]),nu]at this;simp only[avZ,au2,decide_eq_false_iff_not]at this;omega
  have IT:mR ⟨dh c.pages fl j,(ak c ((j:Int)+2)).used,(ak c ((j:Int)+2)).aU,false⟩=true:=by
   simp only[mR,hd0,avZ,au2,af0,decide_eq_true_eq];exact⟨rfl,oM⟩
  by_cases hB:(ka c ((av c fl).set i bc)).2=true
  ·rw[if_pos hB];obtain⟨x,hx,a1,a2,a3,a4,a5⟩:=pT (fun x h=>(mj h).1) hB;exact Xs (d:=ka c ((av c fl).set i bc)) ⟨x,hx,a1,(mj a3).2.1⟩ a4
  ·
   rw[if_neg hB];have Oa:=uL (BW (R:=tC c.pages) hw) (show(gw (cl (tC c.pages) ((av c fl).set i bc)) c.pages mR [tr]).2=false by simpa[ka,fO]using hB);have hup:(ak c ((j:Int)+2)).used≠c.pages:=fun e=>by
    have:=Oa _ (auq (f:=iK (tC c.pages)) l5);rw[BY rfl (by simp[tC,e]),IT]at this
    cases this
   by_cases hD:(kb c ((av c fl).set i bc)).2=true
   ·rw[if_pos hD];obtain⟨x,hx,a1,a2,a3,a4,a5⟩:=pT (fun x h=>(mj h).1) hD;exact Xs (d:=kb c ((av c fl).set i bc)) ⟨x,hx,a1,(mj a3).2.1⟩ a4
   ·
    exfalso;have nX:=uL (BW (R:=tD) hw) (show(gw (cl tD ((av c fl).set i bc)) c.pages mR [tr]).2=false by simpa[kb,fO]using hD);have:=nX _ (auq (f:=iK tD) l5);rw[BY rfl (by simp only[tD,decide_eq_true_eq];omega),IT]at this
    cases this
end Go.Kb
