/- Part of a proof. -/
import Derived.Test.YtkggjjnhnjjokaaGreatDoorRows
import Derived.Test.YtkggjjnhnjjokaaGreatDoorD1
import Derived.Shelf.Strings.Builder1
import Derived.Shelf.Strings.Builder2
import Derived.Shelf.Strings.OnBuilder
import Derived.Shelf.Small.Strs
import Derived.Shelf.Utf8.RuneCount
import Derived.Shelf.Strconv.Itoa0
import Derived.Shelf.Strconv.Itoa1
import Derived.Shelf.LaysM
import Derived.Shelf.Strconv.Itoa2
import Derived.Shelf.Strconv.Itoa3
import Derived.Shelf.Strings.Search1
import Derived.Shelf.Strings.Search2
import Derived.Shelf.Strings.Search3
import Derived.Shelf.Strings.Cut
import Derived.Shelf.Strings.Count
import Derived.Shelf.Strings.Shaped
import Derived.Shelf.Strings.Split
import Derived.Shelf.Strings.SplitShaped
import Derived.Shelf.Unicode.Decode
import Derived.Shelf.Strings.RuneCount
import Derived.Shelf.Strings.Explode
import Derived.Shelf.Unicode.DecodeSlow
import Derived.Shelf.Unicode.DecodeAny
import Derived.Test.YtkggjjnhnjjokaaGreatDoorProg
import Derived.Lib.AppendZerosOnto
import Derived.Lib.Overlaps
import Derived.Lib.AppendZeros
set_option maxRecDepth 20000
set_option linter.unusedSimpArgs false
set_option linter.unusedVariables false
namespace Go.Proofs.YtkggjjnhnjjokaaGreatDoor
open Go.ax
instance ajr:fR Tryz.prog 3:=⟨⟨_,Tryz.underlying3,rfl⟩,by kernel_rfl⟩
instance ajs:mw Tryz.prog 3 .i64:=⟨Tryz.underlying3⟩
instance ajt:fR Tryz.prog 4:=⟨⟨_,Tryz.underlying4,rfl⟩,by kernel_rfl⟩
instance aju:fR Tryz.prog 5:=⟨⟨_,Tryz.underlying5,rfl⟩,by kernel_rfl⟩
instance ajv:mw Tryz.prog 5 .u8:=⟨Tryz.underlying5⟩
instance ajw:fR Tryz.prog 9:=⟨⟨_,Tryz.underlying9,rfl⟩,by kernel_rfl⟩
instance ajx:fR Tryz.prog 22:=⟨⟨_,Tryz.underlying22,rfl⟩,by kernel_rfl⟩
instance ajy:fj Tryz.prog 22 34 19:=⟨Tryz.underlying22,by kernel_rfl⟩
instance ajz:fK Tryz.prog 25 16:=⟨⟨_,Tryz.underlying25,rfl⟩,by kernel_rfl⟩
instance ajA:u4 Tryz.prog 25 16 1:=⟨⟨_,Tryz.underlying25,by kernel_rfl⟩⟩
instance ajB:mw Tryz.prog 26 .u32:=⟨Tryz.underlying26⟩
instance ajC:fR Tryz.prog 27:=⟨⟨_,Tryz.underlying27,rfl⟩,by kernel_rfl⟩
instance ajD:mw Tryz.prog 27 .u16:=⟨Tryz.underlying27⟩
instance ajE:fK Tryz.prog 32 18:=⟨⟨_,Tryz.underlying32,rfl⟩,by kernel_rfl⟩
instance ajF:dG Tryz.prog 32 0 0:=⟨⟨_,_,0,Tryz.underlying32,rfl,rfl,by kernel_rfl⟩⟩
instance ajG:dG Tryz.prog 32 1 1:=⟨⟨_,_,0,Tryz.underlying32,rfl,rfl,by kernel_rfl⟩⟩
instance ajH:dG Tryz.prog 32 2 2:=⟨⟨_,_,15,Tryz.underlying32,rfl,rfl,by kernel_rfl⟩⟩
instance ajI:fK Tryz.prog 34 19:=⟨⟨_,Tryz.underlying34,rfl⟩,by kernel_rfl⟩
instance ajJ:dG Tryz.prog 34 0 0:=⟨⟨_,_,17,Tryz.underlying34,rfl,rfl,by kernel_rfl⟩⟩
instance ajK:dG Tryz.prog 34 1 18:=⟨⟨_,_,0,Tryz.underlying34,rfl,rfl,by kernel_rfl⟩⟩
instance ajL:fR Tryz.prog 45:=⟨⟨_,Tryz.underlying45,rfl⟩,by kernel_rfl⟩
instance ajM:fj Tryz.prog 45 47 20:=⟨Tryz.underlying45,by kernel_rfl⟩
instance ajN:fK Tryz.prog 47 20:=⟨⟨_,Tryz.underlying47,rfl⟩,by kernel_rfl⟩
instance ajO:dG Tryz.prog 47 0 0:=⟨⟨_,_,18,Tryz.underlying47,rfl,rfl,by kernel_rfl⟩⟩
instance ajP:dG Tryz.prog 47 1 19:=⟨⟨_,_,0,Tryz.underlying47,rfl,rfl,by kernel_rfl⟩⟩
instance ajQ:fR Tryz.prog 53:=⟨⟨_,Tryz.underlying53,rfl⟩,by kernel_rfl⟩
instance ajR:fj Tryz.prog 53 5 1:=⟨Tryz.underlying53,by kernel_rfl⟩
instance ajS:fR Tryz.prog 56:=⟨⟨_,Tryz.underlying56,rfl⟩,by kernel_rfl⟩
instance ajT:fj Tryz.prog 56 180 4:=⟨Tryz.underlying56,by kernel_rfl⟩
instance ajU:fR Tryz.prog 57:=⟨⟨_,Tryz.underlying57,rfl⟩,by kernel_rfl⟩
instance ajV:fj Tryz.prog 57 97 4:=⟨Tryz.underlying57,by kernel_rfl⟩
instance ajW:fK Tryz.prog 59 6:=⟨⟨_,Tryz.underlying59,rfl⟩,by kernel_rfl⟩
instance ajX:dG Tryz.prog 59 0 0:=⟨⟨_,_,0,Tryz.underlying59,rfl,rfl,by kernel_rfl⟩⟩
instance ajY:dG Tryz.prog 59 1 1:=⟨⟨_,_,0,Tryz.underlying59,rfl,rfl,by kernel_rfl⟩⟩
instance ajZ:dG Tryz.prog 59 2 2:=⟨⟨_,_,0,Tryz.underlying59,rfl,rfl,by kernel_rfl⟩⟩
instance aj0:dG Tryz.prog 59 3 3:=⟨⟨_,_,0,Tryz.underlying59,rfl,rfl,by kernel_rfl⟩⟩
instance aj1:dG Tryz.prog 59 4 4:=⟨⟨_,_,0,Tryz.underlying59,rfl,rfl,by kernel_rfl⟩⟩
instance aj2:dG Tryz.prog 59 5 5:=⟨⟨_,_,0,Tryz.underlying59,rfl,rfl,by kernel_rfl⟩⟩
instance aj3:fR Tryz.prog 60:=⟨⟨_,Tryz.underlying60,rfl⟩,by kernel_rfl⟩
instance aj4:fj Tryz.prog 60 3 1:=⟨Tryz.underlying60,by kernel_rfl⟩
instance aj5:fR Tryz.prog 61:=⟨⟨_,Tryz.underlying61,rfl⟩,by kernel_rfl⟩
instance aj6:mw Tryz.prog 61 .u64:=⟨Tryz.underlying61⟩
instance aj7:fK Tryz.prog 63 9:=⟨⟨_,Tryz.underlying63,rfl⟩,by kernel_rfl⟩
instance aj8:dG Tryz.prog 63 0 0:=⟨⟨_,_,5,Tryz.underlying63,rfl,rfl,by kernel_rfl⟩⟩
instance aj9:dG Tryz.prog 63 1 6:=⟨⟨_,_,0,Tryz.underlying63,rfl,rfl,by kernel_rfl⟩⟩
instance aka:dG Tryz.prog 63 2 7:=⟨⟨_,_,0,Tryz.underlying63,rfl,rfl,by kernel_rfl⟩⟩
instance akb:dG Tryz.prog 63 3 8:=⟨⟨_,_,0,Tryz.underlying63,rfl,rfl,by kernel_rfl⟩⟩
instance akc:fK Tryz.prog 65 10:=⟨⟨_,Tryz.underlying65,rfl⟩,by kernel_rfl⟩
instance akd:dG Tryz.prog 65 0 0:=⟨⟨_,_,8,Tryz.underlying65,rfl,rfl,by kernel_rfl⟩⟩
instance ake:dG Tryz.prog 65 1 9:=⟨⟨_,_,0,Tryz.underlying65,rfl,rfl,by kernel_rfl⟩⟩
instance akf:fK Tryz.prog 97 4:=⟨⟨_,Tryz.underlying97,rfl⟩,by kernel_rfl⟩
instance akg:dG Tryz.prog 97 0 0:=⟨⟨_,_,0,Tryz.underlying97,rfl,rfl,by kernel_rfl⟩⟩
instance akh:dG Tryz.prog 97 1 1:=⟨⟨_,_,0,Tryz.underlying97,rfl,rfl,by kernel_rfl⟩⟩
instance aki:dG Tryz.prog 97 2 2:=⟨⟨_,_,0,Tryz.underlying97,rfl,rfl,by kernel_rfl⟩⟩
instance akj:dG Tryz.prog 97 3 3:=⟨⟨_,_,0,Tryz.underlying97,rfl,rfl,by kernel_rfl⟩⟩
instance akk:fj Tryz.prog 105 45 1:=⟨Tryz.underlying105,by kernel_rfl⟩
instance akl:fR Tryz.prog 122:=⟨⟨_,Tryz.underlying122,rfl⟩,by kernel_rfl⟩
instance akm:fj Tryz.prog 122 225 48:=⟨Tryz.underlying122,by kernel_rfl⟩
instance akn:fK Tryz.prog 124 2:=⟨⟨_,Tryz.underlying124,rfl⟩,by kernel_rfl⟩
instance ako:dG Tryz.prog 124 0 0:=⟨⟨_,_,0,Tryz.underlying124,rfl,rfl,by kernel_rfl⟩⟩
instance akp:dG Tryz.prog 124 1 1:=⟨⟨_,_,0,Tryz.underlying124,rfl,rfl,by kernel_rfl⟩⟩
instance akq:fj Tryz.prog 155 9 1:=⟨Tryz.underlying155,by kernel_rfl⟩
instance akr:fR Tryz.prog 178:=⟨⟨_,Tryz.underlying178,rfl⟩,by kernel_rfl⟩
instance aks:fj Tryz.prog 178 53 1:=⟨Tryz.underlying178,by kernel_rfl⟩
instance akt:fK Tryz.prog 180 4:=⟨⟨_,Tryz.underlying180,rfl⟩,by kernel_rfl⟩
instance aku:dG Tryz.prog 180 0 0:=⟨⟨_,_,0,Tryz.underlying180,rfl,rfl,by kernel_rfl⟩⟩
instance akv:dG Tryz.prog 180 1 1:=⟨⟨_,_,0,Tryz.underlying180,rfl,rfl,by kernel_rfl⟩⟩
instance akw:dG Tryz.prog 180 2 2:=⟨⟨_,_,0,Tryz.underlying180,rfl,rfl,by kernel_rfl⟩⟩
instance akx:dG Tryz.prog 180 3 3:=⟨⟨_,_,0,Tryz.underlying180,rfl,rfl,by kernel_rfl⟩⟩
instance aky:fj Tryz.prog 191 269 2:=⟨Tryz.underlying191,by kernel_rfl⟩
instance akz:fK Tryz.prog 217 2:=⟨⟨_,Tryz.underlying217,rfl⟩,by kernel_rfl⟩
instance akA:dG Tryz.prog 217 0 0:=⟨⟨_,_,1,Tryz.underlying217,rfl,rfl,by kernel_rfl⟩⟩
instance akB:fK Tryz.prog 221 2:=⟨⟨_,Tryz.underlying221,rfl⟩,by kernel_rfl⟩
instance akC:dG Tryz.prog 221 0 0:=⟨⟨_,_,0,Tryz.underlying221,rfl,rfl,by kernel_rfl⟩⟩
instance akD:dG Tryz.prog 221 1 1:=⟨⟨_,_,0,Tryz.underlying221,rfl,rfl,by kernel_rfl⟩⟩
instance akE:u4 Tryz.prog 222 16 2:=⟨⟨_,Tryz.underlying222,by kernel_rfl⟩⟩
instance akF:u4 Tryz.prog 223 16 1:=⟨⟨_,Tryz.underlying223,by kernel_rfl⟩⟩
instance akG:fK Tryz.prog 225 48:=⟨⟨_,Tryz.underlying225,rfl⟩,by kernel_rfl⟩
instance akH:dG Tryz.prog 225 0 0:=⟨⟨_,_,31,Tryz.underlying225,rfl,rfl,by kernel_rfl⟩⟩
instance akI:dG Tryz.prog 225 1 32:=⟨⟨_,_,15,Tryz.underlying225,rfl,rfl,by kernel_rfl⟩⟩
instance akJ:mw Tryz.prog 253 .u64:=⟨Tryz.underlying253⟩
instance akK:fR Tryz.prog 259:=⟨⟨_,Tryz.underlying259,rfl⟩,by kernel_rfl⟩
instance akL:dG Tryz.prog 261 0 0:=⟨⟨_,_,8,Tryz.underlying261,rfl,rfl,by kernel_rfl⟩⟩
instance akM:dG Tryz.prog 261 1 9:=⟨⟨_,_,0,Tryz.underlying261,rfl,rfl,by kernel_rfl⟩⟩
instance akN:fK Tryz.prog 269 2:=⟨⟨_,Tryz.underlying269,rfl⟩,by kernel_rfl⟩
instance akO:dG Tryz.prog 269 0 0:=⟨⟨_,_,0,Tryz.underlying269,rfl,rfl,by kernel_rfl⟩⟩
instance akP:dG Tryz.prog 269 1 1:=⟨⟨_,_,0,Tryz.underlying269,rfl,rfl,by kernel_rfl⟩⟩
instance akQ:fK Tryz.prog 314 2:=⟨⟨_,Tryz.underlying314,rfl⟩,by kernel_rfl⟩
instance akR:dG Tryz.prog 314 0 0:=⟨⟨_,_,0,Tryz.underlying314,rfl,rfl,by kernel_rfl⟩⟩
instance akS:dG Tryz.prog 314 1 1:=⟨⟨_,_,0,Tryz.underlying314,rfl,rfl,by kernel_rfl⟩⟩
instance akT:u4 Tryz.prog 317 20 1:=⟨⟨_,Tryz.underlying317,by kernel_rfl⟩⟩
instance akU:fK Tryz.prog 319 0:=⟨⟨_,Tryz.underlying319,rfl⟩,by kernel_rfl⟩
instance akV:fK Tryz.prog 324 4:=⟨⟨_,Tryz.underlying324,rfl⟩,by kernel_rfl⟩
instance akW:dG Tryz.prog 324 0 0:=⟨⟨_,_,0,Tryz.underlying324,rfl,rfl,by kernel_rfl⟩⟩
instance akX:dG Tryz.prog 324 1 1:=⟨⟨_,_,0,Tryz.underlying324,rfl,rfl,by kernel_rfl⟩⟩
instance akY:dG Tryz.prog 324 2 2:=⟨⟨_,_,0,Tryz.underlying324,rfl,rfl,by kernel_rfl⟩⟩
instance akZ:dG Tryz.prog 324 3 3:=⟨⟨_,_,0,Tryz.underlying324,rfl,rfl,by kernel_rfl⟩⟩
instance ak0:fj Tryz.prog 366 60 1:=⟨Tryz.underlying366,by kernel_rfl⟩
instance ak1:fj Tryz.prog 396 178 1:=⟨Tryz.underlying396,by kernel_rfl⟩
instance ak2:fj Tryz.prog 399 402 4:=⟨Tryz.underlying399,by kernel_rfl⟩
instance ak3:fK Tryz.prog 402 4:=⟨⟨_,Tryz.underlying402,rfl⟩,by kernel_rfl⟩
instance ak4:dG Tryz.prog 402 0 0:=⟨⟨_,_,0,Tryz.underlying402,rfl,rfl,by kernel_rfl⟩⟩
instance ak5:dG Tryz.prog 402 1 1:=⟨⟨_,_,0,Tryz.underlying402,rfl,rfl,by kernel_rfl⟩⟩
instance ak6:dG Tryz.prog 402 2 2:=⟨⟨_,_,0,Tryz.underlying402,rfl,rfl,by kernel_rfl⟩⟩
instance ak7:dG Tryz.prog 402 3 3:=⟨⟨_,_,0,Tryz.underlying402,rfl,rfl,by kernel_rfl⟩⟩
instance ak8:fK Tryz.prog 432 5:=⟨⟨_,Tryz.underlying432,rfl⟩,by kernel_rfl⟩
instance ak9:dG Tryz.prog 432 0 0:=⟨⟨_,_,3,Tryz.underlying432,rfl,rfl,by kernel_rfl⟩⟩
instance ala:dG Tryz.prog 432 1 4:=⟨⟨_,_,0,Tryz.underlying432,rfl,rfl,by kernel_rfl⟩⟩
instance alb:fR Tryz.prog 433:=⟨⟨_,Tryz.underlying433,rfl⟩,by kernel_rfl⟩
instance alc:fj Tryz.prog 443 433 1:=⟨Tryz.underlying443,by kernel_rfl⟩
instance ald:aK Tryz.prog 12:=⟨⟨Tryz.f12,Tryz.func12,by kernel_rfl,by kernel_rfl⟩⟩
instance ale:aK Tryz.prog 13:=⟨⟨Tryz.f13,Tryz.func13,by kernel_rfl,by kernel_rfl⟩⟩
instance alf:aK Tryz.prog 19:=⟨⟨Tryz.f19,Tryz.func19,by kernel_rfl,by kernel_rfl⟩⟩
instance alg:aK Tryz.prog 20:=⟨⟨Tryz.f20,Tryz.func20,by kernel_rfl,by kernel_rfl⟩⟩
instance alh:aK Tryz.prog 22:=⟨⟨Tryz.f22,Tryz.func22,by kernel_rfl,by kernel_rfl⟩⟩
instance ali:aK Tryz.prog 24:=⟨⟨Tryz.f24,Tryz.func24,by kernel_rfl,by kernel_rfl⟩⟩
instance alj:aK Tryz.prog 25:=⟨⟨Tryz.f25,Tryz.func25,by kernel_rfl,by kernel_rfl⟩⟩
instance alk:aK Tryz.prog 37:=⟨⟨Tryz.f37,Tryz.func37,by kernel_rfl,by kernel_rfl⟩⟩
instance alm:aK Tryz.prog 38:=⟨⟨Tryz.f38,Tryz.func38,by kernel_rfl,by kernel_rfl⟩⟩
instance aln:aK Tryz.prog 39:=⟨⟨Tryz.f39,Tryz.func39,by kernel_rfl,by kernel_rfl⟩⟩
instance alo:aK Tryz.prog 42:=⟨⟨Tryz.f42,Tryz.func42,by kernel_rfl,by kernel_rfl⟩⟩
instance alp:aK Tryz.prog 43:=⟨⟨Tryz.f43,Tryz.func43,by kernel_rfl,by kernel_rfl⟩⟩
instance alq:aK Tryz.prog 47:=⟨⟨Tryz.f47,Tryz.func47,by kernel_rfl,by kernel_rfl⟩⟩
instance alr:aK Tryz.prog 48:=⟨⟨Tryz.f48,Tryz.func48,by kernel_rfl,by kernel_rfl⟩⟩
instance als:aK Tryz.prog 49:=⟨⟨Tryz.f49,Tryz.func49,by kernel_rfl,by kernel_rfl⟩⟩
instance alu:aK Tryz.prog 50:=⟨⟨Tryz.f50,Tryz.func50,by kernel_rfl,by kernel_rfl⟩⟩
instance alv:aK Tryz.prog 53:=⟨⟨Tryz.f53,Tryz.func53,by kernel_rfl,by kernel_rfl⟩⟩
instance alw:aK Tryz.prog 55:=⟨⟨Tryz.f55,Tryz.func55,by kernel_rfl,by kernel_rfl⟩⟩
instance alx:aK Tryz.prog 56:=⟨⟨Tryz.f56,Tryz.func56,by kernel_rfl,by kernel_rfl⟩⟩
instance aly:aK Tryz.prog 57:=⟨⟨Tryz.f57,Tryz.func57,by kernel_rfl,by kernel_rfl⟩⟩
instance alz:aK Tryz.prog 58:=⟨⟨Tryz.f58,Tryz.func58,by kernel_rfl,by kernel_rfl⟩⟩
instance alA:aK Tryz.prog 62:=⟨⟨Tryz.f62,Tryz.func62,by kernel_rfl,by kernel_rfl⟩⟩
instance alB:aK Tryz.prog 66:=⟨⟨Tryz.f66,Tryz.func66,by kernel_rfl,by kernel_rfl⟩⟩
instance alC:aK Tryz.prog 68:=⟨⟨Tryz.f68,Tryz.func68,by kernel_rfl,by kernel_rfl⟩⟩
instance alD:aK Tryz.prog 69:=⟨⟨Tryz.f69,Tryz.func69,by kernel_rfl,by kernel_rfl⟩⟩
instance alE:aK Tryz.prog 74:=⟨⟨Tryz.f74,Tryz.func74,by kernel_rfl,by kernel_rfl⟩⟩
instance alF:aK Tryz.prog 75:=⟨⟨Tryz.f75,Tryz.func75,by kernel_rfl,by kernel_rfl⟩⟩
instance alG:aK Tryz.prog 76:=⟨⟨Tryz.f76,Tryz.func76,by kernel_rfl,by kernel_rfl⟩⟩
instance alH:aK Tryz.prog 78:=⟨⟨Tryz.f78,Tryz.func78,by kernel_rfl,by kernel_rfl⟩⟩
instance alI:aK Tryz.prog 93:=⟨⟨Tryz.f93,Tryz.func93,by kernel_rfl,by kernel_rfl⟩⟩
instance alJ:aK Tryz.prog 94:=⟨⟨Tryz.f94,Tryz.func94,by kernel_rfl,by kernel_rfl⟩⟩
instance alK:aK Tryz.prog 95:=⟨⟨Tryz.f95,Tryz.func95,by kernel_rfl,by kernel_rfl⟩⟩
instance alL:aK Tryz.prog 96:=⟨⟨Tryz.f96,Tryz.func96,by kernel_rfl,by kernel_rfl⟩⟩
instance alN:aK Tryz.prog 97:=⟨⟨Tryz.f97,Tryz.func97,by kernel_rfl,by kernel_rfl⟩⟩
instance alO:aK Tryz.prog 98:=⟨⟨Tryz.f98,Tryz.func98,by kernel_rfl,by kernel_rfl⟩⟩
instance alP:aK Tryz.prog 99:=⟨⟨Tryz.f99,Tryz.func99,by kernel_rfl,by kernel_rfl⟩⟩
instance alQ:aK Tryz.prog 100:=⟨⟨Tryz.f100,Tryz.func100,by kernel_rfl,by kernel_rfl⟩⟩
instance alR:aK Tryz.prog 101:=⟨⟨Tryz.f101,Tryz.func101,by kernel_rfl,by kernel_rfl⟩⟩
instance alS:aK Tryz.prog 102:=⟨⟨Tryz.f102,Tryz.func102,by kernel_rfl,by kernel_rfl⟩⟩
instance alT:aK Tryz.prog 103:=⟨⟨Tryz.f103,Tryz.func103,by kernel_rfl,by kernel_rfl⟩⟩
instance alU:aK Tryz.prog 105:=⟨⟨Tryz.f105,Tryz.func105,by kernel_rfl,by kernel_rfl⟩⟩
instance alV:aK Tryz.prog 106:=⟨⟨Tryz.f106,Tryz.func106,by kernel_rfl,by kernel_rfl⟩⟩
instance alW:aK Tryz.prog 107:=⟨⟨Tryz.f107,Tryz.func107,by kernel_rfl,by kernel_rfl⟩⟩
instance alX:aK Tryz.prog 108:=⟨⟨Tryz.f108,Tryz.func108,by kernel_rfl,by kernel_rfl⟩⟩
instance alY:aK Tryz.prog 109:=⟨⟨Tryz.f109,Tryz.func109,by kernel_rfl,by kernel_rfl⟩⟩
instance alZ:aK Tryz.prog 110:=⟨⟨Tryz.f110,Tryz.func110,by kernel_rfl,by kernel_rfl⟩⟩
instance al0:aK Tryz.prog 111:=⟨⟨Tryz.f111,Tryz.func111,by kernel_rfl,by kernel_rfl⟩⟩
instance al1:aK Tryz.prog 112:=⟨⟨Tryz.f112,Tryz.func112,by kernel_rfl,by kernel_rfl⟩⟩
instance al2:aK Tryz.prog 113:=⟨⟨Tryz.f113,Tryz.func113,by kernel_rfl,by kernel_rfl⟩⟩
instance al3:aK Tryz.prog 114:=⟨⟨Tryz.f114,Tryz.func114,by kernel_rfl,by kernel_rfl⟩⟩
instance al4:aK Tryz.prog 115:=⟨⟨Tryz.f115,Tryz.func115,by kernel_rfl,by kernel_rfl⟩⟩
instance al5:aK Tryz.prog 116:=⟨⟨Tryz.f116,Tryz.func116,by kernel_rfl,by kernel_rfl⟩⟩
instance al6:aK Tryz.prog 117:=⟨⟨Tryz.f117,Tryz.func117,by kernel_rfl,by kernel_rfl⟩⟩
instance al7:aK Tryz.prog 121:=⟨⟨Tryz.f121,Tryz.func121,by kernel_rfl,by kernel_rfl⟩⟩
instance al8:aK Tryz.prog 122:=⟨⟨Tryz.f122,Tryz.func122,by kernel_rfl,by kernel_rfl⟩⟩
instance al9:aK Tryz.prog 123:=⟨⟨Tryz.f123,Tryz.func123,by kernel_rfl,by kernel_rfl⟩⟩
instance ama:aK Tryz.prog 124:=⟨⟨Tryz.f124,Tryz.func124,by kernel_rfl,by kernel_rfl⟩⟩
instance amb:aK Tryz.prog 125:=⟨⟨Tryz.f125,Tryz.func125,by kernel_rfl,by kernel_rfl⟩⟩
instance amc:aK Tryz.prog 126:=⟨⟨Tryz.f126,Tryz.func126,by kernel_rfl,by kernel_rfl⟩⟩
instance amd:aK Tryz.prog 129:=⟨⟨Tryz.f129,Tryz.func129,by kernel_rfl,by kernel_rfl⟩⟩
instance ame:aK Tryz.prog 130:=⟨⟨Tryz.f130,Tryz.func130,by kernel_rfl,by kernel_rfl⟩⟩
instance amf:aK Tryz.prog 138:=⟨⟨Tryz.f138,Tryz.func138,by kernel_rfl,by kernel_rfl⟩⟩
instance amg:aK Tryz.prog 139:=⟨⟨Tryz.f139,Tryz.func139,by kernel_rfl,by kernel_rfl⟩⟩
instance amh:aK Tryz.prog 142:=⟨⟨Tryz.f142,Tryz.func142,by kernel_rfl,by kernel_rfl⟩⟩
instance ami:aK Tryz.prog 143:=⟨⟨Tryz.f143,Tryz.func143,by kernel_rfl,by kernel_rfl⟩⟩
instance amj:aK Tryz.prog 144:=⟨⟨Tryz.f144,Tryz.func144,by kernel_rfl,by kernel_rfl⟩⟩
instance amk:aK Tryz.prog 149:=⟨⟨Tryz.f149,Tryz.func149,by kernel_rfl,by kernel_rfl⟩⟩
instance aml:aK Tryz.prog 162:=⟨⟨Tryz.f162,Tryz.func162,by kernel_rfl,by kernel_rfl⟩⟩
instance amm:aK Tryz.prog 163:=⟨⟨Tryz.f163,Tryz.func163,by kernel_rfl,by kernel_rfl⟩⟩
instance amn:aK Tryz.prog 164:=⟨⟨Tryz.f164,Tryz.func164,by kernel_rfl,by kernel_rfl⟩⟩
instance amo:aK Tryz.prog 165:=⟨⟨Tryz.f165,Tryz.func165,by kernel_rfl,by kernel_rfl⟩⟩
instance amp:aK Tryz.prog 166:=⟨⟨Tryz.f166,Tryz.func166,by kernel_rfl,by kernel_rfl⟩⟩
instance amq:aK Tryz.prog 167:=⟨⟨Tryz.f167,Tryz.func167,by kernel_rfl,by kernel_rfl⟩⟩
instance amr:aK Tryz.prog 168:=⟨⟨Tryz.f168,Tryz.func168,by kernel_rfl,by kernel_rfl⟩⟩
instance ams:aK Tryz.prog 169:=⟨⟨Tryz.f169,Tryz.func169,by kernel_rfl,by kernel_rfl⟩⟩
instance amt:aK Tryz.prog 170:=⟨⟨Tryz.f170,Tryz.func170,by kernel_rfl,by kernel_rfl⟩⟩
instance amu:aK Tryz.prog 171:=⟨⟨Tryz.f171,Tryz.func171,by kernel_rfl,by kernel_rfl⟩⟩
instance amv:aK Tryz.prog 172:=⟨⟨Tryz.f172,Tryz.func172,by kernel_rfl,by kernel_rfl⟩⟩
instance amw:aK Tryz.prog 173:=⟨⟨Tryz.f173,Tryz.func173,by kernel_rfl,by kernel_rfl⟩⟩
instance amx:aK Tryz.prog 174:=⟨⟨Tryz.f174,Tryz.func174,by kernel_rfl,by kernel_rfl⟩⟩
instance amy:aK Tryz.prog 175:=⟨⟨Tryz.f175,Tryz.func175,by kernel_rfl,by kernel_rfl⟩⟩
instance amz:aK Tryz.prog 176:=⟨⟨Tryz.f176,Tryz.func176,by kernel_rfl,by kernel_rfl⟩⟩
instance amA:aK Tryz.prog 177:=⟨⟨Tryz.f177,Tryz.func177,by kernel_rfl,by kernel_rfl⟩⟩
instance amB:aK Tryz.prog 179:=⟨⟨Tryz.f179,Tryz.func179,by kernel_rfl,by kernel_rfl⟩⟩
instance amC:aK Tryz.prog 180:=⟨⟨Tryz.f180,Tryz.func180,by kernel_rfl,by kernel_rfl⟩⟩
instance amD:aK Tryz.prog 181:=⟨⟨Tryz.f181,Tryz.func181,by kernel_rfl,by kernel_rfl⟩⟩
instance amE:aK Tryz.prog 182:=⟨⟨Tryz.f182,Tryz.func182,by kernel_rfl,by kernel_rfl⟩⟩
instance amF:aK Tryz.prog 183:=⟨⟨Tryz.f183,Tryz.func183,by kernel_rfl,by kernel_rfl⟩⟩
instance amG:aK Tryz.prog 184:=⟨⟨Tryz.f184,Tryz.func184,by kernel_rfl,by kernel_rfl⟩⟩
instance amH:aK Tryz.prog 185:=⟨⟨Tryz.f185,Tryz.func185,by kernel_rfl,by kernel_rfl⟩⟩
instance amI:aK Tryz.prog 186:=⟨⟨Tryz.f186,Tryz.func186,by kernel_rfl,by kernel_rfl⟩⟩
instance amJ:aK Tryz.prog 187:=⟨⟨Tryz.f187,Tryz.func187,by kernel_rfl,by kernel_rfl⟩⟩
instance amK:aK Tryz.prog 196:=⟨⟨Tryz.f196,Tryz.func196,by kernel_rfl,by kernel_rfl⟩⟩
instance amL:aK Tryz.prog 197:=⟨⟨Tryz.f197,Tryz.func197,by kernel_rfl,by kernel_rfl⟩⟩
instance amM:aK Tryz.prog 198:=⟨⟨Tryz.f198,Tryz.func198,by kernel_rfl,by kernel_rfl⟩⟩
instance amN:aK Tryz.prog 208:=⟨⟨Tryz.f208,Tryz.func208,by kernel_rfl,by kernel_rfl⟩⟩
instance amO:aK Tryz.prog 209:=⟨⟨Tryz.f209,Tryz.func209,by kernel_rfl,by kernel_rfl⟩⟩
instance amP:aK Tryz.prog 215:=⟨⟨Tryz.f215,Tryz.func215,by kernel_rfl,by kernel_rfl⟩⟩
instance amQ:aK Tryz.prog 216:=⟨⟨Tryz.f216,Tryz.func216,by kernel_rfl,by kernel_rfl⟩⟩
instance amR:aK Tryz.prog 217:=⟨⟨Tryz.f217,Tryz.func217,by kernel_rfl,by kernel_rfl⟩⟩
instance amS:aK Tryz.prog 218:=⟨⟨Tryz.f218,Tryz.func218,by kernel_rfl,by kernel_rfl⟩⟩
instance amT:aK Tryz.prog 219:=⟨⟨Tryz.f219,Tryz.func219,by kernel_rfl,by kernel_rfl⟩⟩
instance amU:aK Tryz.prog 220:=⟨⟨Tryz.f220,Tryz.func220,by kernel_rfl,by kernel_rfl⟩⟩
instance amV:aK Tryz.prog 221:=⟨⟨Tryz.f221,Tryz.func221,by kernel_rfl,by kernel_rfl⟩⟩
instance amW:aK Tryz.prog 222:=⟨⟨Tryz.f222,Tryz.func222,by kernel_rfl,by kernel_rfl⟩⟩
instance amX:aK Tryz.prog 223:=⟨⟨Tryz.f223,Tryz.func223,by kernel_rfl,by kernel_rfl⟩⟩
instance amY:aK Tryz.prog 224:=⟨⟨Tryz.f224,Tryz.func224,by kernel_rfl,by kernel_rfl⟩⟩
instance amZ:aK Tryz.prog 227:=⟨⟨Tryz.f227,Tryz.func227,by kernel_rfl,by kernel_rfl⟩⟩
instance am0:aK Tryz.prog 228:=⟨⟨Tryz.f228,Tryz.func228,by kernel_rfl,by kernel_rfl⟩⟩
instance am1:aK Tryz.prog 229:=⟨⟨Tryz.f229,Tryz.func229,by kernel_rfl,by kernel_rfl⟩⟩
instance am2:aK Tryz.prog 230:=⟨⟨Tryz.f230,Tryz.func230,by kernel_rfl,by kernel_rfl⟩⟩
instance am3:aK Tryz.prog 237:=⟨⟨Tryz.f237,Tryz.func237,by kernel_rfl,by kernel_rfl⟩⟩
instance am4:aK Tryz.prog 245:=⟨⟨Tryz.f245,Tryz.func245,by kernel_rfl,by kernel_rfl⟩⟩
instance am5:aK Tryz.prog 251:=⟨⟨Tryz.f251,Tryz.func251,by kernel_rfl,by kernel_rfl⟩⟩
instance am6:aK Tryz.prog 252:=⟨⟨Tryz.f252,Tryz.func252,by kernel_rfl,by kernel_rfl⟩⟩
instance am7:aK Tryz.prog 253:=⟨⟨Tryz.f253,Tryz.func253,by kernel_rfl,by kernel_rfl⟩⟩
instance am8:aK Tryz.prog 254:=⟨⟨Tryz.f254,Tryz.func254,by kernel_rfl,by kernel_rfl⟩⟩
instance am9:aK Tryz.prog 255:=⟨⟨Tryz.f255,Tryz.func255,by kernel_rfl,by kernel_rfl⟩⟩
instance ana:aK Tryz.prog 256:=⟨⟨Tryz.f256,Tryz.func256,by kernel_rfl,by kernel_rfl⟩⟩
instance anb:aK Tryz.prog 257:=⟨⟨Tryz.f257,Tryz.func257,by kernel_rfl,by kernel_rfl⟩⟩
instance ane:aK Tryz.prog 258:=⟨⟨Tryz.f258,Tryz.func258,by kernel_rfl,by kernel_rfl⟩⟩
instance anf:aK Tryz.prog 259:=⟨⟨Tryz.f259,Tryz.func259,by kernel_rfl,by kernel_rfl⟩⟩
instance ang:aK Tryz.prog 260:=⟨⟨Tryz.f260,Tryz.func260,by kernel_rfl,by kernel_rfl⟩⟩
instance anh:aK Tryz.prog 261:=⟨⟨Tryz.f261,Tryz.func261,by kernel_rfl,by kernel_rfl⟩⟩
instance ani:aK Tryz.prog 262:=⟨⟨Tryz.f262,Tryz.func262,by kernel_rfl,by kernel_rfl⟩⟩
instance anj:aK Tryz.prog 263:=⟨⟨Tryz.f263,Tryz.func263,by kernel_rfl,by kernel_rfl⟩⟩
instance ank:aK Tryz.prog 264:=⟨⟨Tryz.f264,Tryz.func264,by kernel_rfl,by kernel_rfl⟩⟩
instance anl:aK Tryz.prog 267:=⟨⟨Tryz.f267,Tryz.func267,by kernel_rfl,by kernel_rfl⟩⟩
instance anm:aK Tryz.prog 268:=⟨⟨Tryz.f268,Tryz.func268,by kernel_rfl,by kernel_rfl⟩⟩
instance ann:aK Tryz.prog 269:=⟨⟨Tryz.f269,Tryz.func269,by kernel_rfl,by kernel_rfl⟩⟩
instance ano:aK Tryz.prog 297:=⟨⟨Tryz.f297,Tryz.func297,by kernel_rfl,by kernel_rfl⟩⟩
instance anp:aK Tryz.prog 298:=⟨⟨Tryz.f298,Tryz.func298,by kernel_rfl,by kernel_rfl⟩⟩
instance anq:aK Tryz.prog 299:=⟨⟨Tryz.f299,Tryz.func299,by kernel_rfl,by kernel_rfl⟩⟩
instance anr:aK Tryz.prog 300:=⟨⟨Tryz.f300,Tryz.func300,by kernel_rfl,by kernel_rfl⟩⟩
instance ans:aK Tryz.prog 301:=⟨⟨Tryz.f301,Tryz.func301,by kernel_rfl,by kernel_rfl⟩⟩
instance ant:aK Tryz.prog 302:=⟨⟨Tryz.f302,Tryz.func302,by kernel_rfl,by kernel_rfl⟩⟩
instance anu:aK Tryz.prog 303:=⟨⟨Tryz.f303,Tryz.func303,by kernel_rfl,by kernel_rfl⟩⟩
instance anv:aK Tryz.prog 304:=⟨⟨Tryz.f304,Tryz.func304,by kernel_rfl,by kernel_rfl⟩⟩
instance anw:aK Tryz.prog 305:=⟨⟨Tryz.f305,Tryz.func305,by kernel_rfl,by kernel_rfl⟩⟩
instance anx:aK Tryz.prog 306:=⟨⟨Tryz.f306,Tryz.func306,by kernel_rfl,by kernel_rfl⟩⟩
instance anz:aK Tryz.prog 307:=⟨⟨Tryz.f307,Tryz.func307,by kernel_rfl,by kernel_rfl⟩⟩
instance anA:aK Tryz.prog 308:=⟨⟨Tryz.f308,Tryz.func308,by kernel_rfl,by kernel_rfl⟩⟩
instance anB:aK Tryz.prog 309:=⟨⟨Tryz.f309,Tryz.func309,by kernel_rfl,by kernel_rfl⟩⟩
instance anC:aK Tryz.prog 310:=⟨⟨Tryz.f310,Tryz.func310,by kernel_rfl,by kernel_rfl⟩⟩
instance anD:aK Tryz.prog 311:=⟨⟨Tryz.f311,Tryz.func311,by kernel_rfl,by kernel_rfl⟩⟩
instance anE:aK Tryz.prog 312:=⟨⟨Tryz.f312,Tryz.func312,by kernel_rfl,by kernel_rfl⟩⟩
instance anF:aK Tryz.prog 313:=⟨⟨Tryz.f313,Tryz.func313,by kernel_rfl,by kernel_rfl⟩⟩
instance anG:aK Tryz.prog 314:=⟨⟨Tryz.f314,Tryz.func314,by kernel_rfl,by kernel_rfl⟩⟩
instance anH:aK Tryz.prog 315:=⟨⟨Tryz.f315,Tryz.func315,by kernel_rfl,by kernel_rfl⟩⟩
instance anI:aK Tryz.prog 326:=⟨⟨Tryz.f326,Tryz.func326,by kernel_rfl,by kernel_rfl⟩⟩
instance anJ:aK Tryz.prog 327:=⟨⟨Tryz.f327,Tryz.func327,by kernel_rfl,by kernel_rfl⟩⟩
instance anK:aK Tryz.prog 328:=⟨⟨Tryz.f328,Tryz.func328,by kernel_rfl,by kernel_rfl⟩⟩
instance anL:aK Tryz.prog 329:=⟨⟨Tryz.f329,Tryz.func329,by kernel_rfl,by kernel_rfl⟩⟩
instance anM:aK Tryz.prog 330:=⟨⟨Tryz.f330,Tryz.func330,by kernel_rfl,by kernel_rfl⟩⟩
instance anN:aK Tryz.prog 331:=⟨⟨Tryz.f331,Tryz.func331,by kernel_rfl,by kernel_rfl⟩⟩
instance anO:aK Tryz.prog 332:=⟨⟨Tryz.f332,Tryz.func332,by kernel_rfl,by kernel_rfl⟩⟩
instance anP:aK Tryz.prog 333:=⟨⟨Tryz.f333,Tryz.func333,by kernel_rfl,by kernel_rfl⟩⟩
instance anQ:aK Tryz.prog 334:=⟨⟨Tryz.f334,Tryz.func334,by kernel_rfl,by kernel_rfl⟩⟩
instance anR:aK Tryz.prog 335:=⟨⟨Tryz.f335,Tryz.func335,by kernel_rfl,by kernel_rfl⟩⟩
instance anS:aK Tryz.prog 336:=⟨⟨Tryz.f336,Tryz.func336,by kernel_rfl,by kernel_rfl⟩⟩
instance anT:aK Tryz.prog 340:=⟨⟨Tryz.f340,Tryz.func340,by kernel_rfl,by kernel_rfl⟩⟩
instance anU:aK Tryz.prog 341:=⟨⟨Tryz.f341,Tryz.func341,by kernel_rfl,by kernel_rfl⟩⟩
instance anV:aK Tryz.prog 342:=⟨⟨Tryz.f342,Tryz.func342,by kernel_rfl,by kernel_rfl⟩⟩
instance anW:aK Tryz.prog 343:=⟨⟨Tryz.f343,Tryz.func343,by kernel_rfl,by kernel_rfl⟩⟩
instance anX:aK Tryz.prog 344:=⟨⟨Tryz.f344,Tryz.func344,by kernel_rfl,by kernel_rfl⟩⟩
instance anY:aK Tryz.prog 345:=⟨⟨Tryz.f345,Tryz.func345,by kernel_rfl,by kernel_rfl⟩⟩
instance anZ:aK Tryz.prog 346:=⟨⟨Tryz.f346,Tryz.func346,by kernel_rfl,by kernel_rfl⟩⟩
instance an0:aK Tryz.prog 347:=⟨⟨Tryz.f347,Tryz.func347,by kernel_rfl,by kernel_rfl⟩⟩
instance an1:aK Tryz.prog 348:=⟨⟨Tryz.f348,Tryz.func348,by kernel_rfl,by kernel_rfl⟩⟩
instance an2:aK Tryz.prog 349:=⟨⟨Tryz.f349,Tryz.func349,by kernel_rfl,by kernel_rfl⟩⟩
instance an3:aK Tryz.prog 350:=⟨⟨Tryz.f350,Tryz.func350,by kernel_rfl,by kernel_rfl⟩⟩
end Go.Proofs.YtkggjjnhnjjokaaGreatDoor
namespace Go.Proofs
open Go.Shelf
def Tryz.YW:Go.Shelf.Ren:=⟨fun|137=>245|217=>270|266=>318|n=>n,fun|9=>9|5=>5|3=>3|n=>n,fun|n=>n⟩
theorem Tryz.YX:Go.Proofs.Lays.n137 Tryz.prog Tryz.YW:={
 mixed:=by kernel_rfl
 f137:=Tryz.func245.trans (congrArg some (by kernel_rfl))
 f217:=Tryz.func270.trans (congrArg some (by kernel_rfl))
 f266:=Tryz.func318.trans (congrArg some (by kernel_rfl))
 t3:=Tryz.underlying3
 a3:=Tryz.isAgg3
 z3:=Tryz.sizeOf3
 v3:=Tryz.zeroValue3
 t5:=Tryz.underlying5
 a5:=Tryz.isAgg5
 z5:=Tryz.sizeOf5
 v5:=Tryz.zeroValue5
 t9:=Tryz.underlying9
 a9:=Tryz.isAgg9
 z9:=Tryz.sizeOf9
 v9:=Tryz.zeroValue9}
open Go.RowKit in
theorem Tryz.strings_IndexByte(s:ByteArray)(c:Int)(w:World):
  Calls Tryz.prog 245 #[.string s, .int .u8 c] w fun e w'=>e= .returned (.int .i64 (Lib.indexByte s.data.toList c.toNat.toUInt8))/\w'=w:=Any.strings_IndexByte Tryz.YX s c w
def Tryz.an4:Go.Shelf.Ren:=⟨fun|219=>231|217=>270|225=>271|224=>272|267=>273|266=>318|314=>319|n=>n,fun|9=>9|3=>3|4=>4|5=>5|46=>253|146=>411|51=>26|n=>n,fun|1=>0|n=>n⟩
def Tryz.YY:Go.Shelf.Ren:=⟨fun|145=>115|220=>188|219=>231|217=>270|225=>271|224=>272|267=>273|266=>318|314=>319|n=>n,fun|9=>9|4=>4|59=>205|3=>3|5=>5|46=>253|146=>411|51=>26|n=>n,fun|1=>0|n=>n⟩
theorem Tryz.YZ:Go.Proofs.Lays.n145 Tryz.prog Tryz.YY:={
 mixed:=by kernel_rfl
 f145:=Tryz.func115.trans (congrArg some (by kernel_rfl))
 f217:=Tryz.func270.trans (congrArg some (by kernel_rfl))
 f219:=Tryz.func231.trans (congrArg some (by kernel_rfl))
 f220:=Tryz.func188.trans (congrArg some (by kernel_rfl))
 f224:=Tryz.func272.trans (congrArg some (by kernel_rfl))
 f225:=Tryz.func271.trans (congrArg some (by kernel_rfl))
 f266:=Tryz.func318.trans (congrArg some (by kernel_rfl))
 f267:=Tryz.func273.trans (congrArg some (by kernel_rfl))
 f314:=Tryz.func319.trans (congrArg some (by kernel_rfl))
 t3:=Tryz.underlying3
 a3:=Tryz.isAgg3
 z3:=Tryz.sizeOf3
 v3:=Tryz.zeroValue3
 t4:=Tryz.underlying4
 a4:=Tryz.isAgg4
 z4:=Tryz.sizeOf4
 v4:=Tryz.zeroValue4
 t5:=Tryz.underlying5
 a5:=Tryz.isAgg5
 z5:=Tryz.sizeOf5
 v5:=Tryz.zeroValue5
 t9:=Tryz.underlying9
 a9:=Tryz.isAgg9
 z9:=Tryz.sizeOf9
 v9:=Tryz.zeroValue9
 t46:=Tryz.underlying253
 a46:=Tryz.isAgg253
 z46:=Tryz.sizeOf253
 v46:=Tryz.zeroValue253
 t51:=Tryz.underlying26
 a51:=Tryz.isAgg26
 z51:=Tryz.sizeOf26
 v51:=Tryz.zeroValue26
 t59:=Tryz.underlying205
 a59:=Tryz.isAgg205
 z59:=Tryz.sizeOf205
 v59:=Tryz.zeroValue205
 t146:=Tryz.underlying411
 a146:=Tryz.isAgg411
 z146:=Tryz.sizeOf411
 v146:=Tryz.zeroValue411
 g1:=by kernel_rfl}
open Go.RowKit Go.Lib in
theorem Tryz.strings_Cut(s sep:ByteArray)(m:Int)(w:World)(hs:s.size<4294967281)(hm:w.cell? ⟨0,0,none⟩=some (.int .i64 m)):
  Calls Tryz.prog 115 #[.string s, .string sep] w fun e w'=>e= .returned (.tuple #[.string ⟨(Lib.cut s.data.toList sep.data.toList).1.toArray⟩, .string ⟨(Lib.cut s.data.toList sep.data.toList).2.1.toArray⟩, .bool (Lib.cut s.data.toList sep.data.toList).2.2])/\ ∃n,w'=w.drewN n:=Any.strings_Cut Tryz.YZ s sep m w hs hm
def Tryz.an5:Go.Shelf.Ren:=⟨fun|221=>146|268=>204|138=>205|143=>206|195=>240|197=>241|218=>242|219=>231|260=>286|217=>270|225=>271|224=>272|267=>273|266=>318|314=>319|n=>n,fun|9=>9|3=>3|31=>155|4=>4|0=>0|105=>344|21=>21|5=>5|46=>253|119=>413|139=>416|138=>415|146=>411|51=>26|n=>n,fun|1=>0|3=>2|4=>3|n=>n⟩
def Tryz.Y0:Go.Shelf.Ren:=⟨fun|146=>78|221=>146|268=>204|138=>205|143=>206|195=>240|197=>241|218=>242|219=>231|260=>286|217=>270|225=>271|224=>272|267=>273|266=>318|314=>319|n=>n,fun|9=>9|31=>155|3=>3|4=>4|0=>0|105=>344|21=>21|5=>5|46=>253|119=>413|139=>416|138=>415|146=>411|51=>26|n=>n,fun|1=>0|3=>2|4=>3|n=>n⟩
theorem Tryz.Y1:Go.Proofs.Lays.n146 Tryz.prog Tryz.Y0:={
 mixed:=by kernel_rfl
 f138:=Tryz.func205.trans (congrArg some (by kernel_rfl))
 f143:=Tryz.func206.trans (congrArg some (by kernel_rfl))
 f146:=Tryz.func78.trans (congrArg some (by kernel_rfl))
 f195:=Tryz.func240.trans (congrArg some (by kernel_rfl))
 f197:=Tryz.func241.trans (congrArg some (by kernel_rfl))
 f217:=Tryz.func270.trans (congrArg some (by kernel_rfl))
 f218:=Tryz.func242.trans (congrArg some (by kernel_rfl))
 f219:=Tryz.func231.trans (congrArg some (by kernel_rfl))
 f221:=Tryz.func146.trans (congrArg some (by kernel_rfl))
 f224:=Tryz.func272.trans (congrArg some (by kernel_rfl))
 f225:=Tryz.func271.trans (congrArg some (by kernel_rfl))
 f260:=Tryz.func286.trans (congrArg some (by kernel_rfl))
 f266:=Tryz.func318.trans (congrArg some (by kernel_rfl))
 f267:=Tryz.func273.trans (congrArg some (by kernel_rfl))
 f268:=Tryz.func204.trans (congrArg some (by kernel_rfl))
 f314:=Tryz.func319.trans (congrArg some (by kernel_rfl))
 t0:=Tryz.underlying0
 a0:=Tryz.isAgg0
 z0:=Tryz.sizeOf0
 v0:=Tryz.zeroValue0
 t3:=Tryz.underlying3
 a3:=Tryz.isAgg3
 z3:=Tryz.sizeOf3
 v3:=Tryz.zeroValue3
 t4:=Tryz.underlying4
 a4:=Tryz.isAgg4
 z4:=Tryz.sizeOf4
 v4:=Tryz.zeroValue4
 t5:=Tryz.underlying5
 a5:=Tryz.isAgg5
 z5:=Tryz.sizeOf5
 v5:=Tryz.zeroValue5
 t9:=Tryz.underlying9
 a9:=Tryz.isAgg9
 z9:=Tryz.sizeOf9
 v9:=Tryz.zeroValue9
 t21:=Tryz.underlying21
 a21:=Tryz.isAgg21
 z21:=Tryz.sizeOf21
 v21:=Tryz.zeroValue21
 t31:=Tryz.underlying155
 a31:=Tryz.isAgg155
 z31:=Tryz.sizeOf155
 v31:=Tryz.zeroValue155
 t46:=Tryz.underlying253
 a46:=Tryz.isAgg253
 z46:=Tryz.sizeOf253
 v46:=Tryz.zeroValue253
 t51:=Tryz.underlying26
 a51:=Tryz.isAgg26
 z51:=Tryz.sizeOf26
 v51:=Tryz.zeroValue26
 t105:=Tryz.underlying344
 a105:=Tryz.isAgg344
 z105:=Tryz.sizeOf344
 v105:=Tryz.zeroValue344
 t119:=Tryz.underlying413
 a119:=Tryz.isAgg413
 z119:=Tryz.sizeOf413
 t138:=Tryz.underlying415
 a138:=Tryz.isAgg415
 z138:=Tryz.sizeOf415
 v138:=Tryz.zeroValue415
 t139:=Tryz.underlying416
 a139:=Tryz.isAgg416
 z139:=Tryz.sizeOf416
 v139:=Tryz.zeroValue416
 t146:=Tryz.underlying411
 a146:=Tryz.isAgg411
 z146:=Tryz.sizeOf411
 v146:=Tryz.zeroValue411
 g1:=by kernel_rfl
 g3:=by kernel_rfl
 g4:=by kernel_rfl}
open Go.RowKit Go.Lib in
theorem Tryz.strings_Split(s sep:ByteArray)(m:Int)(w:World)(hs:s.size<4294967281)(hm:w.cell? ⟨0,0,none⟩=some (.int .i64 m))(h1:1<=sep.size):
  Calls Tryz.prog 78 #[.string s, .string sep] w fun e w'=>
   e= .returned (.slice (some ⟨w.heap.size,0,none⟩) (Lib.countB s sep+1) (Lib.countB s sep+1))/\w'=w.alloc (.cells ((Lib.splitB sep 0 (Lib.countB s sep) s).map Value.string).toArray 9):=Any.strings_Split Tryz.Y1 (by kernel_rfl) s sep m w hs hm h1
def Tryz.Y2:Go.Shelf.Ren:=⟨fun|146=>78|221=>146|268=>204|138=>205|143=>206|195=>240|197=>241|218=>242|219=>231|260=>286|217=>270|225=>271|224=>272|267=>273|266=>318|314=>319|n=>n,fun|9=>9|31=>155|3=>3|4=>4|0=>0|105=>344|21=>21|5=>5|46=>253|119=>413|139=>416|138=>415|146=>411|51=>26|n=>n,fun|1=>0|3=>2|4=>3|n=>n⟩
theorem Tryz.Y3:Go.Proofs.LaysM.n146 Tryz.prog Tryz.Y2:={
 mixed:=by kernel_rfl
 f138:=Tryz.func205.trans (congrArg some (by kernel_rfl))
 f143:=Tryz.func206.trans (congrArg some (by kernel_rfl))
 f146:=Tryz.func78.trans (congrArg some (by kernel_rfl))
 f195:=Tryz.func240.trans (congrArg some (by kernel_rfl))
 f197:=Tryz.func241.trans (congrArg some (by kernel_rfl))
 f217:=Tryz.func270.trans (congrArg some (by kernel_rfl))
 f218:=Tryz.func242.trans (congrArg some (by kernel_rfl))
 f219:=Tryz.func231.trans (congrArg some (by kernel_rfl))
 f221:=Tryz.func146.trans (congrArg some (by kernel_rfl))
 f224:=Tryz.func272.trans (congrArg some (by kernel_rfl))
 f225:=Tryz.func271.trans (congrArg some (by kernel_rfl))
 f260:=Tryz.func286.trans (congrArg some (by kernel_rfl))
 f266:=Tryz.func318.trans (congrArg some (by kernel_rfl))
 f267:=Tryz.func273.trans (congrArg some (by kernel_rfl))
 f268:=Tryz.func204.trans (congrArg some (by kernel_rfl))
 f314:=Tryz.func319.trans (congrArg some (by kernel_rfl))
 t0:=Tryz.underlying0
 a0:=Tryz.isAgg0
 z0:=Tryz.sizeOf0
 v0:=Tryz.zeroValue0
 t3:=Tryz.underlying3
 a3:=Tryz.isAgg3
 z3:=Tryz.sizeOf3
 v3:=Tryz.zeroValue3
 t4:=Tryz.underlying4
 a4:=Tryz.isAgg4
 z4:=Tryz.sizeOf4
 v4:=Tryz.zeroValue4
 t5:=Tryz.underlying5
 a5:=Tryz.isAgg5
 z5:=Tryz.sizeOf5
 v5:=Tryz.zeroValue5
 t9:=Tryz.underlying9
 a9:=Tryz.isAgg9
 z9:=Tryz.sizeOf9
 v9:=Tryz.zeroValue9
 t21:=Tryz.underlying21
 a21:=Tryz.isAgg21
 z21:=Tryz.sizeOf21
 v21:=Tryz.zeroValue21
 t31:=Tryz.underlying155
 a31:=Tryz.isAgg155
 z31:=Tryz.sizeOf155
 v31:=Tryz.zeroValue155
 t46:=Tryz.underlying253
 a46:=Tryz.isAgg253
 z46:=Tryz.sizeOf253
 v46:=Tryz.zeroValue253
 t51:=Tryz.underlying26
 a51:=Tryz.isAgg26
 z51:=Tryz.sizeOf26
 v51:=Tryz.zeroValue26
 t105:=Tryz.underlying344
 a105:=Tryz.isAgg344
 z105:=Tryz.sizeOf344
 v105:=Tryz.zeroValue344
 t119:=Tryz.underlying413
 a119:=Tryz.isAgg413
 z119:=Tryz.sizeOf413
 t138:=Tryz.underlying415
 a138:=Tryz.isAgg415
 z138:=Tryz.sizeOf415
 v138:=Tryz.zeroValue415
 t139:=Tryz.underlying416
 a139:=Tryz.isAgg416
 z139:=Tryz.sizeOf416
 v139:=Tryz.zeroValue416
 t146:=Tryz.underlying411
 a146:=Tryz.isAgg411
 z146:=Tryz.sizeOf411
 v146:=Tryz.zeroValue411
 g1:=by kernel_rfl
 g3:=by kernel_rfl
 g4:=by kernel_rfl
 i0:=by kernel_rfl
 i3:=by kernel_rfl
 i4:=by kernel_rfl
 i5:=by kernel_rfl
 i9:=by kernel_rfl
 i21:=by kernel_rfl
 i31:=by kernel_rfl
 i46:=by kernel_rfl
 i51:=by kernel_rfl
 i105:=by kernel_rfl
 i138:=by kernel_rfl
 i139:=by kernel_rfl
 i146:=by kernel_rfl
 m1:=by kernel_rfl
 s1_3:=fun w h=>Go.Proofs.cell_of_shapedOpen_int (zero:= #[.int .i64 0]) (t:=3) h (of_decide_eq_true (by kernel_rfl)) (by kernel_rfl) rfl (by kernel_rfl) (by kernel_rfl) Tryz.underlying3
 m3:=by kernel_rfl
 m4:=by kernel_rfl}
end Go.Proofs
namespace Go.Proofs.YtkggjjnhnjjokaaGreatDoor
open Go.ax Go.Kb Go.RowKit
class rh(w:World):Prop where
 len: ∃m,w.cell? ⟨0,0,none⟩=some (.int .i64 m)
theorem rh.at{w0 w:World}{L:List aj}(t:rh w0)(h:Mem w0 L w):rh w:=by
 obtain⟨m,hm⟩:=t.len;have h0:(0:Nat)<w0.heap.size:=by
  rcases asx 0 w0.heap.size with q|q
  ·
   exact q
  rw[World.cell?]at hm;rw[at1 (show w0.heap.size<=(⟨0,0,none⟩:Addr).block by exact q)]at hm;simp at hm
 exact⟨m,by rw[h.below.cell h0];exact hm⟩
variable {w0:World}{L:List aj}
instance[t:rh w0](s:cd)(c:UInt8):cE Tryz.prog 115 w0 L [.string ⟨s.toArray⟩, .string ⟨[c].toArray⟩] (.tuple #[.string ⟨(eM c s).1.toArray⟩, .string ⟨(eM c s).2.1.toArray⟩, .bool (eM c s).2.2]) (s.length<4294967281):=⟨fun h w hw=>by
 obtain⟨m,hm⟩:=(t.at hw).len;refine(Tryz.strings_Cut ⟨s.toArray⟩ ⟨[c].toArray⟩ m w (by rw[Al];exact h) hm).mono ?_;rintro e w' ⟨he,n,rfl⟩;exact⟨he, .N4 ⟨rfl,rfl,rfl,asu _,fun _ _=>rfl⟩⟩⟩
instance(s:cd)(c:UInt8):cE Tryz.prog 245 w0 L [.string ⟨s.toArray⟩, .int .u8 (c.toNat:Nat)] (.int .i64 (Lib.indexByte s c)) True:=⟨fun _ w hw=>by
 refine(Tryz.strings_IndexByte ⟨s.toArray⟩ c.toNat w).mono ?_;rintro e w' ⟨he,rfl⟩;have e1:((c.toNat:Int)).toNat.toUInt8=c:=by simp
 rw[e1]at he;exact⟨he, .init _⟩⟩
instance[t:rh w0](s:cd)(c:UInt8):bN Tryz.prog 78 w0 L [.string ⟨s.toArray⟩, .string ⟨[c].toArray⟩] Nat (fun b=>(⟨false,b,0,(cV c s).length,(cV c s).length,none⟩:Sv).val) (fun b=>own Cx 1 ⟨false,b,0,(cV c s).length,(cV c s).length,none⟩ (cV c s)::L) (fun _=>True) (s.length<4294967281):=⟨fun h w hw=>by
 obtain⟨m,hm⟩:=(t.at hw).len;have hs:(⟨s.toArray⟩:ByteArray).size<4294967281:=by rw[Al];exact h
 have e0:(Lib.splitB ⟨[c].toArray⟩ 0 (Lib.countB ⟨s.toArray⟩ ⟨[c].toArray⟩) ⟨s.toArray⟩).map (·.data.toList)=cV c s:=O5 c s.length ⟨s.toArray⟩ (by rw[Al];exact asu _);have el:(cV c s).length=Lib.countB ⟨s.toArray⟩ ⟨[c].toArray⟩+1:=by
  exact(Yq c ⟨s.toArray⟩).symm
 have hlen:(cV c s).length<=140737488355328:=by have:=O2 c s;omega
 refine(Tryz.strings_Split ⟨s.toArray⟩ ⟨[c].toArray⟩ m w hs hm (asu 1)).mono ?_;rintro e w' ⟨he,rfl⟩;refine⟨w.heap.size,by rw[he,el];rfl,trivial,hw.call (E:=[_]) (yr (enc:=Cx) (c:=1) (xs:=cV c s) rfl _ _ rfl (asu _) hlen ?_ fun i x hx j hj=>?_)⟩
 ·
  have:=congrArg List.length e0;rw[as8]at this;simp[this]
 obtain rfl:j=0:=by omega
 rw[←e0,asB]at hx;obtain⟨y,hy,rfl⟩:=aur.1 hx;simp only[at2,atl,atY,asB,hy,as7,Cx];rw[←Ym y];rfl⟩
end Go.Proofs.YtkggjjnhnjjokaaGreatDoor
namespace Go.Kb
open Go.ax
structure It where
 id:Int
 body:Sl UInt8
def pQ(x:It):Array Value:= #[.int .i64 x.id,x.body.sv.val]
instance:bm pQ 2:=⟨fun _=>rfl,fun x=>by
 have h1:(Value.int .i64 x.id).oneCell'=true:=rfl;simp only[pQ,auh,auo,auD,Sv.one,h1,at7]⟩
instance (x:It):cc (pQ x) 0 (.int .i64 x.id):=⟨rfl⟩
instance (x:It):cc (pQ x) 1 x.body.sv.val:=⟨rfl⟩
instance:Deep It where
 c:=2
 cells:=pQ
 size:=bm.size
 one:=bm.one
 cH h x:=Deep.cH h x.body
 bR x:=Deep.bR x.body
 jv h x hs:=Deep.jv h x.body hs
 mono w w' x:=Deep.mono w w' x.body
instance:fZ It pQ 2:=⟨rfl,fun _=>rfl⟩
variable {w0:World}{L:List aj}
instance{x:It}[q:aU w0 L x]:aU w0 L x.body:=⟨q.h⟩
instance {L R:List aj}{i:Int}{b:Sl UInt8}[k:Take L b R]:Take L (It.mk i b) R:=⟨k.h⟩
def Ap(a:Sl It):List (Int×List UInt8):=a.xs.map fun x=>(x.id,x.body.xs)
end Go.Kb
namespace Go.ax
structure oO where
 X:Type
 v:X->Value
 e:X->aj
section
variable {P:Program} {l:List Oper} {Q:Exit->Act->World->Prop} {fs:List Nat} {mk:Nat->oO} {w0:World}
def vg(P:Program)(o:Oper)(ρ:Operand->Value)(m:oO):Prop:= ∀(w0 w:World) (L:List aj),Mem w0 L w-> ∃(x:m.X) (w':World),(execOp ρ o).run P w= .ok (.value (m.v x)) w'/\Mem w0 (m.e x::L) w'
def upon(P:Program)(w:World)(R:Value->World->Prop):Result Next->Prop
 | .ok (.value v) w'=>R v w'
 | .ok .skip w'=>R undef w'
 | .ok (.enter f args) w'=>w'=w/\Calls P f args w fun e qt=> ∃v,e= .returned v/\R v qt
 |_=>False
def sB(P:Program)(l:List Oper)(fs:List Nat)(mk:Nat->oO)(Q:Exit->Act->World->Prop)(w0:World):List Nat->Act->List aj->List aj->Prop
 |[],af,L,_=> ∀w,Mem w0 L w->Q .normal af w
 |k::ord,af,L,Lq=> ∃o,l[k]? =some o/\(if fs.contains k=true then(∀i∈ord,fs.contains (i+2000)=true-> ∃oi,l[i]? =some oi/\oi.guard=none/\vg P oi af.eval (mk i))/\(if fs.contains (k+2000)=true then
  o.guard=none/\vg P o af.eval (mk k)/\ ∀x:(mk k).X,sB P l fs mk Q w0 ord (af.put o.dst ((mk k).v x)) ((mk k).e x::L) Lq
  else
   Region.wanted o (yielded l.toArray af.tmps)=true/\(∀w,Mem w0 L w->upon P w (fun v w'=> ∃L' gL,Mem w0 L' w'/\(∀w,Mem w0 L' w->Mem w0 gL w)/\(∀w,Mem w0 gL w->Mem w0 Lq w)/\(fs.contains (k+5000)=true-> ∀w,Mem w0 L' w->Mem w0 L w)/\sB P l fs mk Q w0 ord (af.put o.dst v) L' gL) ((execOp af.eval o).run P w))/\
   (fs.contains (k+4000)=true-> ∀e w,Mem w0 (e::L) w->upon P w (fun v w'=> ∃L' gL,Mem w0 (e::L') w'/\(∀w,Mem w0 L' w->Mem w0 gL w)/\(∀w,Mem w0 gL w->Mem w0 Lq w)/\(fs.contains (k+5000)=true-> ∀w,Mem w0 L' w->Mem w0 L w)/\sB P l fs mk Q w0 ord (af.put o.dst v) L' gL) ((execOp af.eval o).run P w)))
  else∃v,(Region.wanted o (yielded l.toArray af.tmps)=true->uX P o af (Mem w0 (if fs.contains (k+1000)=true then L else Lq)) v)/\(Region.wanted o (yielded l.toArray af.tmps)=false->v=undef)/\sB P l fs mk Q w0 ord (af.put o.dst v) L Lq)
def CB(o:Oper):List Nat:=(o.after.toList.filter fun e=>Region.binds .any e).map (·.on)
def Jx(l:List Oper)(fs:List Nat)(A:List (List Nat))(prev seen:List Nat)(k:Nat)(o:Oper):Bool:=
 (!fs.contains k||fs.contains (k+2000)||fs.contains (k+5000)||(prev.all fun j=> !fs.contains (j+1000)||(A.getD k []).contains j))&&
 (match o.op with| .select .. =>false|_=>true)&&
 ((CB o).all fun j=>decide (j<k))&&
 (fs.contains (k+2000)||seen.all fun f=>(A.getD k []).contains f)&&
 ((A.getD k []).all fun f=>(CB o).any fun j=>j==f||(A.getD j []).contains f)&&
 ((List.range l.length).all fun j=>match dY l j with
  |none=>true
  |some d=>(!(o.looksAt l.toArray).contains d||(prev.contains j&&(CB o).contains j&&(!fs.contains (k+2000)|| !fs.contains j)))&&(j==k||o.dst !=some d))
def vh(l:List Oper)(fs:List Nat)(A:List (List Nat)):List Nat->List Nat->List Nat->Bool
 |_,_,[]=>true
 |prev,seen,k::ord=>(match l[k]?with|none=>false|some o=>Jx l fs A prev seen k o)&&(!fs.contains k||fs.contains (k+2000)||(ord.all fun j=> !fs.contains (j+2000))||(fs.contains (k+4000)&&decide ((ord.filter fun j=>fs.contains (j+2000)).length<=1)))&&vh l fs A (k::prev) (if fs.contains k then k::seen else seen) ord
def Fm(l:List Oper)(fs:List Nat)(A:List (List Nat))(ord:List Nat):Bool:=
 ((List.range l.length).all fun j=>ord.contains j)&&decide ord.Nodup&&(ord.all fun j=>decide (j<l.length))&&(fs.all fun j=>decide (j<2000))&&vh l fs A [] [] ord
def Fo(l:List Oper)(fs:List Nat)(A:List (List Nat))(ord:List Nat):Bool:=
 ((List.range l.length).all fun j=>ord.contains j)&&decide ord.Nodup&&(ord.all fun j=>decide (j<l.length))&&vh l fs A [] [] ord
structure Jy(l:List Oper)(fs:List Nat)(A:List (List Nat))(prev seen:List Nat)(k:Nat)(o:Oper):Prop where
 tmp:fs.contains k=true->fs.contains (k+2000)=false->fs.contains (k+5000)=false-> ∀j∈prev,fs.contains (j+1000)=true->j∈A.getD k []
 wy: ∀cs b,o.op≠ .select cs b
 back: ∀e∈o.after,Region.binds .any e=true->e.on<k
 Y4:fs.contains (k+2000)=false-> ∀f∈seen,f∈A.getD k []
 cert: ∀f∈A.getD k [],∃e∈o.after,Region.binds .any e=true/\(e.on=f\/f∈A.getD e.on [])
 reads: ∀j d,j<l.length->dY l j=some d->d∈o.looksAt l.toArray->j∈prev/\ ∃e∈o.after,Region.binds .any e=true/\e.on=j
 one: ∀j d,j<l.length->dY l j=some d->j≠k->o.dst≠some d
 Y5:fs.contains (k+2000)=true-> ∀j d,j<l.length->dY l j=some d->d∈o.looksAt l.toArray->fs.contains j=false
theorem Jz{o:Oper}{j:Nat}:j∈CB o↔ ∃e∈o.after,Region.binds .any e=true/\e.on=j:=by
 unfold CB;simp only[atw,asQ];constructor
 ·
  rintro⟨e,⟨h1,h2⟩,h3⟩;exact⟨e,by simpa using h1,h2,h3⟩
 rintro⟨e,h1,h2,h3⟩;exact⟨e,⟨by simpa using h1,h2⟩,h3⟩
theorem Y6{A:List (List Nat)}{prev seen:List Nat}{k:Nat}{o:Oper}(h:Jx l fs A prev seen k o=true):Jy l fs A prev seen k o:=by
 simp only[Jx,alM]at h;obtain⟨⟨⟨⟨⟨h0,h1⟩,h2⟩,h3⟩,h4⟩,h5⟩:=h;refine⟨fun hk oJ Y7 j hj ht=>by
  rw[hk,oJ,Y7,Bool.not_true,au0,au0,au0]at h0;have:=asD.1 h0 j hj;rw[ht]at this;simpa using this,fun cs b e=>by rw[e]at h1;simp at h1,fun e he hb=>?_,fun ei f hf=>?_,fun f hf=>?_,fun j d hj hd hl=>?_,fun j d hj hd bO=>?_,fun hk j d hj hd hl=>?_⟩
 ·
  have:=asD.1 h2 e.on (Jz.2 ⟨e,he,hb,rfl⟩);simpa using this
 ·
  rw[ei,au0]at h3;have:=asD.1 h3 f hf;simpa using this
 ·
  have:=asD.1 h4 f hf;obtain⟨j,hj,dJ⟩:=List.any_eq_true.1 this;obtain⟨e,he,hb,rfl⟩:=Jz.1 hj;exact⟨e,he,hb,by simpa using dJ⟩
 ·
  have:=asD.1 h5 j (asU.2 hj);rw[hd]at this;simp only[alM,atF,att]at this;rcases this.1 with h6|h6
  ·
   exact absurd hl (by simpa using h6)
  exact⟨by simpa using h6.1.1,Jz.1 (by simpa using h6.1.2)⟩
 ·
  have:=asD.1 h5 j (asU.2 hj);rw[hd]at this;simp only[alM,atF,beq_iff_eq]at this;rcases this.2 with h6|h6
  ·
   exact absurd h6 bO
  simpa using h6
 have:=asD.1 h5 j (asU.2 hj);rw[hd]at this;simp only[alM,atF,att]at this;rcases this.1 with h6|h6
 ·
  exact absurd hl (by simpa using h6)
 rcases h6.2 with h7|h7
 ·
  rw[hk]at h7;cases h7
 exact h7
theorem wT{A:List (List Nat)}: ∀(ord prev seen:List Nat),vh l fs A prev seen ord=true-> ∀(x:List Nat) (k:Nat) (y:List Nat),ord=x++k::y->
  ∃o,l[k]? =some o/\Jy l fs A (x.reverse++prev) ((x.filter fun j=>fs.contains j).reverse++seen) k o/\(fs.contains k=true->fs.contains (k+2000)=false->(∀j∈y,fs.contains (j+2000)=false)\/(fs.contains (k+4000)=true/\(y.filter fun j=>fs.contains (j+2000)).length<=1))
 |[],_,_,_,x,k,y,e=>by simp at e
 |k0::ord,prev,seen,h,x,k,y,e=>by
  simp only[vh,alM]at h
  cases x with
  |nil=>
   simp only[atc,au6]at e;obtain⟨rfl,rfl⟩:=e
   cases ho:l[k0]?with
   |none=>rw[ho]at h;simp at h
   |some o=>
    rw[ho]at h;refine⟨o,rfl,by simpa using Y6 h.1.1,fun h1 h2=>?_⟩;have h3:=h.1.2;rw[h1,h2]at h3;simp only[Bool.not_true,au0,atF,alM,decide_eq_true_eq]at h3;refine h3.imp (fun h4 j hj=>?_) id;have:=asD.1 h4 j hj;simpa using this
  |cons x0 x=>
   simp only[atA,au6]at e;obtain⟨rfl,rfl⟩:=e;obtain⟨o,ho,hk,hy⟩:=wT _ _ _ h.2 x k y rfl;refine⟨o,ho,?_,hy⟩;have e1:(k0::x).reverse++prev=x.reverse++(k0::prev):=by simp
   have e2:(((k0::x).filter fun j=>fs.contains j).reverse++seen)=(x.filter fun j=>fs.contains j).reverse++(if fs.contains k0 then k0::seen else seen):=by
    cases hc:fs.contains k0 with
    |true=>
     rw[atf,if_pos hc,List.reverse_cons,asF];rfl
    |false=>
     rw[atf,if_neg (by rw[hc];exact atB)];rfl
   rw[e1,e2];exact hk
def pR(N0 d:Nat)(v:Value)(a:Act):Prop:=a.tmps[d]? =if d<N0 then some v else none
theorem Aq{N0 d:Nat}{v:Value}{a:Act}(h:a.tmps.size=N0):pR N0 d v (a.put (some d) v):=by
 subst h;unfold pR;simp[Act.put,atg]
def JA(P:Program)(l:List Oper)(w0:World)(N0 k:Nat)(af:Act)(Lq:List aj):Prop:=
 ∃o v,l[k]? =some o/\(∀d,o.dst=some d->pR N0 d v af)/\(Region.wanted o (yielded l.toArray af.tmps)=true->uX P o af (Mem w0 Lq) v)/\(Region.wanted o (yielded l.toArray af.tmps)=false->v=undef)
def Early(l:List Oper)(fs:List Nat)(mk:Nat->oO)(N0:Nat)(iv:List Nat)(listed:Array Bool)(a:Act)(e:Nat×aj):Prop:=
 e.1∈iv/\listed.getD e.1 true=true/\fs.contains e.1=true/\fs.contains (e.1+2000)=true/\ ∃o,∃x:(mk e.1).X,l[e.1]? =some o/\e.2=(mk e.1).e x/\ ∀d,o.dst=some d->pR N0 d ((mk e.1).v x) a
structure Core(P:Program)(l:List Oper)(fs:List Nat)(mk:Nat->oO)(Q:Exit->Act->World->Prop)(w0:World)(ord:List Nat)(a0:Act)(pre iv:List Nat)(af:Act)(L Lq:List aj)(E:List (Nat×aj))(listed:Array Bool)(a:Act)(w:World):Prop where
 ord:ord=pre++iv
 inv:HeadInv .any l.toArray l.length listed
 mem:Mem w0 (E.map (·.2)++L) w
 qz: ∀e∈E,Early l fs mk a0.tmps.size iv listed a e
 keys:(E.map (·.1)).Nodup
 Ar: ∀w,Mem w0 L w->Mem w0 Lq w
 yD:sB P l fs mk Q w0 iv af L Lq
 size:a.tmps.size=a0.tmps.size
 qY:af.tmps.size=a0.tmps.size
 defers:a.defers=a0.defers
 tH:af.defers=a0.defers
 sub: ∀j,j<l.length->listed.getD j true=true->j∈pre\/j∈E.map (·.1)
 fresh: ∀j∈pre,fs.contains j=true->listed.getD j true=true
 wU: ∀j∈pre,listed.getD j true=false->JA P l w0 a0.tmps.size j af (if fs.contains (j+1000)=true then L else Lq)
 done: ∀j d,j<l.length->listed.getD j true=true->j∈pre->dY l j=some d->a.tmps[d]? =af.tmps[d]?
 rest: ∀d,(∀j,j<l.length->listed.getD j true=true->dY l j≠some d)->a.tmps[d]? =a0.tmps[d]?
 full: ∀d,(∀j∈pre,dY l j≠some d)->af.tmps[d]? =a0.tmps[d]?
variable {A:List (List Nat)} {ord:List Nat} {a0:Act}
theorem CC{o:Oper}(hn: ∀cs b,o.op≠ .select cs b){a b:Act}(h: ∀t∈o.looksAt l.toArray,a.tmps[t]? =b.tmps[t]?):
  execOp a.eval o=execOp b.eval o/\Region.wanted o (yielded l.toArray a.tmps)=Region.wanted o (yielded l.toArray b.tmps):=
 ⟨execOp_congr o hn (IG h),Od h⟩
theorem Py{o:Oper}{a b:Act}{C D:World->Prop}{v:Value}(e:execOp a.eval o=execOp b.eval o)(hD: ∀w,D w->C w)(h:uX P o a C v):uX P o b D v:=fun w hw=>by
 have:=h w (hD w hw);unfold Oper.quietAt at this⊢;rw[←e];exact this
theorem As{pre iv:List Nat}{i k N0:Nat}{af:Act}{Lq gL:List aj}{oi:Oper}{u:Value}(hB:vh l fs A [] [] ord=true)(cC:ord.Nodup)(bc: ∀j∈ord,j<l.length)(ho:ord=pre++i::iv)(yd:l[i]? =some oi)(hk:k∈pre)(hq: ∀w,Mem w0 gL w->Mem w0 Lq w)
  (h:JA P l w0 N0 k af Lq):JA P l w0 N0 k (af.put oi.dst u) gL:=by
 obtain⟨o,v,h1,h2,h3,h4⟩:=h;obtain⟨x,y,rfl⟩:=auU hk;have pI:ord=x++k::(y++i::iv):=by rw[ho];simp
 obtain⟨o',pS,bB,-⟩:=wT ord [] [] hB x k _ pI;have:o'=o:=by rw[h1]at pS;exact(aso pS).symm
 subst this;have dK:i<l.length:=(ad2.1 yd).1;have lr:dY l i=oi.dst:=by simp[dY,yd]
 have nR:i≠k:=fun e=>by
  subst e;rw[pI]at cC;have:=(at6.1 cC).2.1;exact(auK.1 this).1 (by simp)
 have vi:i∉x:=fun hx=>by
  rw[pI]at cC;exact(at6.1 cC).2.2 i hx i (by simp) rfl
 have JB: ∀t∈o'.looksAt l.toArray,af.tmps[t]? =(af.put oi.dst u).tmps[t]? :=fun t ht=>by
  refine(jW _ _ _ _ fun e=>?_).symm;obtain⟨hp,_⟩:=bB.reads i t dK (by rw[lr];exact e) ht;rw[asZ,avu]at hp;exact vi hp
 obtain⟨e1,e2⟩:=CC bB.wy JB;refine⟨o',v,h1,fun d hd=>?_,fun hw=>Py e1 hq (h3 (by rw[e2];exact hw)),fun hw=>h4 (by rw[e2];exact hw)⟩;have:=h2 d hd;unfold pR at this⊢;rw[jW _ _ _ _ fun e=>?_]
 ·
  exact this
 ·
  exact bB.one i d dK (by rw[lr];exact e) nR hd
theorem Y8{E:List (Nat×aj)}{k:Nat}(h:k∈E.map (·.1)): ∃E1 x E2,E=E1++(k,x)::E2:=by
 obtain⟨e,he,rfl⟩:=atw.1 h;obtain⟨E1,E2,rfl⟩:=auU he;exact⟨E1,e.2,E2,rfl⟩
theorem Fp(hB:vh l fs A [] [] ord=true)(cC:ord.Nodup)(bc: ∀j∈ord,j<l.length): ∀(iv pre:List Nat) (af:Act) {L Lq:List aj} {E:List (Nat×aj)} {listed:Array Bool} {a:Act} {w:World},Core P l fs mk Q w0 ord a0 pre iv af L Lq E listed a w->
  ∃Y9 JC Za L' E',Core P l fs mk Q w0 ord a0 Y9 JC Za L' Lq E' listed a w/\(JC=[]\/ ∃f r,JC=f::r/\fs.contains f=true/\f∉E'.map (·.1))
 |[],pre,af,L,_,E,_,_,_,H=>⟨pre,[],af,L,E,H, .inl rfl⟩
 |k::iv,pre,af,L,Lq,E,listed,a,w,H=>by
  have nS:k∉pre:=fun h=>by
   have pT:=cC;rw[H.ord]at pT;exact(at6.1 pT).2.2 k h k (by simp) rfl
  have iS: ∀j,j∈pre->j≠k:=fun j hj e=>nS (e▸hj);have hks:k∉iv:=fun h=>by
   have pT:=cC;rw[H.ord]at pT;exact(auK.1 (at6.1 pT).2.1).1 h
  obtain⟨o',sC,bB,-⟩:=wT ord [] [] hB pre k iv H.ord;have nT:k<l.length:=(ad2.1 sC).1;have Fq:dY l k=o'.dst:=by simp[dY,sC]
  cases hf:fs.contains k with
  |true=>
   by_cases hE:k∈E.map (·.1)
   ·
    obtain⟨E1,x,E2,rfl⟩:=Y8 hE;obtain⟨_,fv,_,ei,oe,b,Pz,hx,nU⟩:=H.qz (k,x) (by simp);simp only at fv ei Pz hx nU;have e0:oe=o':=by rw[Pz]at sC;exact aso sC
    subst e0;obtain⟨o,pS,hl⟩:=H.yD;rw[if_pos hf,if_pos ei]at hl;have e1:o=oe:=by rw[pS]at sC;exact aso sC
    subst e1;obtain⟨_,_,_,Au⟩:=hl;have Zb:(((E1++(k,x)::E2).map (·.2))++L).Perm (((E1++E2).map (·.2))++x::L):=by
     simp only[as0,asL,asF,atA];exact List.Perm.append_left _ (auB.symm)
    have JD:=H.keys;simp only[as0,asL]at JD;have Zc: ∀e∈E1++E2,e.1≠k:=fun e he e2=>by
     obtain⟨n1,n2,n3⟩:=at6.1 JD;rcases asz.1 he with h|h
     ·
      exact n3 e.1 (asN h) k (by simp) e2
     ·
      exact(auK.1 n2).1 (e2▸asN h)
    refine Fp hB cC bc iv (pre++[k]) (af.put o.dst ((mk k).v b)) (L:=x::L) (E:=E1++E2) ⟨by rw[H.ord];simp,H.inv,H.mem.perm Zb,fun e he=>?_,?_,fun w hw=>H.Ar w (hw.sub (atm _ _)),by rw[hx];exact Au b,H.size,by rw[tE];exact H.qY,H.defers,by rw[tF];exact H.tH,fun j hj hl=>?_,fun j hj r9=>?_,fun j hj hl=>?_,fun j d hj hl tY hd=>?_,H.rest,fun d hd=>?_⟩
    ·
     have hm:e∈E1++(k,x)::E2:=by
      rcases asz.1 he with h|h
      ·
       exact asX _ h
      ·
       exact atO _ (asE _ h)
     obtain⟨g1,g2⟩:=H.qz e hm;exact⟨(asw.1 g1).resolve_left (Zc e he),g2⟩
    ·
     rw[as0];exact JD.sublist (List.Sublist.append_left (atm _ _) _)
    ·
     rcases H.sub j hj hl with h|h
     ·
      exact .inl (asX _ h)
     ·
      simp only[as0,asL,asz,asw]at h;rcases h with h|h|h
      ·
       exact .inr (by simp only[as0,asz];exact .inl h)
      ·
       exact .inl (by rw[h];simp)
      ·
       exact .inr (by simp only[as0,asz];exact .inr h)
    ·
     rcases asz.1 hj with h|h
     ·
      exact H.fresh j h r9
     ·
      obtain rfl:=as6.1 h;exact fv
    ·
     rcases asz.1 hj with h|h
     ·
      have hp:=H.wU j h hl
      cases yE:fs.contains (j+1000)with
      |true=>
       rw[yE]at hp;simp only[if_true]at hp⊢;exact As hB cC bc H.ord pS h (fun w hw=>hw.sub (atm _ _)) hp
      |false=>
       rw[yE]at hp;simp only[as2,if_false]at hp⊢;exact As hB cC bc H.ord pS h (fun _ h=>h) hp
     ·
      obtain rfl:=as6.1 h;rw[fv]at hl;cases hl
    ·
     rcases asz.1 tY with h|h
     ·
      rw[jW _ _ _ _ (bB.one j d hj hd (iS j h))];exact H.done j d hj hl h hd
     ·
      obtain rfl:=as6.1 h;rw[Fq]at hd;have h3:=nU d hd;rw[hd];have h4:pR a0.tmps.size d ((mk j).v b) (af.put (some d) ((mk j).v b)):=Aq H.qY;unfold pR at h3 h4;rw[h3,h4]
    ·
     rw[jW _ _ _ _ (by have:=hd k (by simp);rwa [Fq]at this)];exact H.full d fun j hj=>hd j (asX _ hj)
   ·
    exact⟨pre,k::iv,af,L,E,H, .inr ⟨k,iv,rfl,hf,hE⟩⟩
  |false=>
   obtain⟨o,pS,hl⟩:=H.yD;rw[if_neg (by rw[hf];exact atB)]at hl;obtain⟨v,h1,h2,h3⟩:=hl;have:o'=o:=by rw[pS]at sC;exact(aso sC).symm
   subst this;have JB: ∀t∈o'.looksAt l.toArray,af.tmps[t]? =(af.put o'.dst v).tmps[t]? :=fun t ht=>by
    refine(jW _ _ _ _ fun e=>?_).symm;obtain⟨hp,_⟩:=bB.reads k t nT (by rw[Fq];exact e) ht;rw[asZ,avu]at hp;exact nS hp
   obtain⟨e1,e2⟩:=CC bB.wy JB;refine Fp hB cC bc iv (pre++[k]) (af.put o'.dst v) ⟨by rw[H.ord];simp,H.inv,H.mem,fun e he=>?_,H.keys,H.Ar,h3,H.size,by rw[tE];exact H.qY,H.defers,by rw[tF];exact H.tH,fun j hj hl=>(H.sub j hj hl).imp_left fun h=>asX _ h,fun j hj r9=>?_,fun j hj hl=>?_,fun j d hj hl tY hd=>?_,H.rest,fun d hd=>?_⟩
   ·
    obtain⟨g1,g2,g3,g4⟩:=H.qz e he;exact⟨(asw.1 g1).resolve_left (fun e2=>by rw[e2,hf]at g3;cases g3),g2,g3,g4⟩
   ·
    rcases asz.1 hj with h|h
    ·
     exact H.fresh j h r9
    ·
     obtain rfl:=as6.1 h;rw[hf]at r9;cases r9
   ·
    rcases asz.1 hj with h|h
    ·
     exact As hB cC bc H.ord pS h (fun _ h=>h) (H.wU j h hl)
    ·
     obtain rfl:=as6.1 h;refine⟨o',v,pS,fun d hd=>by rw[hd];exact Aq H.qY,fun hw=>Py e1 (fun _ h=>h) (h1 (by rw[e2];exact hw)),fun hw=>h2 (by rw[e2];exact hw)⟩
   ·
    rcases asz.1 tY with h|h
    ·
     rw[jW _ _ _ _ (bB.one j d hj hd (iS j h))];exact H.done j d hj hl h hd
    ·
     obtain rfl:=as6.1 h;rcases H.sub j hj hl with h5|h5
     ·
      exact absurd h5 nS
     ·
      obtain⟨e,he,Zd⟩:=atw.1 h5;obtain⟨_,_,g3,_⟩:=H.qz e he;rw[Zd,hf]at g3;cases g3
   ·
    rw[jW _ _ _ _ (by have:=hd k (by simp);rwa [Fq]at this)];exact H.full d fun j hj=>hd j (asX _ hj)
theorem PA{x p1 y y':List Nat}{i:Nat}(hn:(p1++i::y').Nodup)(h:x++i::y=p1++i::y'):x=p1:=by
 induction x generalizing p1 with
 |nil=>
  cases p1 with
  |nil=>rfl
  |cons q p1=>
   simp only[atc,atA,au6]at h;obtain⟨rfl,_⟩:=h;exact absurd (by simp) (auK.1 hn).1
 |cons c x ih=>
  cases p1 with
  |nil=>
   simp only[atc,atA,au6]at h;obtain⟨rfl,h2⟩:=h;rw[←h2]at hn;exact absurd (by simp) (auK.1 hn).1
  |cons q p1=>
   simp only[atA,au6]at h;obtain⟨rfl,h2⟩:=h;rw[ih (auK.1 hn).2 h2]
theorem PB{listed:Array Bool}(hB:vh l fs A [] [] ord=true)(iE: ∀j,j<l.length->j∈ord)(inv:HeadInv .any l.toArray l.length listed): ∀(k:Nat) (o:Oper),l[k]? =some o->(∀e∈o.after,Region.binds .any e=true->listed.getD e.on false=true)->
  ∀f∈A.getD k [],listed.getD f false=true:=by
 intro k
 induction k using Nat.strongRecOn with
 |_ k ih=>
  intro o pS hd f hf;obtain⟨x,y,hx⟩:=auU (iE k (ad2.1 pS).1);obtain⟨o',sC,bB,-⟩:=wT ord [] [] hB x k y hx;have:o'=o:=by rw[pS]at sC;exact(aso sC).symm
  subst this;obtain⟨e,he,hb,h⟩:=bB.cert f hf;have hl:=hd e he hb;rcases h with rfl|h
  ·
   exact hl
  ·
   have bc:=bB.back e he hb;have Fs:e.on<l.length:=by have:=(ad2.1 pS).1;omega
   exact ih e.on bc l[e.on] (by simp[Fs]) (inv.closed e.on _ (by simp[Fs]) hl) f h
theorem Fu{listed:Array Bool}{i:Nat}(hi:i<listed.size)(h:listed.getD i false=true):listed.getD i true=true:=by
 simp[hi]at h⊢;exact h
theorem Fv(hB:vh l fs A [] [] ord=true)(cC:ord.Nodup)(bc: ∀j∈ord,j<l.length)(iE: ∀j,j<l.length->j∈ord)(Av: ∀k,k<l.length->fs.contains k=false->fs.contains (k+2000)=false):
  ∀(m:Nat) (pre iv:List Nat) (af:Act) (L Lq:List aj) (E:List (Nat×aj)) (listed:Array Bool) (a:Act) (w:World),left l.length listed=m->Core P l fs mk Q w0 ord a0 pre iv af L Lq E listed a w->wpAny P .any l.toArray Q m listed a w
 |0,JE,JF,JG,L0,Lq,E0,listed,a,w,hm,H0=>by
  obtain⟨pre,iv,af,L,E,H,JH⟩:=Fp hB cC bc JF JE JG H0;have iT: ∀j,j<l.length->listed.getD j true=true:=fun j hj=>by
   cases h:listed.getD j true with
   |true=>rfl
   |false=>
    have:j∈(List.range l.length).filter fun i=> !listed.getD i true:=asQ.2 ⟨List.mem_range.2 hj,by rw[h];rfl⟩;rw[asI.1 hm]at this
    cases this
  have hr:Region.ready .any l.toArray listed=[]:=by
   refine List.eq_nil_iff_forall_not_mem.2 fun i hi=>?_;obtain⟨h1,o,h2,_⟩:=mem_ready.1 hi;rw[iT i (by have:=(aua.1 h2).1;simpa using this)]at h1;cases h1
  have JI:iv=[]:=by
   rcases JH with h|⟨k,r,hs,_,hE⟩
   ·
    exact h
   ·
    exfalso;have hk:k∈ord:=by rw[H.ord,hs];simp
    rcases H.sub k (bc k hk) (iT k (bc k hk))with this|this
    ·
     have pT:=cC;rw[H.ord,hs]at pT;exact absurd rfl ((at6.1 pT).2.2 k this k (by simp))
    ·
     exact hE this
  have hE:E=[]:=List.eq_nil_iff_forall_not_mem.2 fun e he=>by
   have:=(H.qz e he).1;rw[JI]at this;cases this
  have Au:=H.yD;rw[JI]at Au;have JJ:=H.ord;rw[JI,asZ]at JJ;have e1:a=af:=by
   have:a.tmps=af.tmps:=by
    apply atM;intro d
    by_cases hw: ∃j,j<l.length/\dY l j=some d
    ·
     obtain⟨j,hj,hd⟩:=hw;exact H.done j d hj (iT j hj) (by rw[←JJ];exact iE j hj) hd
    ·
     have h1: ∀j,j<l.length->dY l j≠some d:=fun j hj hd=>hw ⟨j,hj,hd⟩;rw[H.rest d fun j hj _=>h1 j hj,H.full d fun j hj=>h1 j (bc j (by rw[JJ];exact hj))]
   have h2:a.defers=af.defers:=by rw[H.defers,H.tH]
   cases a;cases af
   simp_all
  subst e1;have kx:=H.mem;rw[hE]at kx;exact⟨hr,Au w (by simpa using kx)⟩
 |m+1,JE,JF,JG,L0,Lq,E0,listed,a,w,hm,H0=>by
  obtain⟨pre,iv,af,L,E,H,JH⟩:=Fp hB cC bc JF JE JG H0;have PC:Mem w0 L w:=H.mem.sub (List.sublist_append_right _ _);obtain⟨i0,B8,Ey,B9⟩: ∃i,i<l.length/\listed.getD i true=false/\ ∀j,j<i->listed.getD j true=true:=by
   have bO: ∃i,i<l.length/\listed.getD i true=false:=by
    cases hf:(List.range l.length).filter fun i=> !listed.getD i true with
    |nil=>rw[left,hf]at hm;cases hm
    |cons i r=>
     have:i∈(List.range l.length).filter fun i=> !listed.getD i true:=by rw[hf];simp
     obtain⟨h1,h2⟩:=asQ.1 this;exact⟨i,asU.1 h1,by simpa using h2⟩
   obtain⟨i,h1,h2⟩:=bO
   induction i using Nat.strongRecOn with
   |_ i ih=>
    by_cases h: ∃j,j<i/\listed.getD j true=false
    ·
     obtain⟨j,hj,dJ⟩:=h;exact ih j hj (by omega) dJ
    ·
     refine⟨i,h1,h2,fun j hj=>?_⟩
     cases hh:listed.getD j true with
     |true=>rfl
     |false=>exact absurd ⟨j,hj,hh⟩ h
  have fh:listed.size=l.length:=by simpa using H.inv.size
  have ok: ∀k,k<l.length-> ∃x y o,ord=x++k::y/\l[k]? =some o/\Jy l fs A (x.reverse++[]) ((x.filter fun j=>fs.contains j).reverse++[]) k o:=fun k hk=>by
   obtain⟨x,y,hx⟩:=auU (iE k hk);obtain⟨o,ho,bB,-⟩:=wT ord [] [] hB x k y hx;exact⟨x,y,o,hx,ho,bB⟩
  have Ca:i0∈Region.ready .any l.toArray listed:=by
   obtain⟨x,y,o,_,ho,bB⟩:=ok i0 B8;refine mem_ready.2 ⟨Ey,o,by simpa using ho,fun e he hb=>?_⟩;have h1:=bB.back e he hb;have h2:=B9 e.on h1;have h3:e.on<listed.size:=by omega
   simp[h3]at h2⊢;exact h2
  refine⟨fun h=>(by rw[h]at Ca;cases Ca),fun i hi=>?_⟩;obtain⟨iS,o',pI,qZ⟩:=mem_ready.1 hi;have vj:i<l.length:=by have:=(aua.1 pI).1;simpa using this
  obtain⟨x,y,o,hx,ho,bB⟩:=ok i vj;have:o'=o:=by simpa[ho]using pI.symm
  subst this;have tI:left l.length (listed.setIfInBounds i true)=m:=by have:=Oe vj iS;omega
  have lr:dY l i=o'.dst:=by simp[dY,ho]
  have iw: ∀j,j≠i->(listed.setIfInBounds i true).getD j true=listed.getD j true:=fun j cA=>getD_set_ne true (Ne.symm cA);have qu:(listed.setIfInBounds i true).getD i true=true:=by simp[show i<listed.size by omega]
  have tZ: ∀j d,j<l.length->dY l j=some d->j≠i->o'.dst≠some d:=bB.one;have PD:(∀j∈x,j∈pre)-> ∀t∈o'.looksAt l.toArray,a.tmps[t]? =af.tmps[t]? :=fun kS t ht=>by
   by_cases hw: ∃j,j<l.length/\dY l j=some t
   ·
    obtain⟨j,hj,hd⟩:=hw;obtain⟨oz,e,he,hb,fQ⟩:=bB.reads j t hj hd ht;have hl:=qZ e he hb;rw[fQ]at hl;rw[asZ,avu]at oz;exact H.done j t hj (Fu (by omega) hl) (kS j oz) hd
   ·
    have h1: ∀j,j<l.length->dY l j≠some t:=fun j hj hd=>hw ⟨j,hj,hd⟩;rw[H.rest t fun j hj _=>h1 j hj,H.full t fun j hj=>h1 j (bc j (by rw[H.ord];exact asX _ hj))]
  by_cases sD:i∈pre
  ·
   have kS: ∀j∈x,j∈pre:=fun j hj=>by
    obtain⟨p1,p2,hp⟩:=auU sD;have h1:=H.ord;rw[hp,hx,asF,atA]at h1;have CD:=cC;rw[hx]at CD;have h2:x=p1:=PA (h1▸CD) h1;rw[hp,←h2];exact asX _ hj
   obtain⟨ee,ew⟩:=CC bB.wy (PD kS);obtain⟨op,v,bH,Ze,Fw,Zf⟩:=H.wU i sD iS;have:op=o':=by rw[ho]at bH;exact(aso bH).symm
   subst this;have jX:fs.contains i=false:=by
    cases h:fs.contains i with
    |false=>rfl
    |true=>have:=H.fresh i sD h;rw[iS]at this;cases this
   have next: ∀w',Mem w [] w'->wpAny P .any l.toArray Q m (listed.setIfInBounds i true) (a.put op.dst v) w':=fun w' gF=>by
    refine Fv hB cC bc iE Av m pre iv af L Lq E _ _ w' tI ⟨H.ord,H.inv.set hi vj,by simpa using H.mem.call gF,fun e he=>?_,H.keys,H.Ar,H.yD,by rw[tE];exact H.size,H.qY,by rw[tF];exact H.defers,H.tH,fun j hj hl=>?_,fun j hj hf=>?_,fun j hj hl=>?_,fun j d hj hl tY hd=>?_,fun d hd=>?_,H.full⟩
    ·
     obtain⟨g1,g2,g3,g4,oe,b,g5,g7,g8⟩:=H.qz e he;have CE:e.1≠i:=fun e2=>by
      have pT:=cC;rw[H.ord]at pT;exact(at6.1 pT).2.2 i sD e.1 g1 e2.symm
     refine⟨g1,by rw[iw _ CE];exact g2,g3,g4,oe,b,g5,g7,fun d hd=>?_⟩;have:=g8 d hd;unfold pR at this⊢;rw[jW _ _ _ _ (tZ e.1 d (ad2.1 g5).1 (by simp[dY,g5,hd]) CE)];exact this
    ·
     by_cases cA:j=i
     ·
      subst cA;exact .inl sD
     ·
      exact H.sub j hj (by rw[←iw j cA];exact hl)
    ·
     rw[iw j (fun e=>by subst e;rw[jX]at hf;cases hf)];exact H.fresh j hj hf
    ·
     exact H.wU j hj (by rw[←iw j (fun e=>by subst e;rw[qu]at hl;cases hl)];exact hl)
    ·
     by_cases cA:j=i
     ·
      subst cA;rw[lr]at hd;have h2:=Ze d hd;rw[hd];have h3:pR a0.tmps.size d v (a.put (some d) v):=Aq H.size;unfold pR at h2 h3;rw[h2,h3]
     ·
      rw[iw j cA]at hl;rw[jW _ _ _ _ (tZ j d hj hd cA)];exact H.done j d hj hl tY hd
    ·
     have h1:op.dst≠some d:=by
      have:=hd i vj qu;rwa [lr]at this
     rw[jW _ _ _ _ h1];refine H.rest d fun j hj hl=>?_
     by_cases cA:j=i
     ·
      subst cA;rw[lr];exact h1
     ·
      exact hd j hj (by rw[iw j cA];exact hl)
   unfold wpOp;simp only[pI];rw[ew];split
   ·
    rename_i q8;have h1:=Fw q8 w (by
     split
     ·
      exact PC
     ·
      exact H.Ar w PC)
    refine .inl ?_;unfold Oper.wp;rw[ee];unfold Oper.quietAt at h1;generalize(execOp af.eval op).run P w=r at h1;unfold Oper.quietUpon at h1;split at h1
    ·
     obtain⟨rfl,rfl⟩:=h1;exact next _ (Mem.init _)
    ·
     obtain⟨rfl,e⟩:=h1;rw[e]at next;exact next _ (Mem.init _)
    ·
     obtain⟨rfl,uZ⟩:=h1;exact uZ.mono fun e qt ⟨he,hm⟩=>by subst he;exact next _ hm
    ·
     exact h1.elim
   ·
    rename_i q8;have:=Zf (by simpa using q8);rw[this]at next;exact next w (Mem.init _)
  ·
   have JK:i∈iv:=by
    have:=iE i vj;rw[H.ord]at this;exact(asz.1 this).resolve_left sD
   rcases JH with rfl|⟨f,r,rfl,qA,CF⟩
   ·
    cases JK
   have Zg: ∀(v:Value) (j d:Nat),j<l.length->(listed.setIfInBounds i true).getD j true=true->j∈pre->dY l j=some d->(a.put o'.dst v).tmps[d]? =af.tmps[d]? :=fun v j d hj hl tY hd=>by
    have cA:j≠i:=fun e=>sD (e▸tY);rw[iw j cA]at hl;rw[jW _ _ _ _ (tZ j d hj hd cA)];exact H.done j d hj hl tY hd
   have Fx: ∀(v:Value) (d:Nat),(∀j,j<l.length->(listed.setIfInBounds i true).getD j true=true->dY l j≠some d)->(a.put o'.dst v).tmps[d]? =a0.tmps[d]? :=fun v d hd=>by
    have h1:o'.dst≠some d:=by
     have:=hd i vj qu;rwa [lr]at this
    rw[jW _ _ _ _ h1];refine H.rest d fun j hj hl=>?_
    by_cases cA:j=i
    ·
     subst cA;rw[lr];exact h1
    ·
     exact hd j hj (by rw[iw j cA];exact hl)
   have JL:i∉E.map (·.1):=fun h=>by
    obtain⟨e,he,rfl⟩:=atw.1 h;have:=(H.qz e he).2.1;rw[iS]at this;cases this
   have PE: ∀(v:Value),∀e∈E,Early l fs mk a0.tmps.size (f::r) (listed.setIfInBounds i true) (a.put o'.dst v) e:=fun v e he=>by
    obtain⟨g1,g2,g3,g4,oe,b,g5,g7,g8⟩:=H.qz e he;have CE:e.1≠i:=fun e2=>JL (e2▸asN he);refine⟨g1,by rw[iw _ CE];exact g2,g3,g4,oe,b,g5,g7,fun d hd=>?_⟩;have:=g8 d hd;unfold pR at this⊢;rw[jW _ _ _ _ (tZ e.1 d (ad2.1 g5).1 (by simp[dY,g5,hd]) CE)];exact this
   by_cases PF:i=f
   ·
    subst PF;have kS: ∀j∈x,j∈pre:=fun j hj=>by
     have h1:=H.ord;rw[hx]at h1;have CD:=cC;rw[hx]at CD;have h2:x=pre:=PA (h1▸CD) h1;rw[←h2];exact hj
    obtain⟨ee,ew⟩:=CC bB.wy (PD kS);obtain⟨of,q9,hl⟩:=H.yD;have:of=o':=by rw[ho]at q9;exact(aso q9).symm
    subst this;rw[if_pos qA]at hl;replace hl:=hl.2;have next: ∀v w' E' L' gL,E'=E->(∀e∈E,e.1∈r)->Mem w0 (E'.map (·.2)++L') w'->(∀w,Mem w0 L' w->Mem w0 gL w)->(∀w,Mem w0 gL w->Mem w0 Lq w)->(fs.contains (i+2000)=true\/fs.contains (i+5000)=true-> ∀w,Mem w0 L' w->Mem w0 L w)->sB P l fs mk Q w0 r (af.put of.dst v) L' gL->wpAny P .any l.toArray Q m (listed.setIfInBounds i true) (a.put of.dst v) w':=fun v w' E' L' gL yF yG g1 g2 g3 PG g4=>by
     subst yF;refine Fv hB cC bc iE Av m (pre++[i]) r (af.put of.dst v) L' gL E' _ _ w' tI ⟨by rw[H.ord];simp,H.inv.set hi vj,g1,fun e he=>?_,H.keys,g2,g4,by rw[tE];exact H.size,by rw[tE];exact H.qY,by rw[tF];exact H.defers,by rw[tF];exact H.tH,fun j hj nV=>?_,fun j hj hf=>?_,fun j hj nV=>?_,fun j d hj nV tY hd=>?_,Fx v,fun d hd=>?_⟩
     ·
      obtain⟨g1',Zh⟩:=PE v e he;exact⟨yG e he,Zh⟩
     ·
      by_cases cA:j=i
      ·
       subst cA;exact .inl (by simp)
      ·
       exact(H.sub j hj (by rw[←iw j cA];exact nV)).imp_left fun h=>asX _ h
     ·
      rcases asz.1 hj with h|h
      ·
       by_cases cA:j=i
       ·
        subst cA;exact qu
       ·
        rw[iw j cA];exact H.fresh j h hf
      ·
       obtain rfl:=as6.1 h;exact qu
     ·
      rcases asz.1 hj with h|h
      ·
       have cA:j≠i:=fun e=>sD (e▸h)
       cases yE:fs.contains (j+1000)with
       |true=>
        cases qB:fs.contains (i+2000)with
        |true=>
         have hp:=H.wU j h (by rw[←iw j cA];exact nV);rw[yE]at hp;simp only[if_true]at hp⊢;exact As hB cC bc H.ord ho h (PG (.inl qB)) hp
        |false=>
         cases h5:fs.contains (i+5000)with
         |true=>
          have hp:=H.wU j h (by rw[←iw j cA];exact nV);rw[yE]at hp;simp only[if_true]at hp⊢;exact As hB cC bc H.ord ho h (PG (.inr h5)) hp
         |false=>
          exfalso;obtain⟨oi,wA,Fy,-⟩:=wT ord [] [] hB pre i r H.ord;have e1:oi=of:=by rw[ho]at wA;exact(aso wA).symm
          subst e1;have Zi:=Fy.tmp qA qB h5 j (by rw[asZ,avu];exact h) yE;have iu:=PB hB iE H.inv i oi ho qZ j Zi;have Zj:j∈ord:=by rw[H.ord];exact asX _ h
          have:=Fu (by have:=bc j Zj;omega) iu;rw[iw j cA]at nV;rw[this]at nV;cases nV
       |false=>
        have hp:=H.wU j h (by rw[←iw j cA];exact nV);rw[yE]at hp;simp only[as2,if_false]at hp⊢;exact As hB cC bc H.ord ho h g3 hp
      ·
       obtain rfl:=as6.1 h;rw[qu]at nV;cases nV
     ·
      rcases asz.1 tY with h|h
      ·
       have cA:j≠i:=fun e=>sD (e▸h);rw[jW _ _ _ _ (tZ j d hj hd cA),jW _ _ _ _ (tZ j d hj hd cA)];rw[iw j cA]at nV;exact H.done j d hj nV h hd
      ·
       obtain rfl:=as6.1 h;rw[lr]at hd;rw[hd];have h3:pR a0.tmps.size d v (a.put (some d) v):=Aq H.size;have h4:pR a0.tmps.size d v (af.put (some d) v):=Aq H.qY;unfold pR at h3 h4;rw[h3,h4]
     ·
      have h1:of.dst≠some d:=by
       have:=hd i (by simp);rwa [lr]at this
      rw[jW _ _ _ _ h1];exact H.full d fun j hj=>hd j (asX _ hj)
    have yG: ∀e∈E,e.1∈r:=fun e he=>by
     have:=(H.qz e he).1;exact(asw.1 this).resolve_left fun e2=>JL (e2▸asN he)
    cases qB:fs.contains (i+2000)with
    |true=>
     rw[if_pos qB]at hl;obtain⟨hg,JM,Au⟩:=hl;obtain⟨mx,w',gG,JN⟩:=JM w0 w (E.map (·.2)++L) H.mem;unfold wpOp;simp only[pI];rw[if_pos (by simp[Region.wanted,hg])];refine .inl ?_;unfold Oper.wp;rw[ee,gG];refine next _ _ E ((mk i).e mx::L) Lq rfl yG ?_ (fun w hw=>H.Ar w (hw.sub (atm _ _))) (fun _ h=>h) (fun _ w hw=>hw.sub (atm _ _)) (Au _);exact JN.perm (auB.symm)
    |false=>
     rw[if_neg (by rw[qB];exact atB)]at hl;obtain⟨hg,gG,Zk⟩:=hl;have Fz:E=[]\/ ∃x,E=[x]/\fs.contains (i+4000)=true:=by
      obtain⟨oi,wA,Fy,Zl⟩:=wT ord [] [] hB pre i r H.ord;rcases Zl qA qB with h|⟨h4,h5⟩
      ·
       refine .inl (List.eq_nil_iff_forall_not_mem.2 fun e he=>?_);have h1:=h e.1 (yG e he);rw[(H.qz e he).2.2.2.1]at h1;cases h1
      ·
       rcases yF:E with _|⟨x,_|⟨y,E'⟩⟩
       ·
        exact .inl rfl
       ·
        exact .inr ⟨x,rfl,h4⟩
       ·
        exfalso;have m1:x.1∈r.filter fun j=>fs.contains (j+2000):=asQ.2 ⟨yG x (by rw[yF];simp),(H.qz x (by rw[yF];simp)).2.2.2.1⟩;have m2:y.1∈r.filter fun j=>fs.contains (j+2000):=asQ.2 ⟨yG y (by rw[yF];simp),(H.qz y (by rw[yF];simp)).2.2.2.1⟩;have PH:=H.keys;rw[yF]at PH;have bO:x.1≠y.1:=fun e=>(auK.1 PH).1 (by simp[e]);rcases eW:(r.filter fun j=>fs.contains (j+2000))with _|⟨z,_|⟨z2,fl⟩⟩
        ·
         rw[eW]at m1;cases m1
        ·
         rw[eW,as6]at m1 m2;exact bO (m1.trans m2.symm)
        ·
         rw[eW]at h5;simp at h5
     have h1:upon P w (fun v w'=> ∃L' gL,Mem w0 (E.map (·.2)++L') w'/\(∀w,Mem w0 L' w->Mem w0 gL w)/\(∀w,Mem w0 gL w->Mem w0 Lq w)/\(fs.contains (i+5000)=true-> ∀w,Mem w0 L' w->Mem w0 L w)/\sB P l fs mk Q w0 r (af.put of.dst v) L' gL) ((execOp af.eval of).run P w):=by
      have vl:=H.mem;rcases Fz with hE|⟨x,hE,h4⟩
      ·
       rw[hE]at vl⊢;exact gG w (by simpa using vl)
      ·
       rw[hE]at vl⊢;exact Zk h4 x.2 w (by simpa using vl)
     have JO: ∀v w',(∃L' gL,Mem w0 (E.map (·.2)++L') w'/\(∀w,Mem w0 L' w->Mem w0 gL w)/\(∀w,Mem w0 gL w->Mem w0 Lq w)/\(fs.contains (i+5000)=true-> ∀w,Mem w0 L' w->Mem w0 L w)/\sB P l fs mk Q w0 r (af.put of.dst v) L' gL)->wpAny P .any l.toArray Q m (listed.setIfInBounds i true) (a.put of.dst v) w':=fun v w' ⟨L',gL,g1,g2,g3,g5,g4⟩=>
      next v w' E L' gL rfl yG g1 g2 g3 (fun h=>h.elim (fun h=>by rw[qB]at h;cases h) g5) g4
     unfold wpOp;simp only[pI];rw[if_pos (by rw[ew];exact hg)];refine .inl ?_;unfold Oper.wp;rw[ee];generalize(execOp af.eval of).run P w=r' at h1;unfold upon at h1;split at h1
     ·
      exact JO _ _ h1
     ·
      exact JO _ _ h1
     ·
      obtain⟨rfl,uZ⟩:=h1;exact uZ.mono fun e qt ⟨u,he,hR⟩=>by subst he;exact JO u _ hR
     ·
      exact h1.elim
   ·
    have Cb:i∈r:=(asw.1 JK).resolve_left PF
    cases qB:fs.contains (i+2000)with
    |false=>
     exfalso;obtain⟨r1,r2,rfl⟩:=auU Cb;have qC:ord=(pre++f::r1)++i::r2:=by rw[H.ord];simp
     obtain⟨oi,wA,Fy,-⟩:=wT ord [] [] hB _ i r2 qC;have e1:oi=o':=by rw[ho]at wA;exact(aso wA).symm
     subst e1;have CG:=Fy.Y4 qB f (by
      rw[asZ,avu,asQ];exact⟨by simp,qA⟩)
     have eW:=PB hB iE H.inv i oi ho qZ f CG;have r9:f∈ord:=by rw[H.ord];simp
     rcases H.sub f (bc f r9) (Fu (by have:=bc f r9;omega) eW)with uW|uW
     ·
      have pT:=cC;rw[H.ord]at pT;exact(at6.1 pT).2.2 f uW f (by simp) rfl
     ·
      exact CF uW
    |true=>
     obtain⟨of,q9,hl⟩:=H.yD;rw[if_pos qA]at hl;obtain⟨oa,PI,Zm,JM⟩:=hl.1 i Cb qB;have e1:oa=o':=by rw[ho]at PI;exact(aso PI).symm
     subst e1;have Zn: ∀t∈oa.looksAt l.toArray,a.tmps[t]? =af.tmps[t]? :=fun t ht=>by
      by_cases hw: ∃j,j<l.length/\dY l j=some t
      ·
       obtain⟨j,hj,hd⟩:=hw;obtain⟨_,e,he,hb,fQ⟩:=bB.reads j t hj hd ht;have nV:=qZ e he hb;rw[fQ]at nV;have PJ:=Fu (by omega) nV;rcases H.sub j hj PJ with hp|hp
       ·
        exact H.done j t hj PJ hp hd
       ·
        obtain⟨e2,ri,rfl⟩:=atw.1 hp;have g3:=(H.qz e2 ri).2.2.1;rw[bB.Y5 qB e2.1 t hj hd ht]at g3;cases g3
      ·
       have h1: ∀j,j<l.length->dY l j≠some t:=fun j hj hd=>hw ⟨j,hj,hd⟩;rw[H.rest t fun j hj _=>h1 j hj,H.full t fun j hj=>h1 j (bc j (by rw[H.ord];exact asX _ hj))]
     obtain⟨ee,_⟩:=CC bB.wy Zn;obtain⟨mx,w',gG,JN⟩:=JM w0 w (E.map (·.2)++L) H.mem;have jX:fs.contains i=true:=by
      cases jX:fs.contains i with
      |true=>rfl
      |false=>
       exfalso;obtain⟨r1,r2,rfl⟩:=auU Cb;exact absurd qB (by rw[Av i vj jX];exact atB)
     unfold wpOp;simp only[pI];rw[if_pos (by simp[Region.wanted,Zm])];refine .inl ?_;unfold Oper.wp;rw[ee,gG];refine Fv hB cC bc iE Av m pre (f::r) af L Lq ((i,(mk i).e mx)::E) _ _ _ tI ⟨H.ord,H.inv.set hi vj,JN,fun e he=>?_,auK.2 ⟨JL,H.keys⟩,H.Ar,H.yD,by rw[tE];exact H.size,H.qY,by rw[tF];exact H.defers,H.tH,fun j hj hl=>?_,fun j hj hf=>?_,fun j hj hl=>?_,Zg _,Fx _,H.full⟩
     ·
      rcases asw.1 he with rfl|he
      ·
       exact⟨JK,qu,jX,qB,oa,mx,ho,rfl,fun d hd=>by rw[hd];exact Aq H.size⟩
      ·
       exact PE _ e he
     ·
      by_cases cA:j=i
      ·
       subst cA;exact .inr (by simp)
      ·
       exact(H.sub j hj (by rw[←iw j cA];exact hl)).imp_right fun h=>asE _ h
     ·
      have cA:j≠i:=fun e=>sD (e▸hj);rw[iw j cA];exact H.fresh j hj hf
     ·
      have cA:j≠i:=fun e=>sD (e▸hj);exact H.wU j hj (by rw[←iw j cA];exact hl)
theorem PK{id:Nat}{ro:Option Nat}[kM Q]{a:Act}{w:World}{L Lq:List aj}(A:List (List Nat))(ord:List Nat)(cC:qq l=true)(hm:P.follows .mixedOrders=true)(hB:Fo l fs A ord=true)(hC:Mem w0 L {w with drawn:=w.drawn+1})(nf: ∀w,Mem w0 L w->Mem w0 Lq w)
  (Av: ∀k,k<l.length->fs.contains k=false->fs.contains (k+2000)=false)
  (h:sB P l fs mk Q w0 ord a L Lq):(Code.region id l.toArray true).wpIn (mv ro) 0 P Q a w:=by
 simp only[Fo,alM,decide_eq_true_eq]at hB;obtain⟨⟨⟨h1,h2⟩,h3⟩,h4⟩:=hB;have iE: ∀j,j<l.length->j∈ord:=fun j hj=>by have:=asD.1 h1 j (asU.2 hj);simpa using this
 have bc: ∀j∈ord,j<l.length:=fun j hj=>by have:=asD.1 h3 j hj;simpa using this
 refine IC cC hm ?_;have IK:HeadInv .any l.toArray l.length (Array.replicate l.toArray.size false):=
  ⟨by simp,fun j oj _ hl=>(by rw[getD_replicate_false]at hl;cases hl),fun t h1 h2=>by simp at h2;omega⟩
 have iS: ∀j,j<l.length->(Array.replicate l.toArray.size false).getD j true=false:=fun j hj=>by simp[hj]
 have tI:left l.length (Array.replicate l.toArray.size false)=l.length:=by
  unfold left;rw[List.filter_eq_self.2 (fun j hj=>?_),avr];rw[iS j (asU.1 hj)];rfl
 have:=Fv (P:=P) (Q:=Q) (w0:=w0) (a0:=a) h4 h2 bc iE Av l.length [] ord a L Lq [] (Array.replicate l.toArray.size false) a _ tI
  ⟨rfl,IK,hC,fun e he=>(by cases he),List.nodup_nil,nf,h,rfl,rfl,rfl,rfl,fun j hj hl=>(by rw[iS j hj]at hl;cases hl),fun j hj=>(by cases hj),fun j hj=>(by cases hj),fun j d hj hl=>(by rw[iS j hj]at hl;cases hl),fun _ _=>rfl,fun _ _=>rfl⟩
 simpa using this
theorem Zo{id:Nat}{ro:Option Nat}[kM Q]{a:Act}{w:World}{L Lq:List aj}(A:List (List Nat))(ord:List Nat)(cC:qq l=true)(hm:P.follows .mixedOrders=true)(hB:Fm l fs A ord=true)(hC:Mem w0 L {w with drawn:=w.drawn+1})(nf: ∀w,Mem w0 L w->Mem w0 Lq w)
  (h:sB P l fs mk Q w0 ord a L Lq):(Code.region id l.toArray true).wpIn (mv ro) 0 P Q a w:=by
 have h5: ∀k,fs.contains (k+2000)=false:=fun k=>by
  simp only[Fm,alM]at hB
  cases hk:fs.contains (k+2000)with
  |false=>rfl
  |true=>
   have:=asD.1 hB.1.2 (k+2000) (by simpa using hk);have:=of_decide_eq_true this;omega
 refine PK A ord cC hm ?_ hC nf (fun k _ _=>h5 k) h;simp only[Fm,Fo,alM]at hB⊢;exact⟨hB.1.1,hB.2⟩
end
open Go.RowKit
section
variable {P:Program} {N:ct} {w0:World} {env:Env} {L R R1 R2:List aj} {Q:Exit->Act->World->Prop} {d:Option Tmp} {ty:TypeId} {ps:String} {af:Array Edge} {gd:Option (Nat×Bool)} {K:Value->List aj->Prop}
def iG(P:Program)(N:ct)(w0:World)(env:Env)(L:List aj)(o:Oper)(K:Value->List aj->Prop):Prop:=
 ∀a w,dr N env a->Mem w0 L w->upon P w (fun v w'=> ∃L',Mem w0 L' w'/\K v L') ((execOp a.eval o).run P w)
theorem wV{o:Oper}(h: ∀a w,dr N env a->Mem w0 L w-> ∃v w' L',(execOp a.eval o).run P w= .ok (.value v) w'/\Mem w0 L' w'/\K v L'):iG P N w0 env L o K:=fun a w ha hw=>by
 obtain⟨v,w',L',h1,h2,h3⟩:=h a w ha hw;rw[h1];exact⟨L',h2,h3⟩
theorem JP{o:Oper}(h: ∀a w,dr N env a->Mem w0 L w-> ∃w' L',(execOp a.eval o).run P w= .ok .skip w'/\Mem w0 L' w'/\K undef L'):iG P N w0 env L o K:=fun a w ha hw=>by
 obtain⟨w',L',h1,h2,h3⟩:=h a w ha hw;rw[h1];exact⟨L',h2,h3⟩
theorem CH{w:World}{R R':Value->World->Prop}(h: ∀v w,R v w->R' v w){r:Result Next}(hr:upon P w R r):upon P w R' r:=by
 unfold upon at hr⊢;split at hr
 ·
  exact h _ _ hr
 ·
  exact h _ _ hr
 ·
  exact⟨hr.1,hr.2.mono fun e qt ⟨v,he,hv⟩=>⟨v,he,h _ _ hv⟩⟩
 exact hr.elim
theorem PL{o:Oper}{K':Value->List aj->Prop}(h:iG P N w0 env L o K')(hk: ∀v L',K' v L'-> ∃FA,(∀w,Mem w0 L' w->Mem w0 FA w)/\K v FA):iG P N w0 env L o K:=fun a w ha hw=>
 CH (fun v _ ⟨L',h1,h2⟩=>by obtain⟨FA,h3,h4⟩:=hk v L' h2;exact⟨FA,h3 _ h1,h4⟩) (h a w ha hw)
theorem pU{X:Type}{val:X->Value}{L':X->List aj}{pr:X->Prop}{pre:Prop}{f:FuncId}{xs:List Operand}{ts:Array TypeId}{vs:List Value}[hf:aK P f](hx:iU env xs=some vs)
  [hc:bN P f w0 L vs X val L' pr pre] (hp:pre) (hk: ∀x,pr x->K (val x) (L' x)):
  iG P N w0 env L ⟨d, .call {callee:= .value (.func f),args:=xs.toArray,argTypes:=ts},ty,ps,af,gd⟩ K:=fun a w ha hw=>by
 rw[EF hf w rfl,ha.iU hx];exact⟨rfl,(hc.h hp w hw).mono fun e w' ⟨x,he,kS,hm⟩=>⟨val x,he,L' x,hm,hk x kS⟩⟩
section
variable {α:Type} {enc:α->Array Value} {c:Nat} {s:Sv} {xs ys:List α}
theorem Zp{t:TypeId}{z:Value}[hz:eR P t z](hk: ∀b,K ((.pointer (some ⟨b,0,none⟩))) ((ar b z.cells t::L))):
  iG P N w0 env L ⟨d, .alloc t,ty,ps,af,none⟩ K:=
 wV fun a w ha hw=>⟨_,_,_,by simp only[execOp,Instr.alloc,newVar,newRow,Sem.run_bind,ED w hz,newObj,Sem.run,Result.andThen,Sem.run_pure];rfl,hw.alloc z.cells t,hk _⟩
theorem PM{t:TypeId}{cs:Array Value}[hz:eR P t (.agg cs)](hk: ∀b,K ((.pointer (some ⟨b,0,none⟩))) ((ar b cs t::L))):
  iG P N w0 env L ⟨d, .alloc t,ty,ps,af,none⟩ K:=Zp (z:= .agg cs) hk
theorem Aw{t:TypeId}{x y:Operand}{i b o:Nat}{cs:Array Value}{T:TypeId}{v:Value}(hx:ev env x=some (.pointer (some ⟨b,o,none⟩)))(hy:ev env y=some v)[ht:fR P t][hh:Has L b cs T i](ho:o<cs.size)(hv:v.oneCell'=true){cs':Array Value}{L':List aj}(iA:cs.setIfInBounds o v=cs')[hu:fC L i (ar b cs' T) L'](hk:K undef (L')):
  iG P N w0 env L ⟨none, .store t x y,ty,ps,af,none⟩ K:=
 JP fun a w ha hw=>by
  have hi:=hh.h;have hb:=hw.block hi;have hc:w.cell? ⟨b,o,none⟩=some cs[o]:=by rw[hw.cell hi];simp[ho]
  have hf:w.frozen? ⟨b,o,none⟩=false:=frozen_of_row w b o cs T hb;subst iA;refine⟨w.setCell ⟨b,o,none⟩ v,_,?_,?_,hk⟩
  ·
   have h1:(storeCells ⟨b,o,none⟩ [v]).run P w= .ok () (w.setCell ⟨b,o,none⟩ v):=by
    have:=run_storeCells_at (P:=P) b o T [v] 0 cs w hb (by simp;omega) (by simpa using hv);rw[this,setCell_eq_setRow w b o cs T (0,0) v hb];congr 2;apply ave;simp[List.set_eq_take_append_cons_drop,ho]
   have iA:v.cells= #[v]:=by cases v<;>simp_all[Value.oneCell',Value.cells]
   simp only[execOp,ha.ev hx,ha.ev hy,Instr.storeAt,Instr.sureAddr,storeVar,Sem.run_bind,Sem.run_pure,Result.andThen,lR w ht.size,iA];simp[h1]
  ·
   rw[setCell_eq_setRow w b o cs T (0,0) v hb];rw[←hu.h];exact hw.setRow hi _
theorem PN{t:TypeId}{x y:Operand}{i b o n:Nat}{cs vs:Array Value}{T:TypeId}(hx:ev env x=some (.pointer (some ⟨b,o,none⟩)))(hy:ev env y=some (.agg vs))[ht:fK P t n][hh:Has L b cs T i][hs:fW vs n](ho:o+n<=cs.size){cs':Array Value}{L':List aj}(iA:over cs o vs=cs')[hu:fC L i (ar b cs' T) L'](hk:K undef (L')):
  iG P N w0 env L ⟨none, .store t x y,ty,ps,af,none⟩ K:=
 JP fun a w ha hw=>by
  have hi:=hh.h;have hn:=hs.h;have hv:=hs.one;have hb:=hw.block hi;subst iA;refine⟨_,_,?_,by rw[←hu.h];exact hw.setRow hi _,hk⟩;have h1:=run_storeCells_at (P:=P) b o T vs.toList 0 cs w hb (by simp;omega) (fun v lS=>(as4.1 hv) v (by simpa using lS));simp only[execOp,ha.ev hx,ha.ev hy,Instr.storeAt,Instr.sureAddr,storeVar,Value.cells,Sem.run_bind,Sem.run_pure,Result.andThen,lR w ht.size,hn];simp[h1,over]
theorem pV{t:TypeId}{x y:Operand}{i b n:Nat}{cs vs:Array Value}{T:TypeId}(hx:ev env x=some (.pointer (some ⟨b,0,none⟩)))(hy:ev env y=some (.agg vs))[ht:fK P t n][hh:Has L b cs T i][hs:fW vs n][hc:fW cs n]{L':List aj}[hu:fC L i (ar b vs T) L'](hk:K undef (L')):
  iG P N w0 env L ⟨none, .store t x y,ty,ps,af,none⟩ K:=by
 have hn:=hs.h;have XI:=hc.h;refine PN hx hy (by omega) (?_:over cs 0 vs=vs) hk;apply ave;simp[over];omega
theorem Zq{x y:Operand}{tx gI e:TypeId}{i b o dl dc sl sc:Nat}{a:Addr}{cs vs:Array Value}{T:TypeId}(hx:ev env x=some (.slice (some ⟨b,o,none⟩) dl dc))(hy:ev env y=some (.slice (some a) sl sc))
  [ht:fj P tx e 1] [hh:Has L b cs T i] (hn:vs.size=Nat.min sl dl) (nh: ∀w,Mem w0 L w-> ∀j,j<vs.size->w.cell? (a.add j)=vs[j]?) (hv:vs.all (·.oneCell')=true) (ho:o+vs.size<=cs.size)
  {cs':Array Value} {L':List aj} (iA:over cs o vs=cs') [hu:fC L i (ar b cs' T) L'] (hk:K ((.int .i64 vs.size)) (L')):
  iG P N w0 env L ⟨d, .call {callee:= .builtin .copy,args:= #[x,y],argTypes:= #[tx,gI]},ty,ps,af,none⟩ K:=
 wV fun aa w ha hw=>by
  have hi:=hh.h;have hb:=hw.block hi;subst iA;have gG:=run_copy_row (P:=P) w tx gI ty e b o dl dc a sl sc cs T vs.toList ht.fc ht.size hb (by simpa using hn)
   (fun j v lS=>by
    have hj:j<vs.size:=by simpa using(ad2.1 lS).1
    rw[nh w hw j hj];simpa using lS) (by simpa using ho) (fun v lS=>(as4.1 hv) v (by simpa using lS))
  refine⟨_,w.setRow b (over cs o vs),_,?_,by rw[←hu.h];exact hw.setRow hi _,hk⟩;simp[execOp,ha.ev hx,ha.ev hy,resolve,invoke,builtin,gG,Result.andThen,goInt,over]
theorem Zr{t tx e:TypeId}{x y:Operand}{yv:Value}{cM i:Nat}[ht:fq P t e c cM][he:bm enc c](hx:ev env x=some s.val)(hy:ev env y=some yv)[q:fu L s enc c xs i](hc:0<c)
  (hs: ∀w,Mem w0 L w->Src P c tx yv ys.length (aL enc ys) w) (hb:(xs.length+ys.length)*cM<=140737488355328) (jE:xs.length+ys.length<=140737488355328) {L':Sv->List aj} [hu: ∀s',fC L i (own enc c s' (xs++ys)) (L' s')]
  (hk: ∀s':Sv,s'.Ok->s'.len=(xs++ys).length->K (s'.val) ((L' s'))):
  iG P N w0 env L ⟨d, .call {callee:= .builtin .append,args:= #[x,y],argTypes:= #[t,tx]},ty,ps,af,none⟩ K:=
 wV fun a w ha hw=>by
  obtain⟨s',w',h1,h2,h3,h4⟩:=I8 (ty:=ty) ht hc hw q.h (hs w hw) hb jE;refine⟨s'.val,w',L' s',?_,by rw[←(hu s').h];exact h4,hk s' h2 h3⟩;simp[execOp,ha.ev hx,ha.ev hy,resolve,invoke,builtin,h1,Result.andThen]
theorem PO{t e:TypeId}{cM n:Nat}[ht:fq P t e c cM][he:bm enc c]{ops:List (Nat×Operand)}{vals:List Value}(xs:List α)(hx:kN env ops=some (idx vals 0))(hv:vals.map Value.cells=xs.map enc)(hn:xs.length=n)(hc:0<n*c)(sf:n*c<=16777216)
  (hk: ∀b,K ((Sv.val ⟨false,b,0,n,n,none⟩)) ((own enc c ⟨false,b,0,n,n,none⟩ xs::L))):
  iG P N w0 env L ⟨d, .buildSlice t n ops.toArray,ty,ps,af,none⟩ K:=
 wV fun a w ha hw=>by
  subst hn;have e1:(ops.toArray.map fun(p:Nat×Operand)=>match p with|(i,x)=>(i,a.eval x))=(idx vals 0).toArray:=by
   rw[←ha.kN hx];simp
  refine⟨_,_,_,?_,hw.call (yr (enc:=enc) (c:=c) (xs:=xs) (cs:=(aL enc xs).toArray) (e:=e) rfl xs.length xs.length rfl (asu _) (I9 hc sf) (by simp[gR]) fun i x hx j hj=>by rw[←oE (enc:=enc) xs i x hx j hj];simp),hk _⟩;simp only[execOp,e1,Sem.run_bind,Ja ht hv hc sf w,Result.andThen,Sem.run_pure];rfl
theorem PQ{t e:TypeId}{cM n cap:Nat}{z:Value}{x y:Operand}{k k':IntKind}{ix iy:Int}[ht:fq P t e c cM][hz:eR P e z](x0:α)(h0:enc x0=z.cells)(hx:ev env x=some (.int k ix))(hy:ev env y=some (.int k' iy))(ex:ix=(n:Int))(ey:iy=(cap:Int))(hle:n<=cap)(hb:cM*cap<=281474976710656)(jE:cap<=140737488355328)
  (hk: ∀b,K ((Sv.val ⟨false,b,0,n,cap,none⟩)) ((own enc c ⟨false,b,0,n,cap,none⟩ (List.replicate n x0)::L))):
  iG P N w0 env L ⟨d, .makeSlice t x y,ty,ps,af,none⟩ K:=
 wV fun a w ha hw=>by
  subst ex ey;obtain⟨w',h1,h2⟩:=Jb ht hz (k:=k) (k':=k') (n:=n) x0 h0 hle hb jE w;exact⟨_,w',_,by simp only[execOp,ha.ev hx,ha.ev hy,Sem.run_bind,h1,Result.andThen,Sem.run_pure],hw.call h2,hk _⟩
theorem wW{t:TypeId}{x y:Operand}{i k j n p:Nat}{a a':α}{v:Value}(sz:(P.info? t).map (·.size)=some n)[he:bm enc c](hx:ev env x=some (.pointer (some ⟨s.b,p,none⟩)))(hy:ev env y=some v)[q:fu L s enc c xs i](fE:p=s.o+k*c+j)
  (ha:xs[k]? =some a) (hv:v.cells.all (·.oneCell')=true) (hn:v.cells.size=n) (hj:j+n<=c) (qw:over (enc a) j v.cells=enc a') {L':List aj} [hu:fC L i (own enc c s (xs.set k a')) L'] (hk:K undef (L')):
  iG P N w0 env L ⟨none, .store t x y,ty,ps,af,none⟩ K:=
 JP fun aa w Cn hw=>by
  subst fE hn;obtain⟨w',h1,h2⟩:=OI (P:=P) hw q ha hv hj qw hu;refine⟨w',_,?_,h2,hk⟩;simp only[execOp,Cn.ev hx,Cn.ev hy,Instr.storeAt,Instr.sureAddr,storeVar,Sem.run_bind,Sem.run_pure,Result.andThen,lR w sz];simp[h1]
theorem Zs{P:Program}{N:ct}{w0:World}{env:Env}{L:List aj}{ty:TypeId}{ps:String}{af:Array Edge}{τ:Type}{t:TypeId}{x y:Operand}{i k p:Nat}{s:Sv}{xs:List (Sl τ)}{a:Sl τ}(a':Sl τ)
  (sz:(P.info? t).map (·.size)=some 1) (hx:ev env x=some (.pointer (some ⟨s.b,p,none⟩))) (hy:ev env y=some a'.sv.val) [q:fu L s (bT (τ:=τ)) 1 xs i] (fE:p=s.o+k*1) (ha:xs[k]? =some a) {L':List aj} [hu:fC L i (own bT 1 s (xs.set k a')) L'] (hk:K undef (L')):
  iG P N w0 env L ⟨none, .store t x y,ty,ps,af,none⟩ K:=
 wW (j:=0) (a':=a') sz hx hy (q:=q) fE ha (by rw[Sv.iX];simp[Sv.one]) (by rw[Sv.iX];rfl) (by decide) (by rw[Sv.iX];rfl) hk
theorem PR{α:Type}{enc:α->Array Value}{x y:Operand}{tx gI e:TypeId}{i b o dl dc:Nat}{sv:Sv}{ys:List α}{cs:Array Value}{T:TypeId}(hx:ev env x=some (.slice (some ⟨b,o,none⟩) dl dc))(hy:ev env y=some sv.val)
  [ht:fj P tx e 1] [hh:Has L b cs T i] [q:Hd w0 L sv enc 1 ys] [he:bm enc 1] (h0:0<ys.length) (hl:ys.length<=dl) (ho:o+ys.length<=cs.size)
  {cs':Array Value} {L':List aj} (iA:over cs o (aL enc ys).toArray=cs') [hu:fC L i (ar b cs' T) L'] (hk:K ((.int .i64 (ys.length:Nat))) (L')):
  iG P N w0 env L ⟨d, .call {callee:= .builtin .copy,args:= #[x,y],argTypes:= #[tx,gI]},ty,ps,af,none⟩ K:=fun a w ha hw=>by
 have r:=q.h w hw;have hn:=r.some (i:=0) h0;have hlen:=r.len;rw[Sv.iW hn,r.ok.sp (by have:=r.ok.le;omega)]at hy;have hs:(aL enc ys).toArray.size=ys.length:=by rw[ate,gR,at2]
 have kr:=hk;rw[←hs]at kr;refine Zq (vs:=(aL enc ys).toArray) hx hy ?_ (fun w hw j hj=>?_) ?_ (by rw[hs];exact ho) iA kr a w ha hw
 ·
  rw[hs];simp only[Nat.min_def];split<;>omega
 ·
  rw[hs]at hj;have:=oE (enc:=enc) ys j ys[j] (by simp[hj]) 0 (by decide);have r2:=(q.h w hw).row j ys[j] (by simp[hj]) 0 (by decide);simp only[at2,atl]at this r2;rw[Addr.hH,tK,r2,←this];simp
 ·
  rw[as4];intro v hv;exact u6 (enc:=enc) ys v (by simpa using hv)
end
section
variable {τ:Type} [dp:Deep τ] {enc:τ->Array Value} {c:Nat}
end
theorem PS{l:List Oper}{rest:List Oper}{o:Oper}(hg:o.guard=none)(hd:dA N o.dst=true)(h:iG P N w0 env L o (fun v L'=>Sq P N w0 l Q rest (cJ env o.dst v) L')):Sq P N w0 l Q (o::rest) env L:=fun a w ha hw=>by
 unfold wpList;rw[if_pos (sa hg)];refine .inl ?_;have h1:=h a w ha hw;unfold Oper.wp;generalize(execOp a.eval o).run P w=r at h1;unfold upon at h1;split at h1
 ·
  obtain⟨L',h2,h3⟩:=h1;exact h3 _ _ (ha.put hd _) h2
 ·
  obtain⟨L',h2,h3⟩:=h1;exact h3 _ _ (ha.put hd _) h2
 ·
  obtain⟨rfl,hc⟩:=h1;exact hc.mono fun e qt ⟨v,he,L',h2,h3⟩=>by subst he;exact h3 _ _ (ha.put hd _) h2
 exact h1.elim
end
section
variable {P:Program} {N:ct} {w0:World} {env:Env} {L Lq:List aj} {l:List Oper} {fs ord:List Nat} {mk:Nat->oO} {Q:Exit->Act->World->Prop} {k:Nat} {o:Oper}
def Ln(P:Program)(N:ct)(w0:World)(l:List Oper)(fs:List Nat)(mk:Nat->oO)(Q:Exit->Act->World->Prop)(ord:List Nat)(env:Env)(L Lq:List aj):Prop:= ∀a,dr N env a->sB P l fs mk Q w0 ord a L Lq
def Cert(P:Program)(N:ct)(env:Env)(l:List Oper)(fs:List Nat)(mk:Nat->oO)(ord:List Nat):Prop:=
 ∀i∈ord,fs.contains (i+2000)=true-> ∃oi,l[i]? =some oi/\oi.guard=none/\ ∀a,dr N env a->vg P oi a.eval (mk i)
theorem Cert.none(h:(ord.all fun i=> !fs.contains (i+2000))=true):Cert P N env l fs mk ord:=fun i hi hf=>by
 have:=asD.1 h i hi;rw[hf]at this;cases this
theorem Cert.one{i:Nat}{m:oO}(ho:l[i]? =some o)(hg:o.guard=Option.none)(hm:mk i=m)(h: ∀a,dr N env a->vg P o a.eval m)(hr:Cert P N env l fs mk (ord.filter fun j=> !(j==i))):Cert P N env l fs mk ord:=fun j hj hf=>by
 by_cases e:j=i
 ·
  subst e;exact⟨o,ho,hg,by rw[hm];exact h⟩
 exact hr j (asQ.2 ⟨hj,by simpa using e⟩) hf
theorem Cert.at(h:Cert P N env l fs mk ord){a:Act}(ha:dr N env a): ∀i∈ord,fs.contains (i+2000)=true-> ∃oi,l[i]? =some oi/\oi.guard=Option.none/\vg P oi a.eval (mk i):=fun i hi hf=>by
 obtain⟨oi,h1,h2,h3⟩:=h i hi hf;exact⟨oi,h1,h2,h3 a ha⟩
theorem PT(h:Ex N w0 Q .normal env L):Ln P N w0 l fs mk Q [] env L Lq:=fun a ha w hw=>h a w ha hw
theorem PU{v:Value}(ho:l[k]? =some o)(hf:fs.contains k=false)(hd:dA N o.dst=true)(h1: ∀a,dr N env a->Region.wanted o (yielded l.toArray a.tmps)=true->uX P o a (Mem w0 Lq) v)(h2: ∀a,dr N env a->Region.wanted o (yielded l.toArray a.tmps)=false->v=undef)
  (hk:Ln P N w0 l fs mk Q ord (cJ env o.dst v) L Lq) (lz:fs.contains (k+1000)=false:=by rfl):Ln P N w0 l fs mk Q (k::ord) env L Lq:=fun a ha=>
 ⟨o,ho,by
  rw[if_neg (by rw[hf];exact atB)];exact⟨v,by rw[if_neg (by rw[lz];exact atB)];exact h1 a ha,h2 a ha,hk _ (ha.put hd v)⟩⟩
theorem Zt{v:Value}(ho:l[k]? =some o)(h:Yl P N w0 env L o v)(hk:Ln P N w0 l fs mk Q ord (cJ env o.dst v) L Lq)(hg:o.guard=none:=by rfl)(hd:dA N o.dst=true:=by rfl)(hf:fs.contains k=false:=by rfl)(lz:fs.contains (k+1000)=true:=by rfl):Ln P N w0 l fs mk Q (k::ord) env L Lq:=fun a ha=>
 ⟨o,ho,by
  rw[if_neg (by rw[hf];exact atB)];exact⟨v,fun _=>by rw[if_pos lz];exact h a ha,(fun hw=>by rw[sa hg]at hw;cases hw),hk _ (ha.put hd v)⟩⟩
theorem lA{v:Value}(ho:l[k]? =some o)(h:Ry P N w0 env L o v)(hk:Ln P N w0 l fs mk Q ord (cJ env o.dst v) L Lq)(hg:o.guard=none:=by rfl)(hd:dA N o.dst=true:=by rfl)(hf:fs.contains k=false:=by rfl)(lz:fs.contains (k+1000)=true:=by rfl):Ln P N w0 l fs mk Q (k::ord) env L Lq:=Zt ho h.yl hk hg hd hf lz
theorem wX{v:Value}(ho:l[k]? =some o)(h:Yl P N w0 env Lq o v)(hk:Ln P N w0 l fs mk Q ord (cJ env o.dst v) L Lq)(hg:o.guard=none:=by rfl)(hd:dA N o.dst=true:=by rfl)(hf:fs.contains k=false:=by rfl)(lz:fs.contains (k+1000)=false:=by rfl):Ln P N w0 l fs mk Q (k::ord) env L Lq:=
 PU (lz:=lz) ho hf hd (fun a ha _=>h a ha) (fun a ha hw=>by rw[sa hg]at hw;cases hw) hk
theorem an{v:Value}(ho:l[k]? =some o)(h:Ry P N w0 env Lq o v)(hk:Ln P N w0 l fs mk Q ord (cJ env o.dst v) L Lq)(hg:o.guard=none:=by rfl)(hd:dA N o.dst=true:=by rfl)(hf:fs.contains k=false:=by rfl)(lz:fs.contains (k+1000)=false:=by rfl):Ln P N w0 l fs mk Q (k::ord) env L Lq:=wX ho h.yl hk hg hd hf lz
theorem PW{v:Value}{j t:Nat}{g:Bool}(ho:l[k]? =some o)(hg:o.guard=some (j,false))(hj:(l[j]?).bind (·.dst)=some t)(hv:look env t=some (.bool g))(h:(!g)=true->Yl P N w0 env Lq o v)
  (hk:Ln P N w0 l fs mk Q ord (cJ env o.dst (if(!g)=true then v else undef)) L Lq) (hd:dA N o.dst=true:=by rfl) (hf:fs.contains k=false:=by rfl) (lz:fs.contains (k+1000)=false:=by rfl):Ln P N w0 l fs mk Q (k::ord) env L Lq:=
 PU (lz:=lz) ho hf hd (fun a ha hw=>by
  rw[yi ha hg hj hv]at hw
  cases g
  ·
   exact h rfl a ha
  ·
   cases hw) (fun a ha hw=>by
  rw[yi ha hg hj hv]at hw
  cases g
  ·
   cases hw
  ·
   rfl) hk
theorem Zu(ho:l[k]? =some o)(h:iG P N w0 env L o fun v L'=> ∃gL,(∀w,Mem w0 L' w->Mem w0 gL w)/\(∀w,Mem w0 gL w->Mem w0 Lq w)/\Ln P N w0 l fs mk Q ord (cJ env o.dst v) L' gL)(hg:o.guard=none:=by rfl)(hd:dA N o.dst=true:=by rfl)(hf:fs.contains k=true:=by rfl)(ua:fs.contains (k+2000)=false:=by rfl)(Ax:fs.contains (k+4000)=false:=by rfl)(vm:fs.contains (k+5000)=false:=by rfl)(hC:Cert P N env l fs mk ord:=by exact Cert.none rfl):Ln P N w0 l fs mk Q (k::ord) env L Lq:=fun a ha=>
 ⟨o,ho,by
  rw[if_pos hf,if_neg (by rw[ua];exact atB)];exact⟨hC.at ha,sa hg,fun w hw=>CH (fun v w' ⟨L',h1,gL,h2,h3,h4⟩=>⟨L',gL,h1,h2,h3,(fun h=>by rw[vm]at h;cases h),h4 _ (ha.put hd v)⟩) (h a w ha hw),fun h=>by rw[Ax]at h;cases h⟩⟩
theorem PX(ho:l[k]? =some o)(h:iG P N w0 env L o fun v L'=>(∀w,Mem w0 L' w->Mem w0 Lq w)/\(∀w,Mem w0 L' w->Mem w0 L w)/\Ln P N w0 l fs mk Q ord (cJ env o.dst v) L' Lq)(hg:o.guard=none:=by rfl)(hd:dA N o.dst=true:=by rfl)(hf:fs.contains k=true:=by rfl)(ua:fs.contains (k+2000)=false:=by rfl)(Ax:fs.contains (k+4000)=false:=by rfl)(hC:Cert P N env l fs mk ord:=by exact Cert.none rfl):Ln P N w0 l fs mk Q (k::ord) env L Lq:=fun a ha=>
 ⟨o,ho,by
  rw[if_pos hf,if_neg (by rw[ua];exact atB)];exact⟨hC.at ha,sa hg,fun w hw=>CH (fun v w' ⟨L',h1,h2,h3,h4⟩=>⟨L',Lq,h1,h2,fun _ h=>h,(fun _=>h3),h4 _ (ha.put hd v)⟩) (h a w ha hw),fun h=>by rw[Ax]at h;cases h⟩⟩
theorem Zv(K:Value->List aj->Prop)(ho:l[k]? =some o)(h:iG P N w0 env L o K)(hF: ∀e,iG P N w0 env (e::L) o fun v L'=> ∃L1,(∀w,Mem w0 L' w->Mem w0 (e::L1) w)/\K v L1)(hk: ∀v L',K v L'->(∀w,Mem w0 L' w->Mem w0 Lq w)/\Ln P N w0 l fs mk Q ord (cJ env o.dst v) L' Lq)(hC:Cert P N env l fs mk ord)(hg:o.guard=none:=by rfl)(hd:dA N o.dst=true:=by rfl)(hf:fs.contains k=true:=by rfl)(ua:fs.contains (k+2000)=false:=by rfl)(vm:fs.contains (k+5000)=false:=by rfl):Ln P N w0 l fs mk Q (k::ord) env L Lq:=fun a ha=>
 ⟨o,ho,by
  rw[if_pos hf,if_neg (by rw[ua];exact atB)];exact⟨hC.at ha,sa hg,fun w hw=>CH (fun v w' ⟨L',h1,h2⟩=>⟨L',Lq,h1,(hk v L' h2).1,fun _ h=>h,(fun h=>by rw[vm]at h;cases h),(hk v L' h2).2 _ (ha.put hd v)⟩) (h a w ha hw),fun _ e w hw=>CH (fun v w' ⟨L',h1,L1,h2,h3⟩=>⟨L1,Lq,h2 _ h1,(hk v L1 h3).1,fun _ h=>h,(fun h=>by rw[vm]at h;cases h),(hk v L1 h3).2 _ (ha.put hd v)⟩) (hF e a w ha hw)⟩⟩
theorem wY{X:Type}{val:X->Value}{L':X->List aj}{L2:aj->X->List aj}{pr:X->Prop}{pre:Prop}{f:FuncId}{xs:List Operand}{ts:Array TypeId}{vs:List Value}{d:Option Tmp}{ty:TypeId}{ps:String}{af:Array Edge}[hf:aK P f](ho:l[k]? =some ⟨d, .call {callee:= .value (.func f),args:=xs.toArray,argTypes:=ts},ty,ps,af,none⟩)(hx:iU env xs=some vs)
  [hc:bN P f w0 L vs X val L' pr pre] [JQ: ∀e,bN P f w0 (e::L) vs X val (L2 e) pr pre] (hp:pre) (hP: ∀e x w,Mem w0 (L2 e x) w->Mem w0 (e::L' x) w) (hC:Cert P N env l fs mk ord) (hk: ∀x,pr x->(∀w,Mem w0 (L' x) w->Mem w0 Lq w)/\Ln P N w0 l fs mk Q ord (cJ env d (val x)) (L' x) Lq)
  (hd:dA N d=true:=by rfl) (wZ:fs.contains k=true:=by rfl) (ua:fs.contains (k+2000)=false:=by rfl) (vm:fs.contains (k+5000)=false:=by rfl):Ln P N w0 l fs mk Q (k::ord) env L Lq:=
 Zv (fun v L1=> ∃x,v=val x/\L1=L' x/\pr x) ho (pU hx hp fun x kS=>⟨x,rfl,rfl,kS⟩) (fun e=>PL (pU (K:=fun v L1=> ∃x,v=val x/\L1=L2 e x/\pr x) hx hp fun x kS=>⟨x,rfl,rfl,kS⟩) fun v L1 ⟨x,h1,h2,h3⟩=>⟨L1,fun _ h=>h,L' x,fun w hw=>hP e x w (by rw[←h2];exact hw),x,h1,rfl,h3⟩)
  (fun v L1 ⟨x,h1,h2,h3⟩=>by subst h1;subst h2;exact hk x h3) hC rfl hd wZ ua vm
theorem sE{m:oO}(ho:l[k]? =some o)(hm:mk k=m)(h: ∀a,dr N env a->vg P o a.eval m)(hC:Cert P N env l fs mk ord)(hk: ∀x:m.X,Ln P N w0 l fs mk Q ord (cJ env o.dst (m.v x)) (m.e x::L) Lq)(hg:o.guard=none:=by rfl)(hd:dA N o.dst=true:=by rfl)(hf:fs.contains k=true:=by rfl)(lz:fs.contains (k+2000)=true:=by rfl):Ln P N w0 l fs mk Q (k::ord) env L Lq:=fun a ha=>by
 subst hm;refine⟨o,ho,?_⟩;rw[if_pos hf,if_pos lz];exact⟨hC.at ha,hg,h a ha,fun x=>hk x _ (ha.put hd _)⟩
theorem dH(ho:l[k]? =some o)(h:iG P N w0 env L o fun v L'=>(∀w,Mem w0 L' w->Mem w0 Lq w)/\Ln P N w0 l fs mk Q ord (cJ env o.dst v) L' Lq)(hg:o.guard=none:=by rfl)(hd:dA N o.dst=true:=by rfl)(hf:fs.contains k=true:=by rfl)(ua:fs.contains (k+2000)=false:=by rfl)(Ax:fs.contains (k+4000)=false:=by rfl)(vm:fs.contains (k+5000)=false:=by rfl)(hC:Cert P N env l fs mk ord:=by exact Cert.none rfl):Ln P N w0 l fs mk Q (k::ord) env L Lq:=
 Zu (ua:=ua) (Ax:=Ax) (vm:=vm) (hC:=hC) ho (PL h fun v L' ⟨h1,h2⟩=>⟨L',fun _ h=>h,Lq,h1,fun _ h=>h,h2⟩) hg hd hf
def JR:List (Nat×oO)->Nat->oO
 |[],_=>⟨Unit,fun _=>undef,fun _=> .emp⟩
 |(i,m)::r,k=>match Nat.beq i k with
  |true=>m
  |false=>JR r k
@[reducible] def nr (P:Program)(t:TypeId){z:Value}[_hz:eR P t z]:oO:=⟨Nat,fun b=> .pointer (some ⟨b,0,none⟩),fun b=>ar b z.cells t⟩
theorem mC{t:TypeId}{z:Value}[hz:eR P t z]{d:Option Tmp}{ty:TypeId}{ps:String}{af:Array Edge}{gd:Option (Nat×Bool)}: ∀a,dr N env a->vg P ⟨d, .alloc t,ty,ps,af,gd⟩ a.eval (nr P t):=fun a _ w0 w L hw=>by
 refine⟨w.heap.size,w.alloc (.cells z.cells t),?_,hw.alloc z.cells t⟩;simp only[execOp,Instr.alloc,newVar,newRow,Sem.run_bind,ED w hz,newObj,Sem.run,Result.andThen,Sem.run_pure];rfl
@[reducible] def w7 {α:Type}(enc:α->Array Value)(c n:Nat)(xs:List α):oO:=⟨Nat,fun b=>Sv.val ⟨false,b,0,n,n,none⟩,fun b=>own enc c ⟨false,b,0,n,n,none⟩ xs⟩
theorem PY{α:Type}{enc:α->Array Value}{c:Nat}{t e:TypeId}{cM n:Nat}{d:Option Tmp}{ty:TypeId}{ps:String}{af:Array Edge}{gd:Option (Nat×Bool)}[ht:fq P t e c cM][he:bm enc c]{ops:List (Nat×Operand)}{vals:List Value}(xs:List α)(hx:kN env ops=some (idx vals 0))(hv:vals.map Value.cells=xs.map enc)(hn:xs.length=n)(hc:0<n*c)(sf:n*c<=16777216):
  ∀a,dr N env a->vg P ⟨d, .buildSlice t n ops.toArray,ty,ps,af,gd⟩ a.eval (w7 enc c n xs):=fun a ha w0 w L hw=>by
 subst hn;have e1:(ops.toArray.map fun(p:Nat×Operand)=>match p with|(i,x)=>(i,a.eval x))=(idx vals 0).toArray:=by
  rw[←ha.kN hx];simp
 refine⟨w.heap.size,_,?_,hw.call (yr (enc:=enc) (c:=c) (xs:=xs) (cs:=(aL enc xs).toArray) (e:=e) rfl xs.length xs.length rfl (asu _) (I9 hc sf) (by simp[gR]) fun i x hx j hj=>by rw[←oE (enc:=enc) xs i x hx j hj];simp)⟩;simp only[execOp,e1,Sem.run_bind,Ja ht hv hc sf w,Result.andThen,Sem.run_pure];rfl
theorem ub{id:Nat}[kM Q](fs:List Nat)(A:List (List Nat))(ord:List Nat)(Lq:List aj)(mk:List (Nat×oO))(CI:(fs.all fun j=>decide (j<2000)||decide (4000<=j)||fs.contains (j -2000))=true)(nf: ∀w,Mem w0 L w->Mem w0 Lq w)(hm:P.follows .mixedOrders=true)(hB:Fo l fs A ord=true)(h:Ln P N w0 l fs (JR mk) Q ord env L Lq)(bc:l.length<=1000:=by decide)(cC:qq l=true:=by kernel_rfl):Cw P N w0 Q (.region id l.toArray true) env L:=fun a _ ha hw=>by
 refine PK A ord cC hm hB hw.En nf (fun k nT hk=>?_) (h a ha)
 cases h2:fs.contains (k+2000)with
 |false=>rfl
 |true=>
  have:=asD.1 CI (k+2000) (by simpa using h2);rw[atF,atF,decide_eq_true_eq,decide_eq_true_eq]at this;rcases this with(h|h)|h
  ·
   omega
  ·
   omega
  rw[Nat.add_sub_cancel,hk]at h;cases h
theorem iY{id:Nat}[kM Q](fs:List Nat)(A:List (List Nat))(ord:List Nat)(Lq:List aj)(nf: ∀w,Mem w0 L w->Mem w0 Lq w)(hm:P.follows .mixedOrders=true)(hB:Fm l fs A ord=true)(h:Ln P N w0 l fs (JR []) Q ord env L Lq)(cC:qq l=true:=by kernel_rfl):Cw P N w0 Q (.region id l.toArray true) env L:=fun a _ ha hw=>
 Zo A ord cC hm hB hw.En nf (h a ha)
end
theorem Ry.n{P:Program}{N:ct}{w0:World}{env:Env}{L:List aj}{d:Option Tmp}{ty:TypeId}{ps:String}{af:Array Edge}{gd:Option (Nat×Bool)}{s:TypeId}{x:Operand}{fi off b o o':Nat}[hf:dG P s fi off](hx:ev env x=some (.pointer (some ⟨b,o,none⟩)))(ho:Nat.add o off=o':=by(simp only[avc,Nat.reduceAdd];exact rfl)):
  Ry P N w0 env L ⟨d, .fieldAddr s x fi,ty,ps,af,gd⟩ (.pointer (some ⟨b,o',none⟩)):=aO hx ho
theorem tS{P:Program}{N:ct}{w0:World}{l:List Oper}{Q:Exit->Act->World->Prop}{rest:List Oper}{env:Env}{L:List aj}{d:Option Tmp}{ty:TypeId}{ps:String}{af:Array Edge}(op:Op)(gd:Option (Nat×Bool))(h:Sq P N w0 l Q (⟨d,op,ty,ps,af,gd⟩::rest) env L):Sq P N w0 l Q (⟨d,op,ty,ps,af,gd⟩::rest) env L:=h
theorem tQ{P:Program}{N:ct}{w0:World}{l:List Oper}{fs:List Nat}{F:Act->Prop}{k:Nat}{rest:List Oper}{env:Env}{L:List aj}{d:Option Tmp}{ty:TypeId}{ps:String}{af:Array Edge}(op:Op)(gd:Option (Nat×Bool))(h:Qt P N w0 l fs F k (⟨d,op,ty,ps,af,gd⟩::rest) env L):Qt P N w0 l fs F k (⟨d,op,ty,ps,af,gd⟩::rest) env L:=h
structure Wr(p:Prop):Prop where
 h:p
theorem Gs{G G':Prop}(k:G')(h:Wr G'->G:=by
 intro k
 first
 |(with_reducible refine tS (.move _) none ?_);exact ag (bf rfl) k.h
 |(with_reducible refine tS (.assign _) none ?_);exact ag (hG rfl) k.h
 |(with_reducible refine tS (.fieldAddr _ _ _) none ?_);exact ag (Ry.n rfl) k.h
 |(with_reducible refine tS (.load _ _) none ?_);exact ag (bY rfl) k.h
 |(with_reducible refine tS (.load _ _) none ?_);exact ag (jY rfl) k.h
 |(with_reducible refine tS (.binOp .add _ _ _ _) none ?_);exact ag (yh rfl rfl (by omega)) k.h
 |(with_reducible refine tS (.binOp .sub _ _ _ _) none ?_);exact ag (zU rfl rfl (by omega)) k.h
 |(with_reducible refine tS (.pick _ _ _) none ?_);exact ag (zO rfl rfl rfl) k.h
 |(with_reducible refine tS (.pick _ _ _) none ?_);exact ag (zN rfl rfl rfl) k.h
 |(with_reducible refine tS (.unOp _ _ _) none ?_);exact ag (ng rfl) k.h
 |(with_reducible refine tS (.binOp _ _ _ _ _) none ?_);exact ag (et rfl rfl rfl) k.h
 |(with_reducible refine tS (.nilCheck _) none ?_);exact ag (jf rfl) k.h
 |(with_reducible refine tS (.call _) none ?_);exact ag (tP rfl) k.h
 |(with_reducible refine tS (.store _ _ _) none ?_);exact XH rfl rfl k.h
 |(with_reducible refine tS (.call _) none ?_);exact eS (cj rfl trivial) k.h):G:=h ⟨k⟩
theorem Gq{G G':Prop}(k:G')(h:Wr G'->G:=by
 intro k
 first
 |(with_reducible refine tQ (.move _) none ?_);exact bC (bf rfl) k.h
 |(with_reducible refine tQ (.assign _) none ?_);exact bC (hG rfl) k.h
 |(with_reducible refine tQ (.fieldAddr _ _ _) none ?_);exact bC (Ry.n rfl) k.h
 |(with_reducible refine tQ (.load _ _) none ?_);exact bC (bY rfl) k.h
 |(with_reducible refine tQ (.load _ _) none ?_);exact bC (jY rfl) k.h
 |(with_reducible refine tQ (.binOp .add _ _ _ _) none ?_);exact bC (yh rfl rfl (by omega)) k.h
 |(with_reducible refine tQ (.binOp .sub _ _ _ _) none ?_);exact bC (zU rfl rfl (by omega)) k.h
 |(with_reducible refine tQ (.pick _ _ _) none ?_);exact bC (zO rfl rfl rfl) k.h
 |(with_reducible refine tQ (.pick _ _ _) none ?_);exact bC (zN rfl rfl rfl) k.h
 |(with_reducible refine tQ (.unOp _ _ _) none ?_);exact bC (ng rfl) k.h
 |(with_reducible refine tQ (.binOp _ _ _ _ _) none ?_);exact bC (et rfl rfl rfl) k.h
 |(with_reducible refine tQ (.nilCheck _) none ?_);exact bC (jf rfl) k.h
 |(with_reducible refine tQ (.call _) none ?_);exact bC (tP rfl) k.h):G:=h ⟨k⟩
theorem Gg{G G':Prop}(k:G')(h:Wr G'->G:=by
 intro k
 first
 |(with_reducible refine tS (.move _) (some (_,false)) ?_);exact bI rfl rfl rfl (fun hg=>Ry.yl (bf rfl)) k.h
 |(with_reducible refine tS (.fieldAddr _ _ _) (some (_,false)) ?_);exact bI rfl rfl rfl (fun hg=>Ry.yl (Ry.n rfl)) k.h
 |(with_reducible refine tS (.load _ _) (some (_,false)) ?_);exact bI rfl rfl rfl (fun hg=>Ry.yl (bY (aF hg rfl))) k.h
 |(with_reducible refine tS (.binOp _ _ _ _ _) (some (_,false)) ?_);exact bI rfl rfl rfl (fun hg=>Ry.yl (et (aF hg rfl) rfl rfl)) k.h
 |(with_reducible refine tS (.binOp _ _ _ _ _) (some (_,false)) ?_);exact bI rfl rfl rfl (fun hg=>Ry.yl (et (aF hg rfl) (aF hg rfl) rfl)) k.h
 |(with_reducible refine tS (.call _) (some (_,false)) ?_);exact bI rfl rfl rfl (fun hg=>Ry.yl (tP (aF hg rfl))) k.h
 |(with_reducible refine tS (.move _) (some (_,true)) ?_);exact jr rfl rfl rfl (fun hg=>Ry.yl (bf rfl)) k.h
 |(with_reducible refine tS (.fieldAddr _ _ _) (some (_,true)) ?_);exact jr rfl rfl rfl (fun hg=>Ry.yl (Ry.n rfl)) k.h
 |(with_reducible refine tS (.load _ _) (some (_,true)) ?_);exact jr rfl rfl rfl (fun hg=>Ry.yl (bY (aF hg rfl))) k.h
 |(with_reducible refine tS (.binOp _ _ _ _ _) (some (_,true)) ?_);exact jr rfl rfl rfl (fun hg=>Ry.yl (et (aF hg rfl) rfl rfl)) k.h
 |(with_reducible refine tS (.binOp _ _ _ _ _) (some (_,true)) ?_);exact jr rfl rfl rfl (fun hg=>Ry.yl (et (aF hg rfl) (aF hg rfl) rfl)) k.h
 |(with_reducible refine tS (.call _) (some (_,true)) ?_);exact jr rfl rfl rfl (fun hg=>Ry.yl (tP (aF hg rfl))) k.h):G:=h ⟨k⟩
theorem Gh{G G':Prop}(k:G')(h:Wr G'->G:=by
 intro k
 first
 |(with_reducible refine tQ (.move _) (some (_,false)) ?_);exact fD rfl rfl rfl (fun hg=>Ry.yl (bf rfl)) k.h
 |(with_reducible refine tQ (.fieldAddr _ _ _) (some (_,false)) ?_);exact fD rfl rfl rfl (fun hg=>Ry.yl (Ry.n rfl)) k.h
 |(with_reducible refine tQ (.load _ _) (some (_,false)) ?_);exact fD rfl rfl rfl (fun hg=>Ry.yl (bY (aF hg rfl))) k.h
 |(with_reducible refine tQ (.binOp _ _ _ _ _) (some (_,false)) ?_);exact fD rfl rfl rfl (fun hg=>Ry.yl (et (aF hg rfl) rfl rfl)) k.h
 |(with_reducible refine tQ (.binOp _ _ _ _ _) (some (_,false)) ?_);exact fD rfl rfl rfl (fun hg=>Ry.yl (et (aF hg rfl) (aF hg rfl) rfl)) k.h
 |(with_reducible refine tQ (.call _) (some (_,false)) ?_);exact fD rfl rfl rfl (fun hg=>Ry.yl (tP (aF hg rfl))) k.h
 |(with_reducible refine tQ (.move _) (some (_,true)) ?_);exact fX rfl rfl rfl (fun hg=>Ry.yl (bf rfl)) k.h
 |(with_reducible refine tQ (.fieldAddr _ _ _) (some (_,true)) ?_);exact fX rfl rfl rfl (fun hg=>Ry.yl (Ry.n rfl)) k.h
 |(with_reducible refine tQ (.load _ _) (some (_,true)) ?_);exact fX rfl rfl rfl (fun hg=>Ry.yl (bY (aF hg rfl))) k.h
 |(with_reducible refine tQ (.binOp _ _ _ _ _) (some (_,true)) ?_);exact fX rfl rfl rfl (fun hg=>Ry.yl (et (aF hg rfl) rfl rfl)) k.h
 |(with_reducible refine tQ (.binOp _ _ _ _ _) (some (_,true)) ?_);exact fX rfl rfl rfl (fun hg=>Ry.yl (et (aF hg rfl) (aF hg rfl) rfl)) k.h
 |(with_reducible refine tQ (.call _) (some (_,true)) ?_);exact fX rfl rfl rfl (fun hg=>Ry.yl (tP (aF hg rfl))) k.h):G:=h ⟨k⟩
theorem tR{P:Program}{N:ct}{w0:World}{Q:Exit->Act->World->Prop}{env:Env}{L:List aj}{id:Nat}{l:Array Oper}(h:Cw P N w0 Q (.region id l false) env L):Cw P N w0 Q (.region id l false) env L:=h
theorem Gc{G G':Prop}(k:G')(h:Wr G'->G:=by
 intro k
 repeat (first
  |(with_reducible refine EK ?_)
  |(with_reducible refine EN ?_)
  |(with_reducible refine EI ?_)
  |(with_reducible refine Oy ?_)
  |(with_reducible refine I0 ?_)
  |(with_reducible refine OB ?_)
  |(with_reducible refine OA ?_)
  |(with_reducible refine Ox ?_)
  |(with_reducible refine OE ?_)
  |(with_reducible refine OD ?_)
  |(with_reducible refine OC ?_)
  |(with_reducible refine Oz ?_)
  |(with_reducible refine PT ?_)
  |(with_reducible refine Ou ?_)
  |(with_reducible refine tR ?_);refine EL ?_)
 exact k.h):G:=h ⟨k⟩
theorem Gi{G G':Prop}(k:G')(h:Wr G'->G:=by
 intro k
 first
  |(with_reducible refine EK ?_)
  |(with_reducible refine EN ?_)
  |(with_reducible refine EI ?_)
  |(with_reducible refine Oy ?_)
  |(with_reducible refine I0 ?_)
  |(with_reducible refine OB ?_)
  |(with_reducible refine OA ?_)
  |(with_reducible refine Ox ?_)
  |(with_reducible refine OE ?_)
  |(with_reducible refine OD ?_)
  |(with_reducible refine OC ?_)
  |(with_reducible refine Oz ?_)
  |(with_reducible refine PT ?_)
  |(with_reducible refine Ou ?_)
  |(with_reducible refine tR ?_);refine EL ?_
 exact k.h):G:=h ⟨k⟩
theorem bz{p q:Prop}(h:p)(e:p=q:=by(try simp only[Z0,Z1,Z2,Z3,Z4,Z5,Z6,Z7,Z8,Z9]);exact rfl):q:=e▸h
theorem Zw{P:Program}{N:ct}{w0:World}{l:List Oper}{Q:Exit->Act->World->Prop}{rest:List Oper}{env:Env}{L:List aj}{d:Option Tmp}{ty:TypeId}{ps:String}{af:Array Edge}{op:Op}(h:Sq P N w0 l Q (⟨d,op,ty,ps,af,none⟩::rest) env L):Sq P N w0 l Q (⟨d,op,ty,ps,af,none⟩::rest) env L:=h
theorem Zx{P:Program}{N:ct}{w0:World}{l:List Oper}{Q:Exit->Act->World->Prop}{rest:List Oper}{env:Env}{L:List aj}{d:Option Tmp}{ty:TypeId}{ps:String}{af:Array Edge}{op:Op}{g:Nat×Bool}(h:Sq P N w0 l Q (⟨d,op,ty,ps,af,some g⟩::rest) env L):Sq P N w0 l Q (⟨d,op,ty,ps,af,some g⟩::rest) env L:=h
theorem Zy{P:Program}{N:ct}{w0:World}{l:List Oper}{fs:List Nat}{F:Act->Prop}{k:Nat}{rest:List Oper}{env:Env}{L:List aj}{d:Option Tmp}{ty:TypeId}{ps:String}{af:Array Edge}{op:Op}(h:Qt P N w0 l fs F k (⟨d,op,ty,ps,af,none⟩::rest) env L):Qt P N w0 l fs F k (⟨d,op,ty,ps,af,none⟩::rest) env L:=h
theorem Zz{P:Program}{N:ct}{w0:World}{l:List Oper}{fs:List Nat}{F:Act->Prop}{k:Nat}{rest:List Oper}{env:Env}{L:List aj}{d:Option Tmp}{ty:TypeId}{ps:String}{af:Array Edge}{op:Op}{g:Nat×Bool}(h:Qt P N w0 l fs F k (⟨d,op,ty,ps,af,some g⟩::rest) env L):Qt P N w0 l fs F k (⟨d,op,ty,ps,af,some g⟩::rest) env L:=h
theorem Gz{G G':Prop}(k:G')(h:Wr G'->G:=by
 intro k
 first
 |(with_reducible refine Zw ?_);refine Gs ?_;exact k.h
 |(with_reducible refine Zx ?_);refine Gg ?_;exact k.h
 |(with_reducible refine Zy ?_);refine Gq ?_;exact k.h
 |(with_reducible refine Zz ?_);refine Gh ?_;exact k.h
 |refine Gc ?_;exact k.h):G:=h ⟨k⟩
theorem av{G G':Prop}(k:G')(h:Wr G'->G:=by intro k;(iterate 2 (refine Gz ?_));exact k.h):G:=h ⟨k⟩
theorem al{G G':Prop}(k:G')(h:Wr G'->G:=by intro k;(iterate 3 (refine Gz ?_));exact k.h):G:=h ⟨k⟩
theorem au{G G':Prop}(k:G')(h:Wr G'->G:=by intro k;(iterate 4 (refine Gz ?_));exact k.h):G:=h ⟨k⟩
theorem aM{G G':Prop}(k:G')(h:Wr G'->G:=by intro k;(iterate 5 (refine Gz ?_));exact k.h):G:=h ⟨k⟩
theorem aS{G G':Prop}(k:G')(h:Wr G'->G:=by intro k;(iterate 6 (refine Gz ?_));exact k.h):G:=h ⟨k⟩
theorem cW{G G':Prop}(k:G')(h:Wr G'->G:=by intro k;(iterate 7 (refine Gz ?_));exact k.h):G:=h ⟨k⟩
theorem eI{G G':Prop}(k:G')(h:Wr G'->G:=by intro k;(iterate 8 (refine Gz ?_));exact k.h):G:=h ⟨k⟩
theorem hU{G G':Prop}(k:G')(h:Wr G'->G:=by intro k;(iterate 9 (refine Gz ?_));exact k.h):G:=h ⟨k⟩
theorem sF{G G':Prop}(k:G')(h:Wr G'->G:=by intro k;(iterate 10 (refine Gz ?_));exact k.h):G:=h ⟨k⟩
theorem oP{G G':Prop}(k:G')(h:Wr G'->G:=by intro k;(iterate 11 (refine Gz ?_));exact k.h):G:=h ⟨k⟩
theorem CJ{G G':Prop}(k:G')(h:Wr G'->G:=by intro k;(iterate 12 (refine Gz ?_));exact k.h):G:=h ⟨k⟩
theorem FB{G G':Prop}(k:G')(h:Wr G'->G:=by intro k;(iterate 13 (refine Gz ?_));exact k.h):G:=h ⟨k⟩
theorem PZ{G G':Prop}(k:G')(h:Wr G'->G:=by intro k;(iterate 14 (refine Gz ?_));exact k.h):G:=h ⟨k⟩
theorem ZA{G G':Prop}(k:G')(h:Wr G'->G:=by intro k;(iterate 15 (refine Gz ?_));exact k.h):G:=h ⟨k⟩
theorem JS{G G':Prop}(k:G')(h:Wr G'->G:=by intro k;(iterate 16 (refine Gz ?_));exact k.h):G:=h ⟨k⟩
theorem P0{G G':Prop}(k:G')(h:Wr G'->G:=by intro k;(iterate 17 (refine Gz ?_));exact k.h):G:=h ⟨k⟩
theorem P1{G G':Prop}(k:G')(h:Wr G'->G:=by intro k;(iterate 18 (refine Gz ?_));exact k.h):G:=h ⟨k⟩
theorem ZB{G G':Prop}(k:G')(h:Wr G'->G:=by intro k;(iterate 19 (refine Gz ?_));exact k.h):G:=h ⟨k⟩
theorem ZC{G G':Prop}(k:G')(h:Wr G'->G:=by intro k;(iterate 20 (refine Gz ?_));exact k.h):G:=h ⟨k⟩
theorem ZD{G G':Prop}(k:G')(h:Wr G'->G:=by intro k;(iterate 21 (refine Gz ?_));exact k.h):G:=h ⟨k⟩
theorem ZE{G G':Prop}(k:G')(h:Wr G'->G:=by intro k;(iterate 22 (refine Gz ?_));exact k.h):G:=h ⟨k⟩
theorem ZF{G G':Prop}(k:G')(h:Wr G'->G:=by intro k;(iterate 24 (refine Gz ?_));exact k.h):G:=h ⟨k⟩
theorem ZG{G G':Prop}(k:G')(h:Wr G'->G:=by intro k;(iterate 27 (refine Gz ?_));exact k.h):G:=h ⟨k⟩
theorem ZH{G G':Prop}(k:G')(h:Wr G'->G:=by intro k;(iterate 28 (refine Gz ?_));exact k.h):G:=h ⟨k⟩
theorem P2{G G':Prop}(k:G')(h:Wr G'->G:=by intro k;(iterate 29 (refine Gz ?_));exact k.h):G:=h ⟨k⟩
theorem ZI{G G':Prop}(k:G')(h:Wr G'->G:=by intro k;(iterate 31 (refine Gz ?_));exact k.h):G:=h ⟨k⟩
theorem gg{G G':Prop}(k:G')(h:Wr G'->G:=by intro k;(iterate 2 (refine Gi ?_));exact k.h):G:=h ⟨k⟩
theorem ky{G G':Prop}(k:G')(h:Wr G'->G:=by intro k;(iterate 3 (refine Gi ?_));exact k.h):G:=h ⟨k⟩
theorem JT{G G':Prop}(k:G')(h:Wr G'->G:=by intro k;(iterate 4 (refine Gi ?_));exact k.h):G:=h ⟨k⟩
theorem ZJ{G G':Prop}(k:G')(h:Wr G'->G:=by intro k;(iterate 5 (refine Gi ?_));exact k.h):G:=h ⟨k⟩
theorem nt{G G':Prop}(k:G')(h:Wr G'->G:=by intro k;(iterate 6 (refine Gi ?_));exact k.h):G:=h ⟨k⟩
theorem ZK{G G':Prop}(k:G')(h:Wr G'->G:=by intro k;(iterate 7 (refine Gi ?_));exact k.h):G:=h ⟨k⟩
theorem Gb{G p q A B:Prop}(a:p->A)(b:q->B)(h:Wr (p->A)->Wr (q->B)->G:=by
 intro a b;refine jt rfl (fun h=>?_) (fun h=>?_)
 ·
  exact a.h (bz h)
 exact b.h (bz h)):G:=h ⟨a⟩ ⟨b⟩
theorem Gr{P:Program}{fn:Func}{w0:World}{L:List aj}{env:Env}{R:Ending->World->Prop}{n:Nat}{e:Exit}{v:Value}(h: ∀w,Mem w0 L w->R (.returned v) w)(he:e= .ret\/e= .normal:=by exact .inl rfl)(hr: ∀a w,dr ⟨n,[],none⟩ env a->Mem w0 L w->(results fn a.tmps).run P w= .ok v w:=by
 first
 |exact OK rfl (Ad rfl)
 |exact XX rfl (by first|exact Ad rfl|exact Ae rfl) (by first|exact Ad rfl|exact Ae rfl)
 |exact XY rfl (by first|exact Ad rfl|exact Ae rfl) (by first|exact Ad rfl|exact Ae rfl) (by first|exact Ad rfl|exact Ae rfl)
 |exact OK rfl (Ae rfl)):Ex ⟨n,[],none⟩ w0 (r8 P fn R) e env L:=hO he hr h
theorem Ge{a b:Bool}{w0 w1:World}{L M:List aj}[hk:ai L M](h:a=b)(hw:Mem w0 L w1):Ending.returned (.bool a)= .returned (.bool b)/\Mem w0 M w1:=⟨by rw[h],ai.mem hw⟩
theorem Gf{a b:Int}{k:IntKind}{w0 w1:World}{L M:List aj}[hk:ai L M](h:a=b)(hw:Mem w0 L w1):Ending.returned (.int k a)= .returned (.int k b)/\Mem w0 M w1:=⟨by rw[h],ai.mem hw⟩
theorem Gk{P:Program}{f:FuncId}{a:Array Value}{w0 w:World}{L:List aj}{X:Type}{val:X->Value}{pr:X->Prop}(E:X->List aj)(hw:Mem w0 L w)(h:Calls P f a w fun e w'=> ∃x,e= .returned (val x)/\pr x/\Mem w (E x) w'):Calls P f a w fun e w'=> ∃x,e= .returned (val x)/\pr x/\Mem w0 (E x++L) w':=h.mono fun e w' ⟨x,h1,h2,h3⟩=>⟨x,h1,h2,hw.call h3⟩
theorem sb{e e':Env}(h:Sub e e':=by repeat (first|exact Sub.nil _|refine Sub.cons rfl ?_)):Sub e e':=h
theorem oM{p:Prop}(h:p:=by omega):p:=h
theorem oF{p:Prop}(h:p:=by first|omega|(simp only[];omega)):p:=h
theorem oK{p:Prop}(h:p:=by kernel_rfl):p:=h
theorem ZL{P:Program}{fn:Func}{R:Ending->World->Prop}{N:Nat}{f:FuncId}{c:Code}{w:World}(hf:P.funcs[f]? =some fn)(hb:fn.body=some c)(hN:fn.ntmps=N)(hle:Nat.ble 0 N=true)(h:Cw P ⟨N,[],none⟩ w (r8 P fn R) c [] []):Calls P f #[] w R:=z8 (args:=[]) hf hb hN hle h
theorem cB{P:Program}{fn:Func}{R:Ending->World->Prop}{N:Nat}{f:FuncId}{c:Code}{w:World}{v0:Value}(hf:P.funcs[f]? =some fn)(hb:fn.body=some c)(hN:fn.ntmps=N)(hle:Nat.ble 1 N=true)(h:Cw P ⟨N,[],none⟩ w (r8 P fn R) c [(0,v0)] []):Calls P f #[v0] w R:=z8 (args:=[v0]) hf hb hN hle h
theorem cQ{P:Program}{fn:Func}{R:Ending->World->Prop}{N:Nat}{f:FuncId}{c:Code}{w:World}{v0 v1:Value}(hf:P.funcs[f]? =some fn)(hb:fn.body=some c)(hN:fn.ntmps=N)(hle:Nat.ble 2 N=true)(h:Cw P ⟨N,[],none⟩ w (r8 P fn R) c [(0,v0),(1,v1)] []):Calls P f #[v0,v1] w R:=z8 (args:=[v0,v1]) hf hb hN hle h
theorem vn{P:Program}{fn:Func}{R:Ending->World->Prop}{N:Nat}{f:FuncId}{c:Code}{w:World}{v0 v1 v2:Value}(hf:P.funcs[f]? =some fn)(hb:fn.body=some c)(hN:fn.ntmps=N)(hle:Nat.ble 3 N=true)(h:Cw P ⟨N,[],none⟩ w (r8 P fn R) c [(0,v0),(1,v1),(2,v2)] []):Calls P f #[v0,v1,v2] w R:=z8 (args:=[v0,v1,v2]) hf hb hN hle h
theorem JU{P:Program}{fn:Func}{R:Ending->World->Prop}{N:Nat}{f:FuncId}{c:Code}{w:World}{v0 v1 v2 v3:Value}(hf:P.funcs[f]? =some fn)(hb:fn.body=some c)(hN:fn.ntmps=N)(hle:Nat.ble 4 N=true)(h:Cw P ⟨N,[],none⟩ w (r8 P fn R) c [(0,v0),(1,v1),(2,v2),(3,v3)] []):Calls P f #[v0,v1,v2,v3] w R:=z8 (args:=[v0,v1,v2,v3]) hf hb hN hle h
theorem Ay{A X V:List Value}{o:Nat}(h:o=A.length):over (A++X).toArray o V.toArray=(A++(V++X.drop V.length)).toArray:=by
 subst h;unfold over;simp only[ate,asF];rw[List.take_left,List.drop_append];simp
section
variable {α:Type} {enc:α->Array Value} {c:Nat} {s:Sv} {xs:List α}
theorem yH(xs ys:List α):aL enc (xs++ys)=aL enc xs++aL enc ys:=by simp[aL]
theorem ZM[he:bm enc c](hc:0<c){cs:Array Value}{o:Nat}(fh:o+xs.length*c<=cs.size)(hr: ∀i x,xs[i]? =some x-> ∀j,j<c->cs[o+i*c+j]? =(enc x)[j]?):
  cs=(cs.toList.take o++(aL enc xs++cs.toList.drop (o+xs.length*c))).toArray:=by
 have key:(cs.toList.drop o).take (xs.length*c)=aL enc xs:=by
  refine atj fun k=>?_;rcases asx k (xs.length*c)with hk|hk
  ·
   rw[List.getElem?_take_of_lt hk,aty,Array.getElem?_toList];have hd:k/c<xs.length:=avf (by rwa [atK]);have hm:=aun k hc;have e:k/c*c+k%c=k:=by rw[atK];exact auv k c
   have h1:=hr (k/c) xs[k/c] (by simp[hd]) (k%c) hm;have h2:=oE (enc:=enc) xs (k/c) xs[k/c] (by simp[hd]) (k%c) hm;rw[e]at h2;rw[h2,←h1];congr 1;omega
  ·
   rw[ast (by simp;omega),ast (by rw[gR];omega)]
 apply ave;simp only;rw[←key,←asF,show o+xs.length*c=o+xs.length*c from rfl,←at3,asF,asR,asR]
theorem JV{a b:Nat}(h:a<=b):a=Nat.min a b:=(auM h).symm
theorem ZN{a b:Nat}(h:b<=a):b=Nat.min a b:=(Nat.min_eq_right h).symm
theorem ZO[he:bm enc c](hc:1<c){w0 w:World}{L:List aj}{i:Nat}(hw:Mem w0 L w)(hi:L[i]? =some (own enc c s xs))(hn:s.nil=false):
  ∃pre mid T,pre.length=s.o/\s.o+s.cap*c<=pre.length+(xs.length*c+mid.length)/\s.sp=none/\s.Ok/\s.len=xs.length/\Mem w0 (L.set i (ar s.b (pre++(aL enc xs++mid)).toArray T)) w:=by
 obtain⟨r,oG⟩:=hw.get hi;obtain⟨hQ,cs,T,fz,ft,fh,nj,nO⟩:=oG hn;obtain rfl:=nO hc;have hle:=r.ok.le;have hlen:=r.len;have hm:xs.length*c<=s.cap*c:=asK _ (by omega);have e:=ZM (enc:=enc) (c:=c) (xs:=xs) (cs:=cs) (o:=s.o) (by omega) (by omega) fun i x hx j hj=>by
  rw[←r.row i x hx j hj];unfold oC;rw[ft]
 refine⟨cs.toList.take s.o,cs.toList.drop (s.o+xs.length*c),T,by simp;omega,by simp;omega,hQ,r.ok,hlen,?_⟩;rw[←e];exact hw.change hi (fun k (hk:k=s.b)=>⟨hn,hk⟩) (fun _ _=>rfl) rfl ⟨rfl,rfl,rfl⟩ ft
theorem JW[he:bm enc c]{w0 w:World}{L:List aj}{i b:Nat}{pre mid:List Value}{T:TypeId}(hw:Mem w0 L w)(hi:L[i]? =some (ar b (pre++(aL enc xs++mid)).toArray T))(s':Sv)(bB:s'.Ok)(hn:s'.nil=false)(hb:s'.b=b)(hQ:s'.sp=none)(ho:s'.o=pre.length)(hl:s'.len=xs.length)
  (yp:s'.o+s'.cap*c<=pre.length+(xs.length*c+mid.length)):Mem w0 (L.set i (own enc c s' xs)) w:=by
 subst hb;have ft:hp w s'.b=some (.cells (pre++(aL enc xs++mid)).toArray T (0,0)):=hw.block hi;refine hw.change hi (fun k hk=>hk.2) (fun _ _=>rfl) rfl ⟨rfl,rfl,rfl⟩ ⟨u9 bB hl ft fun k y hy j hj=>?_,fun _=>⟨hQ,_,_,_,ft,by simp[gR];omega,I2 _,fun _=>rfl⟩⟩;have bc:k*c+j<(aL enc xs).length:=by
  rw[gR];have h1:=(ad2.1 hy).1
  calc k*c+j<k*c+c:=by omega
   _=(k+1)*c:=by rw[asY];omega
   _<=_:=asK _ h1
 rw[atY,asA (by omega),asG (by omega),←oE (enc:=enc) xs k y hy j hj];congr 1;omega
theorem Sv.w8{lo hi:Nat}(h:lo<s.cap):(s.sub c lo hi).o=s.o+lo*c:=by simp only[Sv.sub];rw[if_neg (by omega)]
theorem Sv.CK{hi:Nat}:(s.sub c 0 hi).o=s.o:=by simp only[Sv.sub];split<;>simp
theorem Sv.sub_eq{hi:Nat}(hn:s.nil=false)(hQ:s.sp= .none):s.sub c 0 hi=⟨false,s.b,s.o,hi,s.cap, .none⟩:=by
 have h0:=Sv.CK (s:=s) (c:=c) (hi:=hi);obtain⟨sn,sb,so,sl,sc,ss⟩:=s;simp only[Sv.sub]at h0 hn hQ⊢;subst hn hQ;rw[h0];rfl
end
section
variable {P:Program} {N:ct} {w0:World} {env:Env} {L:List aj} {Q:Exit->Act->World->Prop} {l rest:List Oper} {d:Option Tmp} {ty:TypeId} {ps:String} {af:Array Edge} {gd:Option (Nat×Bool)} {K:Value->List aj->Prop}
variable {α:Type} {enc:α->Array Value} {c:Nat} {s:Sv} {xs:List α}
theorem ZP{w:World}{pre A mid:List Value}{T:TypeId}{b o:Nat}{L':List aj}(hw:Mem w0 (ar b (pre++(A++mid)).toArray T::L') w)(ho:pre.length=o){j:Nat}{u:Value}(hj:A[j]? =some u):w.cell? ⟨b,o+j,none⟩=some u:=by
 have iu:=(ad2.1 hj).1;have h0:(ar b (pre++(A++mid)).toArray T::L')[0]? =some (ar b (pre++(A++mid)).toArray T):=rfl;rw[hw.cell h0,atY,asA (by omega),asG (by omega),←hj];congr 1;omega
theorem P3{code:Code}[he:bm enc c]{i:Nat}(q:fu L s enc c xs i)(hc:1<c)(hn:0<xs.length){L':List Value->List Value->TypeId->List aj}[hu: ∀pre mid T,fC L i (ar s.b (pre++(aL enc xs++mid)).toArray T) (L' pre mid T)]
  (h: ∀pre mid T,pre.length=s.o->s.o+s.cap*c<=pre.length+(xs.length*c+mid.length)->s.nil=false->s.sp=none->s.Ok->s.len=xs.length->Cw P N w0 Q code env (L' pre mid T)):Cw P N w0 Q code env L:=fun a w ha hw=>by
 have oQ:=(hw.get q.h).1.some hn;obtain⟨pre,mid,T,h1,h2,h3,h4,h5,h6⟩:=ZO hc hw q.h oQ;rw[(hu pre mid T).h]at h6;exact h pre mid T h1 h2 oQ h3 h4 h5 a w ha h6
theorem FC{code:Code}{i:Nat}(q:fu L s enc c xs i)(hn:0<xs.length)(h:s.nil=false->s.sp=none->s.Ok->s.len=xs.length->Cw P N w0 Q code env L):Cw P N w0 Q code env L:=fun a w ha hw=>by
 obtain⟨r,oG⟩:=hw.get q.h;have oQ:=r.some hn;exact h oQ (oG oQ).1 r.ok r.len a w ha hw
theorem P4[he:bm enc c](hc:0<c){i:Nat}(q:fu L s enc c xs i){w:World}(hw:Mem w0 L w){j:Nat}{v:Value}(hj:(aL enc xs)[j]? =some v):w.cell? ⟨s.b,s.o+j,none⟩=some v:=by
 obtain⟨x,hx,hv⟩:=EU hc hj;have r:=(hw.get q.h).1;rw[tK,←hv,←r.row _ x hx (j%c) (aun _ hc)];congr 1;have:=auv j c;rw[atK]at this;omega
theorem ZQ(w:World)(dT sT ty elem:TypeId)(b o P5 ZR:Nat)(a:Addr)(P6 ZS n:Nat)(cur:Array Value)(t:TypeId)(vs:List Value)
  (hu:P.underlying dT=some (.slice elem)) (hs:(P.info? elem).map (·.size)=some c) (hg:w.heap[b]? =some (.cells cur t (0,0))) (hn:n=Nat.min P6 P5) (hv:vs.length=n*c)
  (nh: ∀j v,vs[j]? =some v->w.cell? (a.add j)=some v) (ju:o+vs.length<=cur.size) (h1: ∀v∈vs,v.oneCell'=true):
  (Builtin.copy_ #[dT,sT] ty #[.slice (some ⟨b,o,none⟩) P5 ZR, .slice (some a) P6 ZS]).run P w= .ok (goInt n) (w.setRow b (over cur o vs.toArray)):=by
 have hl:=run_loadCells_list (P:=P) w a vs nh;have br:=run_storeCells_at P b o t vs 0 cur w hg (by simpa using ju) h1;rw[hv]at hl
 cases hq:P.info? elem with
 |none=>simp[hq]at hs
 |some i=>
  have hi:i.size=c:=by simpa[hq]using hs
  simp[Builtin.copy_,run_underlying hu,Builtin.lenOf,Builtin.firstCells,sizeOf,typeInfo,hq,hi,←hn,hl,br,over]
theorem FD{D S:Sv}{x y:Operand}{tx gI e:TypeId}{i b o n:Nat}{cs:Array Value}{T:TypeId}{vs:List Value}(hx:ev env x=some D.val)(hy:ev env y=some S.val)
  (nu:D.nil=false) (oR:D.sp=none) (qD:D.b=b) (sG:D.o=o) (CL:S.nil=false) (CM:S.sp=none) [ht:fj P tx e c] [hh:Has L b cs T i] (hn:n=Nat.min S.len D.len) (hv:vs.length=n*c)
  (nh: ∀w,Mem w0 L w-> ∀j v,vs[j]? =some v->w.cell? ⟨S.b,S.o+j,none⟩=some v) (h1: ∀v∈vs,v.oneCell'=true) (ho:o+vs.length<=cs.size) {cs':Array Value} {L':List aj} (iA:over cs o vs.toArray=cs') [hu:fC L i (ar b cs' T) L']
  (hk:Sq P N w0 l Q rest (cJ env d (.int .i64 n)) L') (hd:dA N d=true:=by rfl):
  Sq P N w0 l Q (⟨d, .call {callee:= .builtin .copy,args:= #[x,y],argTypes:= #[tx,gI]},ty,ps,af,none⟩::rest) env L:=
 oB rfl hd fun aa w ha hw=>by
  rw[Sv.iW nu,oR,qD,sG]at hx;rw[Sv.iW CL,CM]at hy;have hb:=hw.block hh.h;have gG:=ZQ (P:=P) w tx gI ty e b o D.len D.cap ⟨S.b,S.o,none⟩ S.len S.cap n cs T vs ht.fc ht.size hb hn hv (fun j v hj=>by rw[Addr.hH];exact nh w hw j v hj) ho h1;refine⟨_,_,_,?_,by rw[←hu.h,←iA];exact hw.setRow hh.h _,hk⟩;simp[execOp,ha.ev hx,ha.ev hy,resolve,invoke,builtin,gG,Result.andThen,goInt]
theorem ZT{D S:Sv}{x y:Operand}{tx gI e e':TypeId}{cM i b o n:Nat}{cs:Array Value}{T:TypeId}{vs:List Value}(hx:ev env x=some D.val)(hy:ev env y=some S.val)
  (nu:D.nil=false) (oR:D.sp=none) (qD:D.b=b) (sG:D.o+D.len*c=o) (CL:S.nil=false) (CM:S.sp=none) [ht:fq P tx e c cM] (Az:P.underlying gI=some (.slice e')) [hh:Has L b cs T i] (hn:S.len=n) (hv:vs.length=n*c) (oI:D.len+n<=D.cap)
  (nh: ∀w,Mem w0 L w-> ∀j v,vs[j]? =some v->w.cell? ⟨S.b,S.o+j,none⟩=some v) (h1: ∀v∈vs,v.oneCell'=true) (ho:o+vs.length<=cs.size) {cs':Array Value} {L':List aj} (iA:over cs o vs.toArray=cs') [hu:fC L i (ar b cs' T) L']
  {R:Sv} (hR:R=⟨false,b,D.o,D.len+n,D.cap,none⟩) (hk:Sq P N w0 l Q rest (cJ env d R.val) L') (hd:dA N d=true:=by rfl):
  Sq P N w0 l Q (⟨d, .call {callee:= .builtin .append,args:= #[x,y],argTypes:= #[tx,gI]},ty,ps,af,none⟩::rest) env L:=
 oB rfl hd fun aa w ha hw=>by
  subst hR sG qD;rw[Sv.iW nu,oR]at hx;rw[Sv.iW CL,CM,hn]at hy;have hb:=hw.block hh.h;obtain⟨i',z,aZ,aE,bo,dn,nN⟩:=ht.info;have hs:=Src.ofSlice (P:=P) (size:=c) w Az ⟨S.b,S.o,none⟩ n S.cap vs hv (fun j v hj=>by rw[Addr.hH];exact nh w hw j v hj) h1;have br:=run_storeCells_at P D.b (D.o+D.len*c) T vs 0 cs w hb (by simpa using ho) h1;have gG:(Builtin.append_ #[tx,gI] ty #[.slice (some ⟨D.b,D.o,none⟩) D.len D.cap, .slice (some ⟨S.b,S.o,none⟩) n S.cap]).run P w= .ok (.slice (some ⟨D.b,D.o,none⟩) (D.len+n) D.cap) (w.setRow D.b (over cs (D.o+D.len*c) vs.toArray)):=by
   subst bo;rcases hs.kind with⟨e',hk⟩|hk<;>simp[Builtin.append_,run_underlying ht.fc,run_underlying hk,sizeOf,typeInfo,aZ,hs.len,oI,hs.cells,Addr.hH,br,over]
  refine⟨_,_,_,?_,by rw[←hu.h,←iA];exact hw.setRow hh.h _,hk⟩;simp[execOp,ha.ev hx,ha.ev hy,resolve,invoke,builtin,gG,Result.andThen,Sv.val]
theorem ZU{D:Sv}{x y:Operand}{tx gI e:TypeId}{cM k:Nat}{z:Value}{olds:List Value}{kn kq:IntKind}{iy:Int}{p m:Nat}(hp:D.len=p)(hm:p+k=m)(hx:ev env x=some D.val)(hy:ev env y=some (.int kq iy))(nW:iy=(k:Int))(h0:0<k)
  (nu:D.nil=false) (oR:D.sp=none) [ht:fq P tx e c cM] (hc:0<c) [hz:eR P e z] (JX:P.underlying gI=some (.int kn)) (holds:olds.length=D.len*c) (nh: ∀w,Mem w0 L w-> ∀j v,olds[j]? =some v->w.cell? ⟨D.b,D.o+j,none⟩=some v)
  (hg:D.cap<D.len+k) (hb:(D.len+k)*cM<=140737488355328) (jE:D.len+k<=140737488355328)
  (hk: ∀(b C:Nat) (Z:List Value),m<=C->p*c+Z.length=C*c->Sq P N w0 l Q rest (cJ env d (Sv.val ⟨false,b,0,m,C,none⟩)) (ar b (olds++Z).toArray e::L)) (hd:dA N d=true:=by rfl):
  Sq P N w0 l Q (⟨d, .call {callee:= .builtin .append,args:= #[x,y],argTypes:= #[tx,gI]},ty,ps,af,none⟩::rest) env L:=
 oB rfl hd fun aa w ha hw=>by
  subst nW hp hm;rw[Sv.iW nu,oR]at hx;obtain⟨i',z',aZ,aE,bo,dn,nN⟩:=ht.info;subst bo dn;have yp:=nextslicecap_le hg;have ju:Builtin.nextslicecap (D.len+k) D.cap*i'.bytes<=281474976710656:=by
   have h2:Builtin.nextslicecap (D.len+k) D.cap*i'.bytes<=2*(D.len+k)*i'.bytes:=asK _ yp;rw[Nat.mul_assoc]at h2;omega
  have JY:k*i'.bytes<=281474976710656:=by
   have:k*i'.bytes<=(D.len+k)*i'.bytes:=asK _ (by omega);omega
  have hold:=run_firstCells_some (P:=P) w.drew i'.size D.len ⟨D.b,D.o,none⟩ D.len D.cap olds holds (fun j v hj=>by rw[Addr.hH];exact nh w hw j v hj);have gG:=Lib.run_append_grow_zeros (P:=P) w tx gI ty e i' z' kq kn ht.fc JX aZ aE (some ⟨D.b,D.o,none⟩) D.len D.cap olds hold k h0 hc hg (by omega) JY ju;have tN:=grownCap_ge w (D.len+k) D.cap e;generalize grownCap w (D.len+k) D.cap e=C at gG tN;have CN:=size_zeroCells z'.cells k;have FE:=size_zeroCells z'.cells (C -(D.len+k));rw[nN]at CN FE;have hZ:D.len*i'.size+(Builtin.zeroCells z'.cells k++Builtin.zeroCells z'.cells (C -(D.len+k))).toList.length=C*i'.size:=by
   rw[aus,auJ,CN,FE,←asY,←asY];congr 1;omega
  have e1:olds.toArray++Builtin.zeroCells z'.cells k++Builtin.zeroCells z'.cells (C -(D.len+k))=(olds++(Builtin.zeroCells z'.cells k++Builtin.zeroCells z'.cells (C -(D.len+k))).toList).toArray:=by apply ave;simp
  rw[e1]at gG;refine⟨_,_,_,?_,hw.drew.alloc _ e,hk w.heap.size C _ tN hZ⟩;simp[execOp,ha.ev hx,ha.ev hy,resolve,invoke,builtin,gG,Result.andThen,Sv.val]
theorem ZV{D:Sv}{x:Operand}{tx e:TypeId}{cM i b o n:Nat}{z:Value}{cs:Array Value}{T:TypeId}(hx:ev env x=some D.val)(nu:D.nil=false)(oR:D.sp=none)(qD:D.b=b)(sG:D.o=o)(hn:D.len=n)(h0:0<n)[ht:fq P tx e c cM][hz:eR P e z](h1:z.cells.all (·.oneCell')=true)[hh:Has L b cs T i](ho:o+n*c<=cs.size)
  {L':List Value->List aj} [hu: ∀Z,fC L i (ar b (over cs o Z.toArray) T) (L' Z)] (hk: ∀Z:List Value,Z.length=n*c->Sq P N w0 l Q rest env (L' Z)):
  Sq P N w0 l Q (⟨none, .call {callee:= .builtin .clear,args:= #[x],argTypes:= #[tx]},ty,ps,af,none⟩::rest) env L:=
 oB rfl rfl fun aa w ha hw=>by
  rw[Sv.iW nu,oR,qD,sG,hn]at hx;have hb:=hw.block hh.h;obtain⟨i',z',aZ,aE,bo,dn,nN⟩:=ht.info;obtain rfl:z'=z:=by
   have:=hz.zero;rw[aZ,as7,aE]at this;exact aso (aso this)
  subst bo;have hZ:=size_zeroCells z'.cells n;rw[nN]at hZ;have tZ: ∀v∈(Builtin.zeroCells z'.cells n).toList,v.oneCell'=true:=fun v hv=>by
   simp only[Builtin.zeroCells,Array.toList_map,atw]at hv;obtain⟨j,hj,rfl⟩:=hv;have rj:0<z'.cells.size:=by
    rcases atW z'.cells.size with h|h
    ·
     rw[h]at hj;simp at hj
    ·
     exact h
   rw[getElem!_pos z'.cells _ (aun _ rj)];exact(as4.1 h1) _ (Array.getElem_mem _)
  have br:=run_storeCells_at P b o T (Builtin.zeroCells z'.cells n).toList 0 cs w hb (by simp[hZ];omega) tZ;have gG:(Builtin.clear_ #[tx] ty #[.slice (some ⟨b,o,none⟩) n D.cap]).run P w= .ok (.tuple #[]) (w.setRow b (over cs o (Builtin.zeroCells z'.cells n))):=by
   obtain⟨m,rfl⟩: ∃m,n=m+1:=⟨n -1,by omega⟩;simp[Builtin.clear_,run_underlying ht.fc,zeroValue,typeInfo,aZ,aE,br,over]
  refine⟨.tuple #[],w.setRow b (over cs o (Builtin.zeroCells z'.cells n)),L' (Builtin.zeroCells z'.cells n).toList,?_,?_,hk _ (by rw[aus,hZ])⟩
  ·
   simp[execOp,ha.ev hx,resolve,invoke,builtin,gG,Result.andThen]
  ·
   have h9:=hw.setRow hh.h (over cs o (Builtin.zeroCells z'.cells n));rw[←(hu _).h];simpa using h9
def Sv.top(s:Sv)(m:Nat):Sv:=⟨s.nil,s.b,s.o,s.len,m,s.sp⟩
theorem P7{t e:TypeId}{x lo hi mx:Operand}{l h m:Nat}{k k' P8:IntKind}{il ih im:Int}[ht:fj P t e c](hx:ev env x=some s.val)[q:Hd w0 L s enc c xs](hl:ev env lo=some (.int k il))(hh:ev env hi=some (.int k' ih))(hm:ev env mx=some (.int P8 im))(el:il=(l:Int))(eh:ih=(h:Int))(em:im=(m:Int))(h1:l<=h)(h2:h<=m)(h3:m<=xs.length):
  Ry P N w0 env L ⟨d, .slice t x (some lo) (some hi) (some mx),ty,ps,af,gd⟩ ((s.top m).sub c l h).val:=fun a w ha hw=>by
 subst el eh em;have r:=q.h w hw;have hs:=r.ok;have hlen:=r.len;have hle:=hs.le;have ee:=Aa ht.fc;have hu:P.underlying t=some (.slice (P.elem t)):=by rw[ee];exact ht.fc
 obtain⟨ad,len,cap,oD⟩:=s.ex;have e3:len=s.len/\cap=s.cap/\sliced ad l h m c=((s.top m).sub c l h).val:=by
  cases hn:s.nil with
  |true=>
   rw[Sv.tJ hn]at oD;obtain⟨rfl,rfl,rfl⟩:=by simpa using oD
   have:=hs.nil hn;have e2:((s.top m).sub c l h).nil=true:=hn;rw[Sv.tJ e2];have:l=0:=by omega
   have:h=0:=by omega
   have:m=0:=by omega
   subst l h m;exact⟨by omega,by omega,by simp[sliced]⟩
  |false=>
   rw[Sv.iW hn]at oD;obtain⟨rfl,rfl,rfl⟩:=by simpa using oD
   have e2:((s.top m).sub c l h).nil=false:=hn;rw[Sv.iW e2];refine⟨rfl,rfl,?_⟩;simp only[sliced,Sv.sub,Sv.top]
   by_cases hc:m=l
   ·
    simp[hc]
   ·
    have hQ:=hs.sp (by omega);simp[hc,hQ,Addr.hH]
 obtain⟨e1,e2,e3⟩:=e3;have hr:=run_slice_lhm (P:=P) (w:=w) t ad len cap hu k k' P8 (l:Int) (h:Int) (m:Int) (by omega) (by omega) (by omega) (by omega);rw[ee,lR w ht.size]at hr;simp only[Result.andThen,atu,e3]at hr;simp only[execOp,ha.ev hx,ha.ev hl,ha.ev hh,ha.ev hm,oD,as7,run_sliceAt_slice (h:=hu),hr,Sem.run_bind,Result.andThen,Sem.run_pure]
theorem ZW{t e:TypeId}{x:Operand}{m n:Nat}[ht:fj P t e m](hx:ev env x=some s.val)(oQ:s.nil=false)(hn:s.cap=n):
  Ry P N w0 env L ⟨d, .call {callee:= .builtin .cap,args:= #[x],argTypes:= #[t]},ty,ps,af,gd⟩ (.int .i64 n):=fun a w ha _=>by
 subst hn;rw[Sv.iW oQ]at hx;have hu:P.underlying t=some (.slice (P.elem t)):=by rw[Aa ht.fc];exact ht.fc
 have:=run_cap_slice (P:=P) (w:=w) t ty (some ⟨s.b,s.o,s.sp⟩) s.len s.cap hu;simp[execOp,ha.ev hx,resolve,invoke,builtin,this,Result.andThen,goInt]
class P9(P:Program)(f:FuncId)(tS tR:outParam TypeId):Prop where
 fn: ∃fn,P.funcs[f]? =some fn∧(fn.name== "runtime.NumGoroutine")=false∧fn.body.isNone=true∧Extern.findNext fn=none∧Extern.find fn=some (Extern.SlicesOverlaps.overlaps #[tS,tS] #[tR])
theorem Mem.apart{w:World}{i j k:Nat}{e e':aj}(h:Mem w0 L w)(hi:L[i]? =some e)(hj:L[j]? =some e')(nI:i≠j)(hk:e.fp k): ¬e'.fp k:=by
 obtain⟨gi,rfl⟩:=ad2.1 hi;obtain⟨gj,rfl⟩:=ad2.1 hj;have hd:=atz.1 h.pG;rcases avm nI with h1|h1
 ·
  exact hd i j gi gj h1 k hk
 exact fun h2=>hd j i gj gi h1 k h2 hk
theorem ZX{V D:Sv}{x y:Operand}{f:FuncId}{ts:Array TypeId}{tS tR e T:TypeId}{i j b:Nat}{cs:Array Value}(hx:ev env x=some V.val)(hy:ev env y=some D.val)[hf:P9 P f tS tR][ht:fj P tS e c](hc:1<c)[q:fu L V enc c xs i](hv:0<xs.length)[hh:Has L b cs T j](nu:D.nil=false)(oR:D.sp=none)(qD:D.b=b)(iA:0<cs.size)(nI:i≠j:=by decide):
  Ry P N w0 env L ⟨d, .call {callee:= .value (.func f),args:= #[x,y],argTypes:=ts},ty,ps,af,gd⟩ (.bool false):=fun a w ha hw=>by
 obtain⟨r,oG⟩:=hw.get q.h;have JZ:=r.some hv;obtain⟨ZY,cv,Tv,fz,ft,fh,nj,nO⟩:=oG JZ;obtain rfl:=nO hc;have hb:=hw.block hh.h;have bO:V.b≠b:=fun e0=>hw.apart q.h hh.h nI (k:=V.b) ⟨JZ,rfl⟩ e0;subst qD;rw[Sv.iW JZ,ZY]at hx;rw[Sv.iW nu,oR]at hy;obtain⟨fn,h1,h2,h3,h4,h5⟩:=hf.fn;have gG:=Lib.run_overlaps_apart (P:=P) w tS tR e ht.fc c (fun w=>lR w ht.size) ⟨V.b,V.o,none⟩ ⟨D.b,D.o,none⟩ V.len V.cap D.len D.cap bO Tv T cv.size cs.size (by simp[World.shape?,ft]) (by simp[World.shape?,hb]) (by omega) (by simp[World.frozen?,ft]) (by simp[World.frozen?,ft]);have Qa:=run_callFunc_extern (P:=P) h1 h2 h3 h4 h5 #[.slice (some ⟨V.b,V.o,none⟩) V.len V.cap, .slice (some ⟨D.b,D.o,none⟩) D.len D.cap] w;rw[gG]at Qa;have e1:a.eval (.func f)= .func (.func f) #[] #[]:=rfl;simp[execOp,ha.ev hx,ha.ev hy,resolve,e1,Deferred.ofValue,invoke,Qa,Result.andThen]
end
end Go.ax
namespace Go.Kb
def ZZ:Nat:=3988292384
def J0(n:Nat):Nat:=(n/2)^^^(if n%2=1 then ZZ else 0)
theorem aaa{n:Nat}(h:n<2^32):J0 n<2^32:=by
 refine avn (by omega) ?_;split
 ·
  decide
 decide
def oS(n:Nat):Nat->Nat
 |0=>n
 |k+1=>J0 (oS n k)
theorem J1{n:Nat}(h:n<2^32): ∀k,oS n k<2^32
 |0=>h
 |k+1=>aaa (J1 h k)
def J2(n:Nat)(b:UInt8):Nat:=oS (n^^^b.toNat) 8
theorem aab{n:Nat}{b:UInt8}(h:n<2^32):J2 n b<2^32:=J1 (avn h (by have:=b.toNat_lt;omega)) 8
def kT(n:Nat)(l:List UInt8):Nat:=l.foldl J2 n
theorem FF{n:Nat}(h:n<2^32): ∀l,kT n l<2^32
 |[]=>h
 |b::l=>FF (aab h) l
theorem aac{n:Nat}{l:List UInt8}{i:Nat}{b:UInt8}(h:l[i]? =some b):kT n (l.take (i+1))=J2 (kT n (l.take i)) b:=by
 rw[asC,h,kT,kT,auZ];rfl
def kz(l:List UInt8):Nat:=4294967295 -kT 4294967295 l
theorem AA(l:List UInt8):kz l<2^32:=by unfold kz;omega
end Go.Kb
namespace Go.ax
open Go.RowKit
section
variable {α:Type} {enc:α->Array Value} {c:Nat} {s:Sv} {xs:List α}
theorem Mem.Qb{w0 w:World}{L:List aj}{i k:Nat}(hw:Mem w0 L w)(hi:L[i]? =some (own enc c s xs))(hk:k<=xs.length):Mem w0 (L.set i (own enc c (s.sub c 0 k) (xs.take k))) w:=by
 obtain⟨r,oG⟩:=hw.get hi;have r2:=r.sub (lo:=0) (hi:=k) (asO _) hk;rw[atD,avs]at r2;refine hw.change hi (fun k hk=>hk) (fun _ _=>rfl) rfl ⟨rfl,rfl,rfl⟩ ⟨r2,fun hn=>?_⟩;obtain⟨h1,cs,T,fz,h2,h3,h4,h5⟩:=oG hn;refine⟨h1,cs,T,fz,h2,?_,h4,h5⟩;rw[Sv.CK];exact h3
end
section
variable {P:Program} {N:ct} {w0:World} {env:Env} {L:List aj} {Q:Exit->Act->World->Prop} {l rest:List Oper} {d:Option Tmp} {ty:TypeId} {ps:String} {af:Array Edge} {gd:Option (Nat×Bool)}
variable {α:Type} {enc:α->Array Value} {c:Nat} {xs:List α}
theorem Qc{x y:Operand}{tx gI e:TypeId}{cM k:Nat}{z:Value}{kn kq:IntKind}{iy:Int}(x0:α)(hx:ev env x=some (.slice none 0 0))(hy:ev env y=some (.int kq iy))(nW:iy=(k:Int))(h0:0<k)
  [ht:fq P tx e c cM] [he:bm enc c] (hc:0<c) [hz:eR P e z] (Qd:enc x0=z.cells) (JX:P.underlying gI=some (.int kn)) (hb:k*cM<=140737488355328) (jE:k<=140737488355328)
  (hk: ∀b C:Nat,k<=C->Sq P N w0 l Q rest (cJ env d (Sv.val ⟨false,b,0,k,C,none⟩)) (own enc c ⟨false,b,0,k,C,none⟩ (List.replicate k x0)::L)) (hd:dA N d=true:=by rfl):
  Sq P N w0 l Q (⟨d, .call {callee:= .builtin .append,args:= #[x,y],argTypes:= #[tx,gI]},ty,ps,af,none⟩::rest) env L:=
 oB rfl hd fun aa w ha hw=>by
  subst nW;obtain⟨i',z',aZ,aE,bo,dn,nN⟩:=ht.info;obtain rfl:z'=z:=by
   have:=hz.zero;rw[aZ,as7,aE]at this;exact aso (aso this)
  subst bo dn;have gG:=Lib.run_append_nil_zeros (P:=P) w tx gI ty e i' z' kq kn ht.fc JX aZ aE k h0 hc (by omega) (by omega);have tN:=grownCap_ge w k 0 e;generalize grownCap w k 0 e=C at gG tN;have CN:=size_zeroCells z'.cells k;have FE:=size_zeroCells z'.cells (C -k);have aad: ∀m i j,i<m->j<i'.size->(Builtin.zeroCells z'.cells m)[i*i'.size+j]? =z'.cells[j]? :=fun m i j hi hj=>by
   have bc:i*i'.size+j<m*z'.cells.size:=by
    rw[nN];have:(i+1)*i'.size<=m*i'.size:=asK _ hi;rw[asY]at this;omega
   have e1:(i*i'.size+j)%z'.cells.size=j:=by rw[nN,atK,Nat.mul_add_mod];exact as5 hj
   have hz3:j<z'.cells.size:=by omega
   simp[Builtin.zeroCells,bc,e1,hz3]
  refine⟨_,_,_,?_,hw.drew.call (yr (enc:=enc) (c:=i'.size) (xs:=List.replicate k x0) (cs:=Builtin.zeroCells z'.cells k++Builtin.zeroCells z'.cells (C -k)) (e:=e) rfl k C (by simp) tN jE ?_ fun i x hx j hj=>?_),hk _ C tN⟩
  ·
   simp[execOp,ha.ev hx,ha.ev hy,resolve,invoke,builtin,gG,Result.andThen,Sv.val]
  ·
   rw[auJ,CN,FE,nN,←asY];exact asK _ (by omega)
  ·
   have hi:i<k:=by
    have:=(ad2.1 hx).1;simpa using this
   obtain rfl:x0=x:=by rw[auH,if_pos hi]at hx;exact aso hx
   rw[Qd,←aad k i j hi hj,auR];rw[CN,nN];have:(i+1)*i'.size<=k*i'.size:=asK _ hi;rw[asY]at this;omega
theorem FG{t e:TypeId}{x:Operand}{m:Nat}[ht:fj P t e m](hx:ev env x=some (.slice none 0 0)):
  Ry P N w0 env L ⟨d, .call {callee:= .builtin .cap,args:= #[x],argTypes:= #[t]},ty,ps,af,gd⟩ (.int .i64 (0:Nat)):=fun a w ha _=>by
 have hu:P.underlying t=some (.slice (P.elem t)):=by rw[Aa ht.fc];exact ht.fc
 have:=run_cap_slice (P:=P) (w:=w) t ty none 0 0 hu;simp[execOp,ha.ev hx,resolve,invoke,builtin,this,Result.andThen,goInt]
class mD(w0:World)(L:List aj){τ:Type}[Deep τ](xs:List τ):Prop where
 h: ∀w,Mem w0 L w-> ∀x∈xs,Deep.cH (hp w) x
instance mD.nil{τ:Type}[Deep τ]:mD w0 L ([]:List τ):=⟨fun _ _ _ h=>by cases h⟩
instance mD.cons{τ:Type}[Deep τ]{x:τ}{xs:List τ}[a:aU w0 L x][b:mD w0 L xs]:mD w0 L (x::xs):=⟨fun w hw y hy=>by
 rcases asw.1 hy with rfl|hy
 ·
  exact a.h w hw
 exact b.h w hw y hy⟩
instance (priority:=low) aU.flat {τ:Type}[Deep τ][Plain τ]{enc:τ->Array Value}{c:Nat}[fZ τ enc c]{s:Sv}{xs:List τ}[q:cD w0 L enc c s xs]:aU w0 L (⟨s,xs⟩:Sl τ):=⟨fun w hw=>by
 have hl:=q.h w hw;have e1:Deep.cells (τ:=τ)=enc:=funext (fZ.h (c:=c));have e2:Deep.c τ=c:=fZ.hc (enc:=enc);refine⟨?_,fun x _=>Deep.jv _ x (by rw[Plain.h x];exact trivial)⟩;subst e1 e2;exact hl⟩
instance (priority:=low) aU.rows {τ:Type}[Deep τ]{enc:τ->Array Value}{c:Nat}[fZ τ enc c]{s:Sv}{xs:List τ}[q:cD w0 L enc c s xs][g:mD w0 L xs]:aU w0 L (⟨s,xs⟩:Sl τ):=⟨fun w hw=>by
 have hl:=q.h w hw;have e1:Deep.cells (τ:=τ)=enc:=funext (fZ.h (c:=c));have e2:Deep.c τ=c:=fZ.hc (enc:=enc);refine⟨?_,g.h w hw⟩;subst e1 e2;exact hl⟩
theorem J3{τ:Type}[Deep τ]{s:Sv}{xs:List τ}[g:aU w0 L (⟨s,xs⟩:Sl τ)](h: ∀a:Sl τ,a=⟨s,xs⟩->aU w0 L a->Sq P N w0 l Q rest (cJ env d a.sv.val) L):Sq P N w0 l Q rest (cJ env d s.val) L:=h _ rfl g
def jw(l:List (Sl UInt8)):List UInt8:=(l.map Sl.xs).flatten
theorem FH{l:List (Sl UInt8)}{i:Nat}{x:Sl UInt8}(h:l[i]? =some x):jw (l.take (i+1))=jw (l.take i)++x.xs:=by
 rw[jw,asC,h];simp[jw]
theorem aae(l:List (Sl UInt8))(i:Nat):(jw (l.take i)).length<=(jw l).length:=by
 have e:jw l=jw (l.take i)++jw (l.drop i):=by
  unfold jw;rw[←avk,←as0,asR]
 rw[e,af0];omega
end
def rk(l:List UInt8):List UInt8:=l++be (Kb.kz l) 4
def nX(l:List UInt8):Int:=if l.length<4 then 3 else if Kb.kz (l.take (l.length -4))=de (l.drop (l.length -4))then 0 else 4
def cl(l:List UInt8):List UInt8:=if nX l=0 then l.take (l.length -4)else[]
theorem aaf(l:List UInt8): ∀n,l.foldl (fun a b=>a*256+b.toNat) n=n*256^l.length+de l:=by
 induction l with
 |nil=>intro n;simp[de]
 |cons x l ih=>
  intro n;rw[at4,ih,show de (x::l)=l.foldl (fun a b=>a*256+b.toNat) (0*256+x.toNat)from rfl,ih,asm,Nat.pow_succ];simp only[Nat.zero_mul,as3,asY];rw[Nat.mul_assoc n,atK 256,atN]
theorem Qe(x:UInt8)(l:List UInt8):de (x::l)=x.toNat*256^l.length+de l:=by
 rw[show de (x::l)=l.foldl (fun a b=>a*256+b.toNat) (0*256+x.toNat)from rfl,aaf];simp
theorem FI(l:List UInt8):de l<256^l.length:=by
 have:=Jd l l.length (asu _);rwa [asP]at this
theorem Qf(m n:Nat): ∀k,be (m*256^k+n) k=be n k
 |0=>rfl
 |k+1=>by
  have e:m*256^(k+1)+n=(m*256)*256^k+n:=by rw[Nat.pow_succ,Nat.mul_assoc,atK 256]
  rw[be,be,e,Qf (m*256) n k,avh,Nat.add_mul_div_right _ _ (Nat.pow_pos (by decide))];congr 1;apply atT.1;rw[pO,pO];omega
theorem FJ: ∀l:List UInt8,be (de l) l.length=l
 |[]=>rfl
 |x::l=>by
  have h:=FI l;rw[Qe,asm,be,Qf,FJ l,avh,Nat.add_mul_div_right _ _ (Nat.pow_pos (by decide)),Nat.div_eq_of_lt h,as3,EW]
theorem CO(n:Nat): ∀k,de (be n k)=n%256^k
 |0=>by simp[be,de,Nat.mod_one]
 |k+1=>by
  rw[be,Qe,gK,CO n k,pO,Nat.pow_succ,Nat.mod_mul,atK,avh]
theorem aag{l:List UInt8}(h: ¬l.length<4):rk (l.take (l.length -4))=l↔Kb.kz (l.take (l.length -4))=de (l.drop (l.length -4)):=by
 have hd:(l.drop (l.length -4)).length=4:=by simp;omega
 have e:l=l.take (l.length -4)++l.drop (l.length -4):=(asR _ _).symm;constructor
 ·
  intro h1;have h2:be (Kb.kz (l.take (l.length -4))) 4=l.drop (l.length -4):=by
   have h3:l.take (l.length -4)++be (Kb.kz (l.take (l.length -4))) 4=l.take (l.length -4)++l.drop (l.length -4):=by rw[←e];exact h1
   exact List.append_cancel_left h3
  rw[←h2,CO,as5 (atd (Kb.AA _) (by decide))]
 intro h1;have h2:=FJ (l.drop (l.length -4));rw[hd,←h1]at h2;rw[rk,h2,←e]
section
variable {w0:World} {L:List aj} {α:Type} {enc:α->Array Value} {c:Nat} {xs ys:List α} {s t:Sv} {g:Bool}
end
section
variable {P:Program} {N:ct} {w0:World} {env:Env} {L:List aj} {l:List Oper} {Q:Exit->Act->World->Prop} {rest:List Oper} {d:Option Tmp} {ty:TypeId} {ps:String} {af:Array Edge}
end
section
variable {w0:World} {L:List aj} {τ:Type} [Deep τ]
instance (priority:=low) mD.of {a:Sl τ}[q:aU w0 L a]:mD w0 L a.xs:=⟨fun w hw=>(q.h w hw).2⟩
instance mD.append{xs ys:List τ}[a:mD w0 L xs][b:mD w0 L ys]:mD w0 L (xs++ys):=⟨fun w hw x hx=>by
 rcases asz.1 hx with h|h
 ·
  exact a.h w hw x h
 exact b.h w hw x h⟩
end
section
variable {w0:World} {L:List aj} {τ:Type} [Deep τ]
instance mD.take{xs:List τ}{n:Nat}[q:mD w0 L xs]:mD w0 L (xs.take n):=⟨fun w hw x hx=>q.h w hw x (aum hx)⟩
instance mD.drop{xs:List τ}{n:Nat}[q:mD w0 L xs]:mD w0 L (xs.drop n):=⟨fun w hw x hx=>q.h w hw x (avd hx)⟩
class aah(a:Sl τ)(s:outParam Sv)(xs:outParam (List τ)):Prop where
 h:a=⟨s,xs⟩
instance (priority:=low) aU.named {a:Sl τ}{s:Sv}{xs:List τ}[n:aah a s xs][q:aU w0 L (⟨s,xs⟩:Sl τ)]:aU w0 L a:=⟨by rw[n.h];exact q.h⟩
end
class gh(τ:Type)[d:Deep τ] where
 reach:τ->Nat->Prop
 congr: ∀(h h':Nat->Option Obj) (x:τ),(∀k,reach x k->h' k=h k)->d.cH h x->d.cH h' x
theorem dZ.congr{α:Type}{enc:α->Array Value}{c:Nat}{h h':Nat->Option Obj}{s:Sv}{xs:List α}(e:xs≠[]->h' s.b=h s.b)(r:dZ enc c h s xs):dZ enc c h' s xs:=
 ⟨r.ok,r.len,fun i x hi j hj=>by
  have bO:xs≠[]:=fun he=>by rw[he]at hi;simp at hi
  rw[←r.row i x hi j hj];unfold oC;rw[e bO]⟩
@[reducible] def gh.flat {τ:Type}[d:Deep τ](hg: ∀h x,d.cH h x):gh τ:=⟨fun _ _=>False,fun _ h' x _ _=>hg h' x⟩
instance gh.slice{τ:Type}[d:Deep τ][r:gh τ]:gh (Sl τ) where
 reach a k:=(a.xs≠[]/\k=a.sv.b)\/ ∃x∈a.xs,r.reach x k
 congr h h' a e g:=⟨g.1.congr fun bO=>e _ (.inl ⟨bO,rfl⟩),fun x hx=>r.congr h h' x (fun k hk=>e k (.inr ⟨x,hx,hk⟩)) (g.2 x hx)⟩
instance:gh UInt8:=gh.flat fun _ _=>trivial
def fz{τ:Type}[d:Deep τ][r:gh τ](x:τ):aj:=⟨r.reach x,fun h=>d.cH h x,fun h h' e s=>r.congr h h' x e s⟩
section
variable {w0:World} {L:List aj} {τ:Type} [d:Deep τ] [r:gh τ]
instance (priority:=high) aU.frozen {a:τ}{i:Nat}[q:At L (fz a) i]:aU w0 L a:=⟨fun _ hw=>hw.get q.h⟩
theorem Mem.freeze{w:World}{es:List aj}(x:τ)(hg:d.cH (hp w) x)(hr: ∀k,r.reach x k-> ∃e∈es,e.fp k)(h:Mem w0 (es++L) w):Mem w0 (fz x::L) w:=by
 have hd:=auF.1 h.pG;refine⟨h.below,fun e he=>?_,fun e he k hk=>?_,asT.2 ⟨fun y hy k hk kr=>?_,hd.2.1⟩⟩
 ·
  rcases asw.1 he with rfl|he
  ·
   exact hg
  exact h.sat e (asz.2 (.inr he))
 ·
  rcases asw.1 he with rfl|he
  ·
   obtain⟨e',qw,kr⟩:=hr k hk;exact h.jV e' (asz.2 (.inl qw)) k kr
  exact h.jV e (asz.2 (.inr he)) k hk
 obtain⟨e',qw,oJ⟩:=hr k hk;exact hd.2.2 e' qw y hy k oJ kr
theorem Mem.aai{w:World}{e:aj}(x:τ)(hg:d.cH (hp w) x)(hr: ∀k,r.reach x k->e.fp k)(h:Mem w0 (e::L) w):Mem w0 (fz x::L) w:=
 Mem.freeze (es:=[e]) x hg (fun k hk=>⟨e,by simp,hr k hk⟩) h
end
open Go.Kb
section
variable {w0:World} {L:List aj} {τ:Type} [Deep τ] {xs:List τ} {es:List aj}
theorem Mem.yI{w:World}(h:Mem w0 L w):Mem w0 (aj.all []::L) w:=Mem.Cq.2 h
theorem Mem.aaj{w:World}{e:aj}(h:Mem w0 (e::aj.all es::L) w):Mem w0 (aj.all (e::es)::L) w:=Mem.yt.2 h
theorem Mem.Qg{w:World}{s:Sv}{enc:τ->Array Value}{c:Nat}[f:fZ τ enc c][Plain τ](h:Mem w0 (own enc c s xs::L) w):Mem w0 (Deep.bR (⟨s,xs⟩:Sl τ)::L) w:=Tr.EZ.mem h
end
end Go.ax
namespace Go.Kb
structure gw where
 len:Int
 bH:UInt16
 deriving DecidableEq
def gw.no:gw:=⟨0,0⟩
structure Nd where
 FK:List gw
 FL:List Int
 hs:FK.length=16
 hn:FL.length=16
 deriving DecidableEq
def Nd.sl(n:Nd)(b:Nat):gw:=n.FK.getD b gw.no
def Nd.nx(n:Nd)(b:Nat):Int:=n.FL.getD b 0
def Nd.mk'(f:Nat->gw)(g:Nat->Int):Nd:=⟨(List.range 16).map f,(List.range 16).map g,by simp,by simp⟩
def Nd.zero:Nd:=Nd.mk' (fun _=>gw.no) (fun _=>0)
def Nd.w9(n:Nd)(b:Nat)(s:gw):Nd:=⟨n.FK.set b s,n.FL,by simp[n.hs],n.hn⟩
def Nd.xd(n:Nd)(b:Nat)(x:Int):Nd:=⟨n.FK,n.FL.set b x,n.hs,by simp[n.hn]⟩
theorem Nd.lB{f:Nat->gw}{g:Nat->Int}{b:Nat}(h:b<16):(Nd.mk' f g).sl b=f b:=by simp[Nd.sl,Nd.mk',h]
theorem Nd.lC{f:Nat->gw}{g:Nat->Int}{b:Nat}(h:b<16):(Nd.mk' f g).nx b=g b:=by simp[Nd.nx,Nd.mk',h]
theorem Nd.aak{n:Nd}{b:Nat}(h:16<=b):n.sl b=gw.no:=by
 have:=n.hs;rw[Nd.sl,ati,ast (by omega)];rfl
theorem Nd.aal{n:Nd}{b:Nat}(h:16<=b):n.nx b=0:=by
 have:=n.hn;rw[Nd.nx,ati,ast (by omega)];rfl
theorem Nd.Qh(b:Nat):Nd.zero.sl b=gw.no:=by
 rcases asx b 16 with h|h
 ·
  exact Nd.lB h
 exact Nd.aak h
theorem Nd.Qi(b:Nat):Nd.zero.nx b=0:=by
 rcases asx b 16 with h|h
 ·
  exact Nd.lC h
 exact Nd.aal h
theorem Nd.FM{n:Nd}{b c:Nat}{s:gw}(h:b<16):(n.w9 b s).sl c=if b=c then s else n.sl c:=by
 have:=n.hs;simp only[Nd.sl,Nd.w9,ati,atb];split
 ·
  rename_i e;subst e;rw[if_pos (by omega)];rfl
 rfl
theorem Nd.J4{n:Nd}{b c:Nat}{x:Int}(h:b<16):(n.xd b x).nx c=if b=c then x else n.nx c:=by
 have:=n.hn;simp only[Nd.nx,Nd.xd,ati,atb];split
 ·
  rename_i e;subst e;rw[if_pos (by omega)];rfl
 rfl
@[simp] theorem Nd.Qj {n:Nd}{b c:Nat}{s:gw}:(n.w9 b s).nx c=n.nx c:=rfl
@[simp] theorem Nd.Qk {n:Nd}{b c:Nat}{x:Int}:(n.xd b x).sl c=n.sl c:=rfl
theorem Nd.ext'{m n:Nd}(h1: ∀b,b<16->m.sl b=n.sl b)(h2: ∀b,b<16->m.nx b=n.nx b):m=n:=by
 obtain⟨a,b,ha,hb⟩:=m;obtain⟨c,d,hc,hd⟩:=n;have e1:a=c:=atj fun i=>by
  rcases asx i 16 with hi|hi
  ·
   have:=h1 i hi;simp only[Nd.sl,ati]at this;rw[asr (by omega),asr (by omega)]at this⊢;simpa using this
  rw[ast (by omega),ast (by omega)]
 have e2:b=d:=atj fun i=>by
  rcases asx i 16 with hi|hi
  ·
   have:=h2 i hi;simp only[Nd.nx,ati]at this;rw[asr (by omega),asr (by omega)]at this⊢;simpa using this
  rw[ast (by omega),ast (by omega)]
 subst e1;subst e2;rfl
def sH(k:Key)(n b:Nat):Key:=if n%2=0 then Am k (n/2) (16*b%256)else Am k (n/2) ((bk k (n/2)+b)%256)
def bK(p:bt):Nat:=((p.len -1)/4).toNat
structure Wy where
 steps:Nat
 key:Key
 deriving DecidableEq
def c8(k:Key)(s:Nat):Wy:=⟨s,dU k ((4*s:Nat):Int)⟩
def root:Wy:=⟨0,0#128⟩
theorem AB(k:Key):c8 k 0=root:=by rw[c8,root,Fc _ _ (by decide)]
def child(w:Wy)(b:Nat):Wy:=⟨w.steps+1,sH w.key w.steps b⟩
def j6(W:List Wy)(w:Wy):List Wy:=if w∈W then W else W++[w]
def dN(W:List Wy)(p:bt)(n:Nat):List Wy:=(List.range n).foldl (fun W i=>j6 W (c8 p.key (i+1))) W
def nY(W:List Wy)(r:Rt)(bits:Int):List Wy:=if r.p.bits=bits then dN W r.p (bK r.p)else W
def lD(bits:Int)(t:List Rt):List Wy:=t.foldl (fun W r=>nY W r bits) [root]
def hit(r:Rt)(bits:Int)(w:Wy)(b:Nat):Bool:=decide (r.p.bits=bits)&&decide (bK r.p=w.steps)&&Jq r.p (sH w.key w.steps b)
def yJ(bits:Int)(w:Wy)(b:Nat)(s:gw)(r:Rt):gw:=if hit r bits w b=true/\s.len<=r.p.len then⟨r.p.len+1,r.bH⟩else s
def nv(bits:Int)(R:List Rt)(w:Wy)(b:Nat):gw:=R.foldl (yJ bits w b) gw.no
def rl(W:List Wy)(w:Wy)(b:Nat):Int:=if child w b∈W then(W.idxOf (child w b):Nat)else 0
def hY(bits:Int)(W:List Wy)(R:List Rt)(w:Wy):Nd:=Nd.mk' (nv bits R w) (rl W w)
theorem J5(W:List Wy)(p:bt):dN W p 0=W:=rfl
theorem vo(W:List Wy)(p:bt)(n:Nat):dN W p (n+1)=j6 (dN W p n) (c8 p.key (n+1)):=by simp[dN,atq]
theorem J6(bits:Int)(t:List Rt)(r:Rt):lD bits (t++[r])=nY (lD bits t) r bits:=by simp[lD]
theorem J7(bits:Int)(R:List Rt)(r:Rt)(w:Wy)(b:Nat):nv bits (R++[r]) w b=yJ bits w b (nv bits R w b) r:=by simp[nv]
theorem AD{k:Key}{n b:Nat}(hn:n<32)(hb:b<16)(hk:dU k ((4*n:Nat):Int)=k)(i:Nat)(hi:i<128):
  (sH k n b).getMsbD i=if i<4*n then k.getMsbD i else if i<4*n+4 then b.testBit (4*n+3 -i)else false:=by
 have hz: ∀j,j<128->4*n<=j->k.getMsbD j=false:=fun j hj h=>(Fe k _).1 hk j hj (by omega);have qE: ∀(x:Nat),x<256->(Am k (n/2) x).getMsbD i=if i/8=n/2 then x.testBit (7 -i%8)else k.getMsbD i:=fun x hx=>by
  rw[vf _ i hi,Jo k _ x _ (by omega) hx];split
  ·
   rfl
  ·
   rw[vf k i hi]
 unfold sH;split
 ·
  rename_i he;rw[qE _ (by omega)]
  by_cases h1:i/8=n/2
  ·
   rw[if_pos h1,if_neg (by omega)];have e:16*b%256=b*2^4:=by omega
   rw[e,Nat.testBit_mul_two_pow]
   by_cases h2:i<4*n+4
   ·
    rw[if_pos h2,decide_eq_true (by omega),ath];congr 1;omega
   ·
    rw[if_neg h2,decide_eq_false (by omega),auG]
  ·
   rw[if_neg h1]
   by_cases h2:i<4*n
   ·
    rw[if_pos h2]
   ·
    rw[if_neg h2,if_neg (by omega)];exact hz i hi (by omega)
 ·
  rename_i ho;have an6:bk k (n/2)%16=0:=by
   have: ∀j,(bk k (n/2)%2^4).testBit j=false:=fun j=>by
    rw[Nat.testBit_mod_two_pow]
    by_cases hj:j<4
    ·
     have:=vf k (8*(n/2)+(7 -j)) (by omega);rw[show(8*(n/2)+(7 -j))/8=n/2 by omega,show 7 -(8*(n/2)+(7 -j))%8=j by omega,hz _ (by omega) (by omega)]at this;simp[←this]
    ·
     simp[hj]
   have:=auX (x:=bk k (n/2)%2^4) (y:=0) (fun j=>by rw[this j];simp);simpa using this
  have bc:=jG k (n/2);have e:(bk k (n/2)+b)%256=bk k (n/2)|||b:=by
   obtain⟨q,hq⟩: ∃q,bk k (n/2)=2^4*q:=⟨bk k (n/2)/16,by omega⟩;rw[hq,←Nat.two_pow_add_eq_or_of_lt (i:=4) (by omega) q];omega
  rw[qE _ (by omega),e]
  by_cases h1:i/8=n/2
  ·
   rw[if_pos h1,Nat.testBit_or];have hm:=vf k i hi;rw[h1]at hm;rw[←hm]
   by_cases h2:i<4*n
   ·
    rw[if_pos h2,aug (x:=b) (atd (show b<2^4 by omega) (atv (by decide) (by omega)))];simp
   ·
    rw[if_neg h2,if_pos (by omega),hz i hi (by omega),au0];congr 1;omega
  ·
   rw[if_neg h1]
   by_cases h2:i<4*n
   ·
    rw[if_pos h2]
   ·
    rw[if_neg h2,if_neg (by omega)];exact hz i hi (by omega)
def gM(k:Key)(n:Nat):Nat:=(je k n).toNat
theorem vp(k:Key)(n:Nat):gM k n<16:=by
 unfold gM je;have h1:=wP k (4*n);have h2:=wP k (4*n+1);have h3:=wP k (4*n+2);have h4:=wP k (4*n+3);split<;>omega
theorem CP(k:Key)(n:Nat):je k n=(gM k n:Int):=by
 unfold gM je;have h1:=wP k (4*n);have h2:=wP k (4*n+1);have h3:=wP k (4*n+2);have h4:=wP k (4*n+3);split<;>omega
theorem CQ(k:Key)(n j:Nat)(hn:n<32)(hj:j<4):(gM k n).testBit j=k.getMsbD (4*n+3 -j):=by
 have e:=CP k n;rw[je,if_pos (by omega)]at e;have b0:=Ff k (4*n);have b1:=Ff k (4*n+1);have b2:=Ff k (4*n+2);have b3:=Ff k (4*n+3);simp only[Int.natCast_add,Int.natCast_mul,Int.cast_ofNat_Int]at b0 b1 b2 b3;rw[b0,b1,b2,b3]at e;have key: ∀(a0 a1 a2 a3:Bool) (x:Nat),(8*(if a0 then 1 else 0)+4*(if a1 then 1 else 0)+2*(if a2 then 1 else 0)+(if a3 then 1 else 0):Int)=(x:Int)->x.testBit 0=a3/\x.testBit 1=a2/\x.testBit 2=a1/\x.testBit 3=a0:=by
  intro a0 a1 a2 a3 x hx;have qC:x=(8*(if a0 then 1 else 0)+4*(if a1 then 1 else 0)+2*(if a2 then 1 else 0)+(if a3 then 1 else 0):Nat):=by
   cases a0<;>cases a1<;>cases a2<;>cases a3<;>simp at hx⊢ <;>omega
  subst qC
  cases a0<;>cases a1<;>cases a2<;>cases a3<;>decide
 obtain⟨h0,h1,h2,h3⟩:=key _ _ _ _ _ e
 match j,hj with
 |0,_=>exact h0
 |1,_=>exact h1
 |2,_=>exact h2
 |3,_=>exact h3
theorem aam{x y:Nat}(hx:x<16)(hy:y<16)(h: ∀j,j<4->x.testBit j=y.testBit j):x=y:=by
 refine auX fun j=>?_;rcases asx j 4 with hj|hj
 ·
  exact h j hj
 have hp:2^4<=2^j:=atv (by decide) hj;rw[aug (atd hx hp),aug (atd hy hp)]
theorem AE(k:Key)(n i:Nat):(dU k (n:Int)).getMsbD i=(decide (i<n)&&k.getMsbD i):=by
 rw[tW];congr 1;simp
section
variable {k:Key} {n b:Nat}
theorem Ql(hn:n<32)(hb:b<16)(hk:dU k ((4*n:Nat):Int)=k):gM (sH k n b) n=b:=
 aam (vp _ _) hb fun j hj=>by
  rw[CQ _ _ _ hn hj,AD hn hb hk _ (by omega),if_neg (by omega),if_pos (by omega)];congr 1;omega
theorem FN(hn:n<32)(hb:b<16)(hk:dU k ((4*n:Nat):Int)=k):dU (sH k n b) ((4*n:Nat):Int)=k:=
 wO fun i hi=>by
  have h2:=AE k (4*n) i;rw[hk]at h2;rw[AE,AD hn hb hk i hi]
  by_cases h:i<4*n
  ·
   simp[h]
  simp[h]at h2⊢;exact h2
theorem Qm(hn:n<32)(hb:b<16)(hk:dU k ((4*n:Nat):Int)=k):dU (sH k n b) ((4*(n+1):Nat):Int)=sH k n b:=
 wO fun i hi=>by
  rw[AE,AD hn hb hk i hi]
  by_cases h:i<4*(n+1)
  ·
   simp[h]
  rw[if_neg (by omega),if_neg (by omega)];simp
end
theorem Qn(k:Key)(n m:Nat):dU (dU k (n:Int)) (m:Int)=dU k ((min n m:Nat):Int):=by
 rw[Pa];congr 1;omega
theorem CR(k:Key)(s:Nat):dU (c8 k s).key ((4*s:Nat):Int)=(c8 k s).key:=by
 simp only[c8];rw[Qn,Nat.min_self]
theorem FO(k:Key)(n:Nat)(hn:n<32):child (c8 k n) (gM k n)=c8 k (n+1):=by
 have e:sH (dU k ((4*n:Nat):Int)) n (gM k n)=dU k ((4*(n+1):Nat):Int):=wO fun i hi=>by
  have hm:=AD (k:=dU k ((4*n:Nat):Int)) hn (vp k n) (CR k n) i hi;rw[hm,AE,AE]
  by_cases h:i<4*n
  ·
   simp[h,show i<4*(n+1) by omega]
  rw[if_neg h]
  by_cases h2:i<4*n+4
  ·
   rw[if_pos h2,CQ _ _ _ hn (by omega),decide_eq_true (show i<4*(n+1) by omega),ath];congr 1;omega
  rw[if_neg h2,decide_eq_false (show ¬i<4*(n+1) by omega),auG]
 simp only[child,c8,e]
def Wy.ok(w:Wy):Prop:=w.steps<32/\dU w.key ((4*w.steps:Nat):Int)=w.key
theorem Qo{w v:Wy}{b c:Nat}(hw:w.ok)(hv:v.ok)(hb:b<16)(hc:c<16)(e:child w b=child v c):w=v/\b=c:=by
 obtain⟨ws,wk⟩:=w;obtain⟨vs,vk⟩:=v;simp only[child,Wy.mk.injEq]at e;obtain⟨e1,e2⟩:=e;have e3:ws=vs:=by omega
 subst e3;have h1:=FN hw.1 hb hw.2;have h2:=Ql hw.1 hb hw.2;simp only at h1 h2;rw[e2,Ql hv.1 hc hv.2]at h2;rw[e2,FN hv.1 hc hv.2]at h1;have FP:vk=wk:=h1;exact⟨by rw[FP],h2.symm⟩
theorem aan(k:Key)(s:Nat)(h:s<32):(c8 k s).ok:=⟨h,CR k s⟩
theorem Qp(k:Key)(s n:Nat)(h:s<=n):c8 (c8 k n).key s=c8 k s:=by
 simp only[c8];rw[Qn,Nat.min_eq_right (by omega)]
theorem aao:root.ok:=⟨by decide,by rw[root];exact Fc _ _ (by decide)⟩
theorem aap{W:List Wy}{w v:Wy}:v∈j6 W w↔v∈W\/v=w:=by
 unfold j6;split
 ·
  rename_i h;exact⟨.inl,fun| .inl h=>h| .inr e=>e▸h⟩
 simp
theorem Qq{W:List Wy}{w:Wy}(h:W.Nodup):(j6 W w).Nodup:=by
 unfold j6;split
 ·
  exact h
 rename_i hw;rw[at6];exact⟨h,by simp,fun a ha b hb=>by simp at hb;subst hb;intro e;subst e;exact hw ha⟩
theorem Qr{W:List Wy}{w:Wy}:W<+:j6 W w:=by
 unfold j6;split
 ·
  exact auY
 exact List.prefix_append _ _
theorem vq{W:List Wy}{p:bt}{v:Wy}: ∀{n:Nat},v∈dN W p n↔v∈W\/ ∃s,1<=s/\s<=n/\v=c8 p.key s
 |0=>by simp[J5];omega
 |n+1=>by
  rw[vo,aap,vq (n:=n)];constructor
  ·
   rintro((h|⟨s,h1,h2,h3⟩)|h)
   ·
    exact .inl h
   ·
    exact .inr ⟨s,h1,by omega,h3⟩
   exact .inr ⟨n+1,by omega,by omega,h⟩
  rintro(h|⟨s,h1,h2,h3⟩)
  ·
   exact .inl (.inl h)
  rcases asx n s with h4|h4
  ·
   obtain rfl:s=n+1:=by omega
   exact .inr h3
  exact .inl (.inr ⟨s,h1,h4,h3⟩)
theorem Qs{W:List Wy}{p:bt}(h:W.Nodup): ∀n,(dN W p n).Nodup
 |0=>h
 |n+1=>by rw[vo];exact Qq (Qs h n)
theorem FQ{W:List Wy}{p:bt}: ∀n,W<+:dN W p n
 |0=>auY
 |n+1=>by rw[vo];exact(FQ n).trans Qr
theorem aaq{W:List Wy}{p:bt}{n m:Nat}(h:n<=m):dN W p n<+:dN W p m:=by
 induction m with
 |zero=>obtain rfl:n=0:=by omega
        exact auY
 |succ m ih=>
  rcases asx m n with h'|h'
  ·
   obtain rfl:n=m+1:=by omega
   exact auY
  rw[vo];exact(ih h').trans Qr
theorem Qu{W:List Wy}{r:Rt}{bits:Int}:W<+:nY W r bits:=by
 unfold nY;split
 ·
  exact FQ _
 exact auY
structure jg(W:List Wy):Prop where
 nodup:W.Nodup
 root:W[0]? =some root
 ok: ∀w∈W,w.ok
 up: ∀w∈W,∀s,s<=w.steps->c8 w.key s∈W
 ord: ∀(i:Nat) (w:Wy),W[i]? =some w-> ∀s,s<w.steps-> ∃j,j<i/\W[j]? =some (c8 w.key s)
theorem jg.ne{W:List Wy}(h:jg W):0<W.length:=by
 have:=h.root;rcases atW W.length with e|e
 ·
  rw[ast (by omega)]at this;simp at this
 exact e
theorem jg.one:jg [Kb.root]:=⟨by simp,rfl,fun w hw=>by simp at hw;subst hw;exact aao,fun w hw s hs=>by
 simp at hw;subst hw;have:s=0:=by simpa[Kb.root]using hs
 subst this;rw[AB];simp,fun i w hi s hs=>by
 have hw:=anc hi;simp at hw;subst hw;exact absurd hs (by simp[Kb.root])⟩
theorem jg.add{W:List Wy}(h:jg W){p:bt}: ∀{n:Nat},n<32->jg (dN W p n)
 |0,_=>h
 |n+1,hn=>by
  have ih:=h.add (p:=p) (n:=n) (by omega);refine⟨Qs h.nodup _,?_,fun w hw=>?_,fun w hw s hs=>?_,fun i w hi s hs=>?_⟩
  ·
   have:=FQ (W:=W) (p:=p) (n+1);obtain⟨t,ht⟩:=this;rw[←ht,asG h.ne];exact h.root
  ·
   rcases vq.1 hw with hw|⟨s,h1,h2,rfl⟩
   ·
    exact h.ok w hw
   exact aan _ _ (by omega)
  ·
   rcases vq.1 hw with hw|⟨s',h1,h2,rfl⟩
   ·
    exact vq.2 (.inl (h.up w hw s hs))
   have zL:s<=s':=hs;rw[Qp _ _ _ zL];rcases atW s with e|e
   ·
    subst e;rw[AB];exact vq.2 (.inl (anc h.root))
   exact vq.2 (.inr ⟨s,e,by omega,rfl⟩)
  rw[vo]at hi⊢;unfold j6 at hi⊢;split at hi
  ·
   rename_i hm;rw[if_pos hm];exact ih.ord i w hi s hs
  rename_i hm;rw[if_neg hm];rcases asx i (dN W p n).length with bc|hge
  ·
   rw[asG bc]at hi;obtain⟨j,hj,e⟩:=ih.ord i w hi s hs;exact⟨j,hj,by rw[asG (by omega)];exact e⟩
  have aE:=(ad2.1 hi).1;simp only[af0,asm,asn]at aE;obtain rfl:i=(dN W p n).length:=by omega
  rw[asA (asu _),atS,List.getElem?_cons_zero]at hi;obtain rfl:=aso hi;have zL:s<n+1:=hs;have kx:c8 p.key s∈dN W p n:=by
   rcases atW s with e|e
   ·
    subst e;rw[AB];exact anc ih.root
   exact vq.2 (.inr ⟨s,e,by omega,rfl⟩)
  obtain⟨j,hj⟩:=atP.1 kx;have iu:=(ad2.1 hj).1;exact⟨j,iu,by rw[Qp _ _ _ (by omega),asG iu];exact hj⟩
theorem FR{p:bt}(h:bw p=true):bK p<32:=by
 obtain⟨h1,h2,h3,_⟩:=(wR p).1 h;unfold bK;omega
theorem jg.nY{W:List Wy}(h:jg W){r:Rt}{bits:Int}(hr:bw r.p=true):jg (nY W r bits):=by
 unfold Kb.nY;split
 ·
  exact h.add (FR hr)
 exact h
theorem Qv{bits:Int}: ∀{t:List Rt} {W:List Wy},jg W->(∀r∈t,bw r.p=true)->jg (t.foldl (fun W r=>Kb.nY W r bits) W)
 |[],_,h,_=>h
 |r::t,_,h,ha=>Qv (t:=t) (h.nY (ha r (by simp))) fun x hx=>ha x (by simp[hx])
theorem aar{bits:Int}{t:List Rt}(h: ∀r∈t,bw r.p=true):jg (lD bits t):=Qv jg.one h
def vr(bits:Int)(W:List Wy)(R:List Rt):Prop:= ∀r∈R,r.p.bits=bits-> ∀s,1<=s->s<=bK r.p->c8 r.p.key s∈W
theorem Qw{W:List Wy}{w:Wy}(h:w∈W):W[W.idxOf w]? =some w:=by
 have hl:=List.idxOf_lt_length_iff.2 h;rw[asr hl,List.getElem_idxOf]
theorem aas{W:List Wy}{w:Wy}(h:w∈W):W.idxOf w<W.length:=List.idxOf_lt_length_iff.2 h
theorem J8{W:List Wy}(hn:W.Nodup){i:Nat}{w:Wy}(h:W[i]? =some w):W.idxOf w=i:=by
 obtain⟨hi,rfl⟩:=ad2.1 h;exact List.Nodup.idxOf_getElem hn i hi
theorem get_inj{W:List Wy}(hn:W.Nodup){i j:Nat}{w:Wy}(h:W[i]? =some w)(h':W[j]? =some w):i=j:=by
 rw[←J8 hn h,J8 hn h']
def vt(ns:List Nd)(node four:Nat):Bool:=decide (0<(ns.getD node Nd.zero).nx four)||decide (ns.length<512)
def vu(ns:List Nd)(node four:Nat):Int:=if 0<(ns.getD node Nd.zero).nx four then(ns.getD node Nd.zero).nx four else if 512<=ns.length then 0 else ns.length
def vw(ns:List Nd)(node four:Nat):List Nd:=if 0<(ns.getD node Nd.zero).nx four\/512<=ns.length then ns else(ns++[Nd.zero]).set node ((ns.getD node Nd.zero).xd four ns.length)
def nodes(bits:Int)(W:List Wy)(R:List Rt):List Nd:=W.map (hY bits W R)
@[simp] theorem AF (bits:Int)(W:List Wy)(R:List Rt):(nodes bits W R).length=W.length:=by simp[nodes]
theorem FT{bits:Int}{W:List Wy}{R:List Rt}{i:Nat}{w:Wy}(h:W[i]? =some w):(nodes bits W R)[i]? =some (hY bits W R w):=by simp[nodes,h]
theorem Qx{bits:Int}{W:List Wy}{R:List Rt}{i:Nat}{w:Wy}(h:W[i]? =some w):(nodes bits W R).getD i Nd.zero=hY bits W R w:=by
 rw[ati,FT h];rfl
theorem AG{W:List Wy}(hW:jg W){w:Wy}{b:Nat}:0<rl W w b↔child w b∈W:=by
 unfold rl;split
 ·
  rename_i h;refine⟨fun _=>h,fun _=>?_⟩;rcases atW (W.idxOf (child w b))with e|e
  ·
   have h1:=Qw h;rw[e,hW.root]at h1;have:=congrArg Wy.steps (aso h1);simp[child,root]at this
  exact_mod_cast e
 rename_i h;exact⟨fun h'=>absurd h' (by decide),fun h'=>absurd h' h⟩
theorem aat{bits:Int}{w:Wy}{b:Nat}: ∀{R:List Rt},(∀r∈R,hit r bits w b=false)->nv bits R w b=gw.no:=by
 intro R
 suffices h: ∀(R:List Rt) (s:gw),(∀r∈R,hit r bits w b=false)->R.foldl (yJ bits w b) s=s from fun hR=>h R _ hR
 intro R
 induction R with
 |nil=>intro s _;rfl
 |cons r R ih=>
  intro s hR;rw[at4,yJ,if_neg (by rw[hR r (by simp)];simp)];exact ih s fun x hx=>hR x (by simp[hx])
theorem Qy{r:Rt}{bits:Int}{w:Wy}{b:Nat}(hw:w.ok)(hb:b<16)(h:hit r bits w b=true)(hl:0<r.p.len):w=c8 r.p.key w.steps:=by
 simp only[hit,alM,decide_eq_true_eq]at h;obtain⟨⟨h1,h2⟩,h3⟩:=h;obtain⟨_,_,h4⟩:=(Jr _ _).1 h3;have hle:4*(w.steps:Int)<=r.p.len:=by rw[←h2];unfold bK;omega
 obtain⟨s,k⟩:=w;have hk:=FN hw.1 hb hw.2;simp only at hk h4 hle⊢;rw[c8,←h4,Pa,show min r.p.len ((4*s:Nat):Int)=((4*s:Nat):Int) by omega,hk]
theorem Qz{p:bt}(h:p.len<=0):bK p=0:=by unfold bK;omega
theorem aau{bits:Int}{W:List Wy}{R:List Rt}(hh:vr bits W R){w:Wy}{b:Nat}(hw:w.ok)(hb:b<16)(hs:0<w.steps)(hn:w∉W):nv bits R w b=gw.no:=
 aat fun r hr=>by
  cases he:hit r bits w b with
  |false=>rfl
  |true=>
   have h':=he;simp only[hit,alM,decide_eq_true_eq]at h';obtain⟨⟨h1,h2⟩,h3⟩:=h';have hl:0<r.p.len:=by
    rcases Int.lt_or_le 0 r.p.len with h|h
    ·
     exact h
    rw[Qz h]at h2;omega
   have e:=Qy hw hb he hl;exact absurd (e▸hh r hr h1 w.steps hs (by omega)) hn
section
variable {bits:Int} {W:List Wy} {R:List Rt} {w:Wy} {node b:Nat}
theorem J9(hw:W[node]? =some w)(hb:b<16):((nodes bits W R).getD node Nd.zero).nx b=rl W w b:=by
 rw[Qx hw,hY,Nd.lC hb]
theorem aav(hW:jg W)(hw:W[node]? =some w)(hb:b<16)(hl:W.length<=512):vt (nodes bits W R) node b=decide ((j6 W (child w b)).length<=512):=by
 rw[vt,J9 hw hb,AF]
 by_cases h:child w b∈W
 ·
  rw[decide_eq_true ((AG hW).2 h),Bool.true_or,j6,if_pos h,decide_eq_true hl]
 rw[decide_eq_false (fun h'=>h ((AG hW).1 h')),au0,j6,if_neg h,af0];simp;omega
theorem aaw(hW:jg W)(hw:W[node]? =some w)(hb:b<16)(hl:(j6 W (child w b)).length<=512):vu (nodes bits W R) node b=((j6 W (child w b)).idxOf (child w b):Nat):=by
 rw[vu,J9 hw hb,AF]
 by_cases h:child w b∈W
 ·
  rw[if_pos ((AG hW).2 h),j6,if_pos h,rl,if_pos h]
 rw[j6,if_neg h,af0]at hl;simp only[asm,asn]at hl;rw[if_neg (fun h'=>h ((AG hW).1 h')),if_neg (by omega),j6,if_neg h,List.idxOf_append,if_neg h];simp
theorem aax(hW:jg W)(hw:W[node]? =some w)(hb:b<16)(hs:w.steps<31)(hh:vr bits W R)(hl:(j6 W (child w b)).length<=512):vw (nodes bits W R) node b=nodes bits (j6 W (child w b)) R:=by
 have Ka:=anc hw;have FU:=hW.ok w Ka;rw[vw,J9 hw hb,AF,Qx hw]
 by_cases h:child w b∈W
 ·
  rw[if_pos (.inl ((AG hW).2 h)),j6,if_pos h]
 rw[j6,if_neg h]at hl;simp only[af0,asm,asn]at hl;rw[if_neg (by rw[AG hW];intro h';rcases h' with h'|h';exact h h';omega),j6,if_neg h]
 have CI:(child w b).ok:=⟨by simp only[child];omega,Qm (by omega) hb FU.2⟩;have cC:(W++[child w b]).Nodup:=by have:=Qq (w:=child w b) hW.nodup;rwa [j6,if_neg h]at this
 have nlt:node<W.length:=(ad2.1 hw).1;refine atj fun i=>?_;rcases ava i W.length with hi|hi|hi
 ·
  obtain⟨v,hv⟩: ∃v,W[i]? =some v:=⟨W[i],by simp[hi]⟩;have hvm:=anc hv;have e2:(W++[child w b])[i]? =some v:=by rw[asG hi];exact hv
  rw[FT e2,atb];have nx: ∀c,c<16->rl (W++[child w b]) v c=if child v c=child w b then(W.length:Int)else rl W v c:=fun c hc=>by
   unfold rl
   by_cases h1:child v c=child w b
   ·
    rw[if_pos (by rw[h1];simp),if_pos h1,h1,List.idxOf_append,if_neg h];simp
   rw[if_neg h1]
   by_cases h2:child v c∈W
   ·
    rw[if_pos (by simp[h2]),if_pos h2,List.idxOf_append,if_pos h2]
   rw[if_neg (by simp[h1,h2]),if_neg h2]
  split
  ·
   rename_i e;subst e;rw[if_pos (by simp;omega)];obtain rfl:w=v:=aso (hw.symm.trans hv);refine congrArg some (Nd.ext' (fun c hc=>?_) fun c hc=>?_)
   ·
    rw[Nd.Qk,hY,hY,Nd.lB hc,Nd.lB hc]
   rw[Nd.J4 hb,hY,hY,Nd.lC hc,Nd.lC hc,nx c hc]
   by_cases AH:b=c
   ·
    subst AH;rw[if_pos rfl,if_pos rfl]
   rw[if_neg AH,if_neg fun e=>AH (Qo FU FU hc hb e).2.symm]
  rename_i e;rw[asG (by simpa using hi),FT hv];refine congrArg some (Nd.ext' (fun c hc=>?_) fun c hc=>?_)
  ·
   rw[hY,hY,Nd.lB hc,Nd.lB hc]
  rw[hY,hY,Nd.lC hc,Nd.lC hc,nx c hc,if_neg fun e'=>?_];obtain⟨rfl,_⟩:=Qo (hW.ok v hvm) FU hc hb e';exact e (get_inj hW.nodup hw hv)
 ·
  have e2:(W++[child w b])[i]? =some (child w b):=by rw[hi];simp
  rw[FT e2,atb,if_neg (by omega),asA (by simp[hi])];simp only[AF,hi,atS,List.getElem?_cons_zero];refine congrArg some (Nd.ext' (fun c hc=>?_) fun c hc=>?_)
  ·
   rw[Nd.Qh,hY,Nd.lB hc,aau hh CI hc (by simp[child]) h]
  rw[Nd.Qi,hY,Nd.lC hc,rl,if_neg];intro hm;rcases asz.1 hm with hm|hm
  ·
   have:=hW.up _ hm (w.steps+1) (by simp only[child];omega);refine h ?_;have e3:c8 (child (child w b) c).key (w.steps+1)=child w b:=by
    have:=FN (k:=(child w b).key) (n:=w.steps+1) (b:=c) CI.1 hc CI.2;simp only[child,c8]at this⊢;rw[this]
   rwa [e3]at this
  have:=congrArg Wy.steps (as6.1 hm);simp[child]at this
 rw[ast (by simp;omega),ast (by simp;omega)]
end
def lV(p:bt):Nat:=(4 -(p.len -4*(bK p:Int))).toNat
theorem CS{p:bt}(h:bw p=true):lV p<=4/\(p.len:Int)=4*(bK p:Int)+4 -(lV p:Int):=by
 obtain⟨_,h2,h3,_⟩:=(wR p).1 h;unfold lV bK;omega
theorem aay{x y e:Nat}(hx:x<16)(hy:y<16)(he:e<=4)(h0:x%2^e=0):(x<=y/\y<x+2^e)↔ ∀j,e<=j->j<4->y.testBit j=x.testBit j:=by
 have hp:0<2^e:=Nat.two_pow_pos e;have hq:=auv x (2^e);have hr:=auv y (2^e);have hm:=aun y hp;have key:(x<=y/\y<x+2^e)↔y/2^e=x/2^e:=by
  constructor
  ·
   rintro⟨h1,h2⟩;apply Nat.le_antisymm
   ·
    apply Nat.le_of_lt_succ;apply avf;rw[Nat.mul_succ];omega
   exact Nat.div_le_div_right h1
  intro h;rw[h]at hr;omega
 rw[key];constructor
 ·
  intro h j h1 h2;have:=congrArg (fun z=>z.testBit (j -e)) h;simp only[auI]at this;rwa [show j -e+e=j by omega]at this
 intro h;refine auX fun j=>?_;rw[auI,auI];rcases asx (j+e) 4 with hj|hj
 ·
  exact h _ (by omega) hj
 have hp:2^4<=2^(j+e):=atv (by decide) hj;rw[aug (atd hx hp),aug (atd hy hp)]
theorem QA{p:bt}(h:bw p=true):gM p.key (bK p)%2^lV p=0:=by
 obtain⟨h1,h2⟩:=CS h;have hb:=(Fg p).1 h;have hl:=FR h;refine auX fun j=>?_;rw[Nat.testBit_mod_two_pow,Nat.zero_testBit]
 by_cases hj:j<lV p
 ·
  rw[CQ _ _ _ hl (by omega),hb.2.2.2 _ (by omega) (by omega)];simp
 simp[hj]
theorem QB{p:bt}(h:bw p=true):gM p.key (bK p)+2^lV p<=16:=by
 have h0:=QA h;have bc:=vp p.key (bK p);obtain⟨h1,_⟩:=CS h;have:=auv (gM p.key (bK p)) (2^lV p);generalize gM p.key (bK p)=x at*;generalize lV p=e at*
 match e,h1 with
 |0,_=>simp;omega
 |1,_=>simp at*;omega
 |2,_=>simp at*;omega
 |3,_=>simp at*;omega
 |4,_=>simp at*;omega
theorem FW{r:Rt}{bits:Int}{w:Wy}{b:Nat}(hr:bw r.p=true)(QC:r.p.bits=bits)(hw:w.ok)(hb:b<16):
  hit r bits w b=true↔w=c8 r.p.key (bK r.p)/\gM r.p.key (bK r.p)<=b/\b<gM r.p.key (bK r.p)+2^lV r.p:=by
 obtain⟨yK,ri⟩:=CS hr;have pW:=(Fg r.p).1 hr;have hl:=FR hr;rw[aay (vp _ _) hb yK (QA hr)];constructor
 ·
  intro h;have gF:w=c8 r.p.key (bK r.p):=by
   have h':=h;simp only[hit,alM,decide_eq_true_eq]at h';obtain⟨⟨h1,h2⟩,h3⟩:=h';rcases Int.lt_or_le 0 r.p.len with hl|hl
   ·
    rw[h2];exact Qy hw hb h hl
   ·
    have h0:=Qz hl;rw[h0,AB];obtain⟨s,k⟩:=w;have hs:s=0:=by rw[h0]at h2;exact h2.symm
    subst hs;have:=hw.2;simp only[Nat.mul_zero]at this;rw[Fc _ _ (by decide)]at this;rw[root,←this]
  refine⟨gF,fun j h1 h2=>?_⟩;subst gF;simp only[hit,alM,decide_eq_true_eq]at h;obtain⟨_,_,h4⟩:=(Jr _ _).1 h.2;have hm:=congrArg (fun k:Key=>k.getMsbD (4*bK r.p+3 -j)) h4;simp only[tW]at hm;rw[decide_eq_true (by omega),ath]at hm;rw[CQ _ _ _ hl h2,←hm];have e:=AD (k:=(c8 r.p.key (bK r.p)).key) (n:=bK r.p) hl hb (CR _ _) (4*bK r.p+3 -j) (by omega);rw[if_neg (by omega),if_pos (by omega)]at e;have e':(sH (c8 r.p.key (bK r.p)).key (c8 r.p.key (bK r.p)).steps b).getMsbD (4*bK r.p+3 -j)=b.testBit (4*bK r.p+3 -(4*bK r.p+3 -j)):=e;rw[e'];congr 1;omega
 ·
  rintro⟨rfl,h⟩;simp only[hit,alM,decide_eq_true_eq];refine⟨⟨QC,rfl⟩,(Jr _ _).2 ⟨hr,?_,?_⟩⟩
  ·
   have hf:=Qm (k:=(c8 r.p.key (bK r.p)).key) (n:=bK r.p) hl hb (CR _ _);refine(Fe _ _).2 fun i hi h2=>?_;refine(Fe _ _).1 hf i hi ?_;have:=pW.1;have h3:=pW.2.2.1;have h4:=pW.2.1;have:(bK r.p:Int)<=(r.p.bits -1)/4:=by unfold bK;omega
   omega
  ·
   refine wO fun i hi=>?_;have hm:=AD (k:=(c8 r.p.key (bK r.p)).key) (n:=bK r.p) hl hb (CR _ _) i hi;have Kc:(sH (c8 r.p.key (bK r.p)).key (c8 r.p.key (bK r.p)).steps b).getMsbD i=_:=hm;rw[tW,Kc]
   by_cases h1:(i:Int)<r.p.len
   ·
    rw[decide_eq_true h1,ath]
    by_cases h2:i<4*bK r.p
    ·
     rw[if_pos h2];simp only[c8];rw[AE,decide_eq_true h2,ath]
    ·
     rw[if_neg h2,if_pos (by omega),h _ (by omega) (by omega),CQ _ _ _ hl (by omega)];congr 1;omega
   ·
    rw[decide_eq_false h1,auG,pW.2.2.2 i hi (by omega)]
def nZ(bits:Int)(W:List Wy)(R:List Rt)(r:Rt)(f:Nat):List Nd:=W.map fun w=>
 if w=c8 r.p.key (bK r.p)then Nd.mk' (fun b=>if b<f then nv bits (R++[r]) w b else nv bits R w b) (rl W w)else hY bits W R w
@[simp] theorem QD (bits:Int)(W:List Wy)(R:List Rt)(r:Rt)(f:Nat):(nZ bits W R r f).length=W.length:=by simp[nZ]
section
variable {bits:Int} {W:List Wy} {R:List Rt} {r:Rt} {f:Nat}
theorem FX{w:Wy}{b:Nat}(h:hit r bits w b=false):nv bits (R++[r]) w b=nv bits R w b:=by
 rw[J7,yJ,if_neg (by rw[h];simp)]
theorem aaz(hW:jg W)(hr:bw r.p=true)(hb:r.p.bits=bits):nZ bits W R r (gM r.p.key (bK r.p))=nodes bits W R:=by
 refine atp fun w hw=>?_;split
 ·
  rename_i e;refine Nd.ext' (fun b cN=>?_) fun b cN=>by rw[hY,Nd.lC cN,Nd.lC cN]
  rw[hY,Nd.lB cN,Nd.lB cN];split
  ·
   rename_i bc;refine FX ?_
   cases hh:hit r bits w b with
   |false=>rfl
   |true=>have:=(FW hr hb (hW.ok w hw) cN).1 hh;omega
  rfl
 rfl
theorem aaA(hW:jg W)(hr:bw r.p=true)(hb:r.p.bits=bits):nZ bits W R r (gM r.p.key (bK r.p)+2^lV r.p)=nodes bits W (R++[r]):=by
 refine atp fun w hw=>?_;split
 ·
  rename_i e;refine Nd.ext' (fun b cN=>?_) fun b cN=>by rw[hY,Nd.lC cN,Nd.lC cN]
  rw[hY,Nd.lB cN,Nd.lB cN];split
  ·
   rfl
  rename_i bc;refine(FX ?_).symm
  cases hh:hit r bits w b with
  |false=>rfl
  |true=>have:=(FW hr hb (hW.ok w hw) cN).1 hh;omega
 rename_i e;refine Nd.ext' (fun b cN=>?_) fun b cN=>by rw[hY,hY,Nd.lC cN,Nd.lC cN]
 rw[hY,hY,Nd.lB cN,Nd.lB cN];refine(FX ?_).symm
 cases hh:hit r bits w b with
 |false=>rfl
 |true=>exact absurd ((FW hr hb (hW.ok w hw) cN).1 hh).1 e
theorem Ke(f:Nat){i:Nat}(hi:W[i]? =some (c8 r.p.key (bK r.p))):(nZ bits W R r f)[i]? =some (Nd.mk' (fun b=>if b<f then nv bits (R++[r]) (c8 r.p.key (bK r.p)) b else nv bits R (c8 r.p.key (bK r.p)) b) (rl W (c8 r.p.key (bK r.p)))):=by
 simp[nZ,hi]
theorem QE{i:Nat}(hi:W[i]? =some (c8 r.p.key (bK r.p)))(hf:f<16){n:Nd}(hn:(nZ bits W R r f)[i]? =some n):n.sl f=nv bits R (c8 r.p.key (bK r.p)) f:=by
 rw[Ke f hi]at hn;obtain rfl:=(aso hn).symm;rw[Nd.lB hf,if_neg (by omega)]
theorem aaB(hW:jg W)(hf: ¬(nv bits R (c8 r.p.key (bK r.p)) f).len<=r.p.len):nZ bits W R r (f+1)=nZ bits W R r f:=by
 refine atp fun w hw=>?_;split
 ·
  rename_i e;refine Nd.ext' (fun b cN=>?_) fun b cN=>by rw[Nd.lC cN,Nd.lC cN]
  rw[Nd.lB cN,Nd.lB cN]
  by_cases h1:b=f
  ·
   subst h1;rw[if_pos (by omega),if_neg (by omega),J7,yJ,if_neg];subst e;intro h;exact hf h.2
  by_cases h2:b<f
  ·
   rw[if_pos (by omega),if_pos h2]
  rw[if_neg (by omega),if_neg h2]
 rfl
theorem aaC(hW:jg W)(hr:bw r.p=true)(hb:r.p.bits=bits){i:Nat}(hi:W[i]? =some (c8 r.p.key (bK r.p))){n:Nd}(hn:(nZ bits W R r f)[i]? =some n)
  (h1:gM r.p.key (bK r.p)<=f) (h2:f<gM r.p.key (bK r.p)+2^lV r.p) (hf:(nv bits R (c8 r.p.key (bK r.p)) f).len<=r.p.len):
  (nZ bits W R r f).set i (n.w9 f ⟨r.p.len+1,r.bH⟩)=nZ bits W R r (f+1):=by
 have Pe:=QB hr;have Ka:=anc hi;rw[Ke f hi]at hn;obtain rfl:=(aso hn).symm;refine atj fun j=>?_;rw[atb];split
 ·
  rename_i e;subst e;have dK:=(ad2.1 hi).1;rw[if_pos (by simpa using dK),Ke (f+1) hi];refine congrArg some (Nd.ext' (fun b cN=>?_) fun b cN=>by rw[Nd.Qj,Nd.lC cN,Nd.lC cN]);rw[Nd.FM (by omega),Nd.lB cN,Nd.lB cN]
  by_cases h3:f=b
  ·
   subst h3;rw[if_pos rfl,if_pos (by omega),J7,yJ,if_pos ⟨(FW hr hb (hW.ok _ Ka) cN).2 ⟨rfl,h1,h2⟩,hf⟩]
  ·
   rw[if_neg h3]
   by_cases h4:b<f
   ·
    rw[if_pos h4,if_pos (by omega)]
   ·
    rw[if_neg h4,if_neg (by omega)]
 ·
  rename_i e;rcases asx j W.length with hj|hj
  ·
   obtain⟨v,hv⟩: ∃v,W[j]? =some v:=⟨W[j],by simp[hj]⟩;have bO:v≠c8 r.p.key (bK r.p):=fun e'=>by subst e';exact e (get_inj hW.nodup hi hv)
   simp[nZ,hv,bO]
  ·
   rw[ast (by simpa using hj),ast (by simpa using hj)]
end
theorem aaD{p:bt}(h:0<=p.len):max (0:Int) ((p.len -1).tdiv 4)=((bK p:Nat):Int):=by
 unfold bK;rcases Int.lt_or_le 0 p.len with h1|h1
 ·
  rw[Int.tdiv_eq_ediv_of_nonneg (by omega)];omega
 obtain h2:p.len=0:=by omega
 rw[h2];decide
theorem aaE{l:Int}(h0:0<=l)(h1:l<=128):0<=(l -1).tdiv 4/\(l -1).tdiv 4<=31:=by
 rcases Int.lt_or_le 0 l with h|h
 ·
  rw[Int.tdiv_eq_ediv_of_nonneg (by omega)];omega
 obtain h2:l=0:=by omega
 rw[h2];decide
theorem QF{W:List Wy}(hW:jg W)(p:bt)(i:Nat):c8 p.key i∈dN W p i:=by
 rcases atW i with e|e
 ·
  subst e;rw[AB,J5];exact anc hW.root
 exact vq.2 (.inr ⟨i,e,asu _,rfl⟩)
theorem vr.mono{bits:Int}{W W':List Wy}{R:List Rt}(h:vr bits W R)(hp:W<+:W'):vr bits W' R:=fun r hr hb s h1 h2=>hp.subset (h r hr hb s h1 h2)
theorem Kf{bits:Int}: ∀(n:Nat) (t:List Rt),vr bits (lD bits (t.take n)) (t.take n)
 |0,t=>by simp[vr]
 |n+1,t=>by
  rcases asx n t.length with h|h
  ·
   rw[atU h,J6];intro r hr hb s h1 h2;rcases asz.1 hr with hr|hr
   ·
    exact(Kf n t).mono Qu r hr hb s h1 h2
   obtain rfl:=as6.1 hr;rw[nY,if_pos hb];exact vq.2 (.inr ⟨s,h1,h2,rfl⟩)
  rw[asy (by omega)];have:=Kf (bits:=bits) n t;rwa [asy h]at this
theorem CT{bits:Int}{t:List Rt}{i:Nat}{r:Rt}(h:t[i]? =some r):lD bits (t.take (i+1))=nY (lD bits (t.take i)) r bits:=by
 obtain⟨hi,rfl⟩:=ad2.1 h;rw[atU hi,J6]
theorem aaF{bits:Int}{t:List Rt}: ∀{i j:Nat},i<=j->lD bits (t.take i)<+:lD bits (t.take j):=by
 intro i j nI
 induction j with
 |zero=>obtain rfl:i=0:=by omega
        exact auY
 |succ j ih=>
  rcases asx j i with h|h
  ·
   obtain rfl:i=j+1:=by omega
   exact auY
  refine(ih h).trans ?_;rcases asx j t.length with h'|h'
  ·
   rw[atU h',J6];exact Qu
  rw[asy (by omega),asy (by omega)];exact auY
theorem aaG{bits:Int}{W:List Wy}{R:List Rt}{r:Rt}(h:r.p.bits≠bits):nodes bits W (R++[r])=nodes bits W R:=by
 refine atp fun w hw=>?_;refine Nd.ext' (fun b cN=>?_) fun b cN=>by rw[hY,hY,Nd.lC cN,Nd.lC cN]
 rw[hY,hY,Nd.lB cN,Nd.lB cN,FX];simp[hit,h]
theorem aaH(bits:Int):nodes bits [root] []=[Nd.zero]:=by
 have e:hY bits [root] [] root=Nd.zero:=Nd.ext' (fun b hb=>by rw[hY,Nd.lB hb,Nd.Qh];rfl) fun b hb=>by
  rw[hY,Nd.lC hb,Nd.Qi,rl,if_neg];intro h;have:=congrArg Wy.steps (as6.1 h);simp[child,root]at this
 simp[nodes,e]
theorem uc{t:List Rt}(h:bF t=true){r:Rt}(hr:r∈t):bw r.p=true:=by
 obtain⟨i,hi⟩:=atP.1 hr;have bc:=(ad2.1 hi).1
 cases hm:bw r.p with
 |true=>rfl
 |false=>rw[Fh bc (Pk hi hm)]at h;cases h
theorem xe{t:List Rt}(h:bF t=true):t.length<=256:=by
 rcases asx 256 t.length with h1|h1
 ·
  rw[Ph h1]at h;cases h
 exact h1
def oT(t:List Rt)(bits:Int):Int:=if bF t=true/\(bits=32\/bits=128)then(if(lD bits t).length<=512 then 0 else 5)else 1
def ud(t:List Rt)(bits:Int):Int:=if oT t bits=0 then bits else 0
def ue(t:List Rt)(bits:Int):List Nd:=if oT t bits=0 then nodes bits (lD bits t) t else[]
theorem aaI{t:List Rt}{bits:Int}(h: ¬(bF t=true/\(bits=32\/bits=128))):oT t bits=1/\ud t bits=0/\ue t bits=[]:=by
 have e:oT t bits=1:=by rw[oT,if_neg h]
 exact⟨e,by rw[ud,e];rfl,by rw[ue,e];rfl⟩
theorem aaJ{t:List Rt}{bits:Int}(h:bF t=true/\(bits=32\/bits=128))(h2: ¬(lD bits t).length<=512):oT t bits=5/\ud t bits=0/\ue t bits=[]:=by
 have e:oT t bits=5:=by rw[oT,if_pos h,if_neg h2]
 exact⟨e,by rw[ud,e];rfl,by rw[ue,e];rfl⟩
theorem aaK{t:List Rt}{bits:Int}(h:bF t=true/\(bits=32\/bits=128))(h2:(lD bits t).length<=512):oT t bits=0/\ud t bits=bits/\ue t bits=nodes bits (lD bits t) t:=by
 have e:oT t bits=0:=by rw[oT,if_pos h,if_pos h2]
 exact⟨e,by rw[ud,e];rfl,by rw[ue,e];rfl⟩
open Go.ax
def bu(x:Int):Array Value:= #[.int .i64 x]
instance:bm bu 1:=⟨fun _=>rfl,fun _=>by simp[bu,Value.oneCell']⟩
instance (x:Int):cc (bu x) 0 (.int .i64 x):=⟨rfl⟩
instance:Deep Int:=Deep.flat bu 1
instance:fZ Int bu 1:=⟨rfl,fun _=>rfl⟩
instance:Plain Int:=⟨fun _=>rfl⟩
def pX(s:gw):Array Value:= #[.int .i64 s.len, .int .u16 s.bH.toNat]
instance:bm pX 2:=⟨fun _=>rfl,fun _=>by simp[pX,Value.oneCell']⟩
instance (s:gw):fW (pX s) 2:=⟨rfl,bm.one s⟩
instance (s:gw):cc (pX s) 0 (.int .i64 s.len):=⟨rfl⟩
instance (s:gw):cc (pX s) 1 (.int .u16 s.bH.toNat):=⟨rfl⟩
def rn(n:Nd)(j:Nat):Value:=if j<32 then(if j%2=0 then .int .i64 (n.sl (j/2)).len else .int .u16 (n.sl (j/2)).bH.toNat)else .int .i64 (n.nx (j -32))
def dB(n:Nd):Array Value:=((List.range 48).map (rn n)).toArray
theorem FY(n:Nd):(dB n).size=48:=by simp[dB]
theorem yL(n:Nd)(j:Nat)(h:j<48):(dB n)[j]? =some (rn n j):=by simp[dB,h]
theorem FZ(n:Nd)(j:Nat)(h:48<=j):(dB n)[j]? =none:=by simp[dB];omega
instance:bm dB 48:=⟨FY,fun n=>by
 rw[as4];intro v hv;simp only[dB,List.mem_toArray,atw]at hv;obtain⟨j,_,rfl⟩:=hv;unfold rn;split
 ·
  split<;>rfl
 rfl⟩
instance (n:Nd):fW (dB n) 48:=⟨FY n,bm.one n⟩
instance:Deep Nd:=Deep.flat dB 48
instance:fZ Nd dB 48:=⟨rfl,fun _=>rfl⟩
instance:Plain Nd:=⟨fun _=>rfl⟩
theorem Kg(n:Nd){b:Nat}(h:b<16):(dB n)[b*2]? =some (.int .i64 (n.sl b).len):=by
 rw[yL _ _ (by omega),rn,if_pos (by omega),if_pos (by omega),show b*2/2=b by omega]
theorem aaL(n:Nd){b:Nat}(h:b<16):(dB n)[b*2+1]? =some (.int .u16 (n.sl b).bH.toNat):=by
 rw[yL _ _ (by omega),rn,if_pos (by omega),if_neg (by omega),show(b*2+1)/2=b by omega]
theorem QG(n:Nd){b:Nat}(h:b<16):(dB n)[32+b]? =some (.int .i64 (n.nx b)):=by
 rw[yL _ _ (by omega),rn,if_neg (by omega),show 32+b -32=b by omega]
theorem aaM(n:Nd){b:Nat}(h:b<16):nJ (dB n) (b*2) 2 (pX (n.sl b)):=⟨rfl,fun j hj=>by
 match j,hj with
 |0,_=>exact Kg n h
 |1,_=>exact aaL n h⟩
theorem aaN(n:Nd){b:Nat}(h:b<16)(x:Int):over (dB n) (32+b) #[.int .i64 x]=dB (n.xd b x):=atM fun j=>by
 rw[se (by rw[FY];simp;omega)];rcases asx j 48 with hj|hj
 ·
  rw[yL n j hj,yL (n.xd b x) j hj];split
  ·
   rename_i h2;have e:j=32+b:=by simp at h2;omega
   subst e;rw[atS,rn,if_neg (by omega),show 32+b -32=b by omega,Nd.J4 h,if_pos rfl];rfl
  rename_i h2;rw[rn,rn]
  by_cases h3:j<32
  ·
   rw[if_pos h3,if_pos h3,Nd.Qk]
  rw[if_neg h3,if_neg h3,Nd.J4 h,if_neg];simp at h2;omega
 rw[if_neg (by simp;omega),FZ _ _ hj,FZ _ _ hj]
theorem aaO(n:Nd){b:Nat}(h:b<16)(s:gw):over (dB n) (b*2) (pX s)=dB (n.w9 b s):=atM fun j=>by
 have hs:(pX s).size=2:=rfl;rw[se (by rw[FY,hs];omega),hs];rcases asx j 48 with hj|hj
 ·
  rw[yL n j hj,yL (n.w9 b s) j hj];split
  ·
   rename_i h2;rw[rn,if_pos (by omega)];rcases asx j (b*2+1)with h3|h3
   ·
    obtain rfl:j=b*2:=by omega
    rw[if_pos (by omega),show b*2/2=b by omega,Nd.FM h,if_pos rfl,atS];rfl
   obtain rfl:j=b*2+1:=by omega
   rw[if_neg (by omega),show(b*2+1)/2=b by omega,Nd.FM h,if_pos rfl,show b*2+1 -b*2=1 by omega];rfl
  rename_i h2;rw[rn,rn]
  by_cases h3:j<32
  ·
   have bO: ¬b=j/2:=by omega
   rw[if_pos h3,if_pos h3,Nd.FM h];simp only[if_neg bO]
  rw[if_neg h3,if_neg h3,Nd.Qj]
 rw[if_neg (by omega),FZ _ _ hj,FZ _ _ hj]
structure lW where
 bits:Int
 ns:Sl Nd
def dO(t:lW):Array Value:= #[.int .i64 t.bits,t.ns.sv.val]
instance:bm dO 2:=⟨fun _=>rfl,fun t=>by
 have h1:(Value.int .i64 t.bits).oneCell'=true:=rfl;simp only[dO,auh,auo,auD,Sv.one,h1,at7]⟩
instance (t:lW):fW (dO t) 2:=⟨rfl,bm.one t⟩
instance (t:lW):nJ (dO t) 0 2 (dO t):=⟨rfl,fun j _=>by rw[as3]⟩
instance (t:lW):cc (dO t) 0 (.int .i64 t.bits):=⟨rfl⟩
instance (t:lW):cc (dO t) 1 t.ns.sv.val:=⟨rfl⟩
instance:Deep lW where
 c:=2
 cells:=dO
 size:=bm.size
 one:=bm.one
 cH h x:=Deep.cH h x.ns
 bR x:=Deep.bR x.ns
 jv h x hs:=Deep.jv h x.ns hs
 mono w w' x:=Deep.mono w w' x.ns
variable {w0:World}{L:List aj}
instance{x:lW}[q:aU w0 L x]:aU w0 L x.ns:=⟨q.h⟩
instance{x:lW}[q:aU w0 L x]:Hd w0 L x.ns.sv dB 48 x.ns.xs:=(inferInstance:Hd w0 L x.ns.sv dB 48 x.ns.xs)
end Go.Kb
namespace Go.ax
open Go.Kb
section
variable {P:Program} {N:ct} {w0:World} {env:Env} {L:List aj} {d:Option Tmp} {ty:TypeId} {ps:String} {af:Array Edge} {gd:Option (Nat×Bool)}
theorem jf{x:Operand}{a:Addr}(hx:ev env x=some (.pointer (some a))):Ry P N w0 env L ⟨d, .nilCheck x,ty,ps,af,gd⟩ (.pointer (some a)):=fun _ w ha _=>by
 simp only[execOp,ha.ev hx,Sem.run_pure]
variable {s:Sv} {xs:List Nd} {a:Nd}
theorem QH{t:TypeId}{x:Operand}{p:Nat}[ht:fR P t][q:Hd w0 L s dB 48 xs](hx:ev env x=some (.pointer (some ⟨s.b,p,none⟩)))(i:Nat)(hi:xs[i]? =some a)(b:Nat)(hb:b<16)(fE:p=s.o+i*48+32+b):
  Ry P N w0 env L ⟨d, .load t x,ty,ps,af,gd⟩ (.int .i64 (a.nx b)):=I3 (j:=32+b) hx q.h hi (by omega) (by omega) (QG a hb)
theorem aaP{t:TypeId}{x:Operand}{p:Nat}[ht:fR P t][q:Hd w0 L s dB 48 xs](hx:ev env x=some (.pointer (some ⟨s.b,p,none⟩)))(i:Nat)(hi:xs[i]? =some a)(b:Nat)(hb:b<16)(fE:p=s.o+i*48+b*2):
  Ry P N w0 env L ⟨d, .load t x,ty,ps,af,gd⟩ (.int .i64 (a.sl b).len):=I3 (j:=b*2) hx q.h hi (by omega) (by omega) (Kg a hb)
theorem aaQ{t:TypeId}{x:Operand}{p:Nat}[ht:fK P t 2][q:Hd w0 L s dB 48 xs](hx:ev env x=some (.pointer (some ⟨s.b,p,none⟩)))(i:Nat)(hi:xs[i]? =some a)(b:Nat)(hb:b<16)(fE:p=s.o+i*48+b*2):
  Ry P N w0 env L ⟨d, .load t x,ty,ps,af,gd⟩ (.agg (pX (a.sl b))):=
 have:=aaM a hb
 I4 (j:=b*2) hx q.h hi (by omega) (by omega)
theorem aaR{t T:TypeId}{x:Operand}{p k i:Nat}[ht:fR P t][q:Has L k (dB a) T i](hx:ev env x=some (.pointer (some ⟨k,p,none⟩)))(b:Nat)(hb:b<16)(fE:p=32+b):
  Ry P N w0 env L ⟨d, .load t x,ty,ps,af,gd⟩ (.int .i64 (a.nx b)):=zR hx (by rw[fE];exact QG a hb)
theorem aaS{t T:TypeId}{x:Operand}{p k i:Nat}[ht:fR P t][q:Has L k (dB a) T i](hx:ev env x=some (.pointer (some ⟨k,p,none⟩)))(b:Nat)(hb:b<16)(fE:p=b*2):
  Ry P N w0 env L ⟨d, .load t x,ty,ps,af,gd⟩ (.int .i64 (a.sl b).len):=zR hx (by rw[fE];exact Kg a hb)
end
section
variable {P:Program} {N:ct} {w0:World} {env:Env} {L:List aj} {l:List Oper} {Q:Exit->Act->World->Prop} {rest:List Oper} {ty:TypeId} {ps:String} {af:Array Edge}
variable {s:Sv} {xs:List Nd} {a:Nd}
theorem aaT{t:TypeId}{x y:Operand}{i k p:Nat}{v:gw}[ht:fK P t 2](hx:ev env x=some (.pointer (some ⟨s.b,p,none⟩)))(hy:ev env y=some (.agg (pX v)))[q:fu L s dB 48 xs i](ha:xs[k]? =some a)(b:Nat)(hb:b<16)(fE:p=s.o+k*48+b*2){L':List aj}[hu:fC L i (own dB 48 s (xs.set k (a.w9 b v))) L'](hk:Sq P N w0 l Q rest env L'):
  Sq P N w0 l Q (⟨none, .store t x y,ty,ps,af,none⟩::rest) env L:=
 ku (j:=b*2) (n:=2) (a':=a.w9 b v) ht.size hx hy (q:=q) (by omega) ha (bm.one v) rfl (by omega) (aaO a hb v) hk
theorem QI{t:TypeId}{x y:Operand}{i k p:Nat}{s:Sv}{xs:List Int}{a v:Int}[ht:fR P t](hx:ev env x=some (.pointer (some ⟨s.b,p,none⟩)))(hy:ev env y=some (.int .i64 v))[q:fu L s bu 1 xs i](ha:xs[k]? =some a)(fE:p=s.o+k*1){L':List aj}[hu:fC L i (own bu 1 s (xs.set k v)) L'](hk:Sq P N w0 l Q rest env L'):
  Sq P N w0 l Q (⟨none, .store t x y,ty,ps,af,none⟩::rest) env L:=
 ku (j:=0) (n:=1) (a':=v) ht.size hx hy (q:=q) (by omega) ha (by simp[Value.cells,Value.oneCell']) rfl (by omega) (by rfl) hk
end
end Go.ax
namespace Go.Kb
open Go.ax
theorem vz(k:IntKind)(n:Int):(Value.int k n).oneCell'=true:=rfl
theorem vA(b:Bool):(Value.bool b).oneCell'=true:=rfl
instance:gh Int:=gh.flat fun _ _=>trivial
structure Ft where
 op:Int
 fail:Bool
 cut:Bool
 mask:UInt8
 deriving DecidableEq
def eN(x:Ft):Array Value:= #[.int .i64 x.op, .bool x.fail, .bool x.cut, .int .u8 x.mask.toNat]
instance:bm eN 4:=⟨fun _=>rfl,fun x=>by
 simp only[eN,auh,auo,auD,Sv.one,vz,vA,at7]⟩
instance (x:Ft):fW (eN x) 4:=⟨rfl,bm.one x⟩
instance (x:Ft):cc (eN x) 0 (.int .i64 x.op):=⟨rfl⟩
instance (x:Ft):cc (eN x) 1 (.bool x.fail):=⟨rfl⟩
instance (x:Ft):cc (eN x) 2 (.bool x.cut):=⟨rfl⟩
instance (x:Ft):cc (eN x) 3 (.int .u8 x.mask.toNat):=⟨rfl⟩
instance:Deep Ft:=Deep.flat eN 4
instance:Plain Ft:=⟨fun _=>rfl⟩
instance:gh Ft:=gh.flat fun _ _=>trivial
instance:fZ Ft eN 4:=⟨rfl,fun _=>rfl⟩
def AI:Ft:=⟨0,false,false,0⟩
structure Bk where
 pages:Sl (Sl UInt8)
 used:Int
 aR:Int
 bad:Bool
def bZ(x:Bk):Array Value:= #[x.pages.sv.val, .int .i64 x.used, .int .i64 x.aR, .bool x.bad]
instance:bm bZ 4:=⟨fun _=>rfl,fun x=>by
 simp only[bZ,auh,auo,auD,Sv.one,vz,vA,at7]⟩
instance (x:Bk):fW (bZ x) 4:=⟨rfl,bm.one x⟩
instance (x:Bk):cc (bZ x) 0 (x.pages.sv.val):=⟨rfl⟩
instance (x:Bk):cc (bZ x) 1 (.int .i64 x.used):=⟨rfl⟩
instance (x:Bk):cc (bZ x) 2 (.int .i64 x.aR):=⟨rfl⟩
instance (x:Bk):cc (bZ x) 3 (.bool x.bad):=⟨rfl⟩
instance:Deep Bk where
 c:=4
 cells:=bZ
 size:=bm.size
 one:=bm.one
 cH h x:=Deep.cH h x.pages
 bR x:=Deep.bR x.pages
 jv h x hs:=Deep.jv h x.pages hs
 mono w w' x hg hb:=Deep.mono w w' x.pages hg hb
instance:gh Bk where
 reach x k:=gh.reach x.pages k
 congr h h' x e hg:=gh.congr h h' x.pages (fun k hk=>e k (hk)) hg
variable {w0:World}{L:List aj}
instance{x:Bk}[q:aU w0 L x]:aU w0 L x.pages:=⟨fun w hw=>(q.h w hw)⟩
instance:fZ Bk bZ 4:=⟨rfl,fun _=>rfl⟩
def qF:Bk:=⟨⟨Sv.none,[]⟩,0,0,false⟩
structure Cp where
 pages:Int
 size:Int
 blocks:Sl Bk
 ops:Int
 off:Bool
 aV:Sl Ft
def aT(x:Cp):Array Value:= #[.int .i64 x.pages, .int .i64 x.size,x.blocks.sv.val, .int .i64 x.ops, .bool x.off,x.aV.sv.val]
instance:bm aT 6:=⟨fun _=>rfl,fun x=>by
 simp only[aT,auh,auo,auD,Sv.one,vz,vA,at7]⟩
instance (x:Cp):fW (aT x) 6:=⟨rfl,bm.one x⟩
instance (x:Cp):cc (aT x) 0 (.int .i64 x.pages):=⟨rfl⟩
instance (x:Cp):cc (aT x) 1 (.int .i64 x.size):=⟨rfl⟩
instance (x:Cp):cc (aT x) 2 (x.blocks.sv.val):=⟨rfl⟩
instance (x:Cp):cc (aT x) 3 (.int .i64 x.ops):=⟨rfl⟩
instance (x:Cp):cc (aT x) 4 (.bool x.off):=⟨rfl⟩
instance (x:Cp):cc (aT x) 5 (x.aV.sv.val):=⟨rfl⟩
instance:Deep Cp where
 c:=6
 cells:=aT
 size:=bm.size
 one:=bm.one
 cH h x:=Deep.cH h x.blocks/\Deep.cH h x.aV
 bR x:= .two (Deep.bR x.blocks) (Deep.bR x.aV)
 jv h x hs:=⟨Deep.jv h x.blocks hs.1,Deep.jv h x.aV hs.2.1⟩
 mono w w' x hg hb:=⟨Deep.mono w w' x.blocks hg.1 hb,Deep.mono w w' x.aV hg.2 hb⟩
instance:gh Cp where
 reach x k:=gh.reach x.blocks k\/gh.reach x.aV k
 congr h h' x e hg:=⟨gh.congr h h' x.blocks (fun k hk=>e k (.inl hk)) hg.1,gh.congr h h' x.aV (fun k hk=>e k (.inr hk)) hg.2⟩
instance{x:Cp}[q:aU w0 L x]:aU w0 L x.blocks:=⟨fun w hw=>(q.h w hw).1⟩
instance{x:Cp}[q:aU w0 L x]:aU w0 L x.aV:=⟨fun w hw=>(q.h w hw).2⟩
instance{pages:Int}{size:Int}{blocks:Sl Bk}{ops:Int}{off:Bool}{aV:Sl Ft}[q0:aU w0 L blocks][q1:aU w0 L aV]:aU w0 L (Cp.mk pages size blocks ops off aV):=⟨fun w hw=>⟨q0.h w hw,q1.h w hw⟩⟩
def gT:Cp:=⟨0,0,⟨Sv.none,[]⟩,0,false,⟨Sv.none,[]⟩⟩
end Go.Kb
namespace Go.ax
theorem dZ.cut{α:Type}{enc:α->Array Value}{c:Nat}{h:Nat->Option Obj}{s:Sv}{xs:List α}(r:dZ enc c h s xs){lo hi:Nat}(h1:lo<=hi)(h2:hi<=xs.length):dZ enc c h ⟨s.nil,s.b,if hi=lo then s.o else s.o+lo*c,hi -lo,hi -lo,s.sp⟩ ((xs.drop lo).take (hi -lo)):=by
  have hl:=r.len;have hle:=r.ok.le;have jH:=r.ok.bd;refine⟨⟨fun hn=>?_,asu _,?_,fun hc=>?_⟩,?_,fun i x pH j hj=>?_⟩
  ·have:=r.ok.nil hn
   simp only at this⊢;omega
  ·simp only;omega
  ·simp only at hc⊢;exact r.ok.sp (by omega)
  ·simp;omega
  ·have dK:=(ad2.1 pH).1
   rw[asq,ass]at dK;have hx:xs[lo+i]? =Option.some x:=by rw[auA,if_pos (by omega),aty]at pH;exact pH
   have:=r.row (lo+i) x hx j hj;simp only;rw[if_neg (by omega),show s.o+lo*c+i*c+j=s.o+(lo+i)*c+j by rw[asY];omega];exact this
end Go.ax
namespace Go.Kb
open Go.ax
structure BV where
  pages:List (List UInt8)
  used:Int
  aR:Int
  bad:Bool
  deriving DecidableEq
structure CV where
  pages:Int
  size:Int
  blocks:List BV
  ops:Int
  off:Bool
  aV:List Ft
  deriving DecidableEq
def aN(l:List (Sl UInt8)):List (List UInt8):=l.map fun x=>x.xs
theorem oU(l:List (Sl UInt8)):(aN l).length=l.length:=by simp[aN]
theorem qG{l:List (Sl UInt8)}{i:Nat}{x:Sl UInt8}(h:l[i]? =some x):(aN l)[i]? =some x.xs:=by simp[aN,h]
def bv(b:Bk):BV:=⟨aN b.pages.xs,b.used,b.aR,b.bad⟩
def jh(l:List Bk):List BV:=l.map bv
theorem ia(l:List Bk):(jh l).length=l.length:=by simp[jh]
theorem nw{l:List Bk}{i:Nat}{x:Bk}(h:l[i]? =some x):(jh l)[i]? =some (bv x):=by simp[jh,h]
def cv(c:Cp):CV:=⟨c.pages,c.size,jh c.blocks.xs,c.ops,c.off,c.aV.xs⟩
def win(rm:Sv)(lo hi:Nat):Sv:=⟨rm.nil,rm.b,if hi=lo then rm.o else rm.o+lo,hi -lo,hi -lo,rm.sp⟩
def dD(rm:Sv):Nat->List (List UInt8)->List (Sl UInt8)
  |_,[]=>[]
  |o,p::r=>⟨win rm o (o+p.length),p⟩::dD rm (o+p.length) r
theorem xf(rm:Sv): ∀(o:Nat) (l:List (List UInt8)),aN (dD rm o l)=l
  |_,[]=>rfl
  |o,p::r=>by
   have:=xf rm (o+p.length) r;simp only[aN,dD,asL]at this⊢;rw[this]
theorem Kh(rm:Sv): ∀(o:Nat) (l:List (List UInt8)),(dD rm o l).length=l.length
  |_,[]=>rfl
  |o,p::r=>by rw[dD,asm,asm,Kh]
theorem F0(rm:Sv): ∀(o:Nat) (l:List (List UInt8)) (x:Sl UInt8),x∈dD rm o l->x.sv.b=rm.b
  |_,[],_,h=>by cases h
  |o,p::r,x,h=>by
   rcases asw.1 h with rfl|h
   ·rfl
   ·exact F0 rm _ r x h
theorem QJ(rm:Sv): ∀(o:Nat) (l:List (List UInt8)) (p:List UInt8),dD rm o (l++[p])=dD rm o l++[⟨win rm (o+l.flatten.length) (o+l.flatten.length+p.length),p⟩]
  |o,[],p=>by simp[dD]
  |o,q::r,p=>by
   rw[atA,dD,QJ,dD];simp only[atL,af0,atA,atN]
theorem QK{rm:Sv}{h:Nat->Option Obj}{all:List UInt8}(hl:dZ aG 1 h rm all): ∀(o:Nat) (l:List (List UInt8)),o+l.flatten.length<=all.length->(all.drop o).take l.flatten.length=l.flatten-> ∀x∈dD rm o l,dZ aG 1 h x.sv x.xs
  |_,[],_,_,_,hx=>by cases hx
  |o,p::r,hb,he,x,hx=>by
   rw[atL,af0]at hb;rw[atL,af0]at he
   have e1:(all.drop o).take p.length=p:=by
      have:=congrArg (List.take p.length) he;rw[List.take_take,auM (by omega),List.take_left']at this
      ·exact this
      ·rfl
   have e2:(all.drop (o+p.length)).take r.flatten.length=r.flatten:=by
      have:=congrArg (List.drop p.length) he;rw[List.drop_take,at3,List.drop_left' rfl,show p.length+r.flatten.length -p.length=r.flatten.length by omega]at this;exact this
   rcases asw.1 hx with rfl|hx
   ·have:=hl.cut (lo:=o) (hi:=o+p.length) (by omega) (by omega)
    rw[at2,show o+p.length -o=p.length by omega,e1]at this;simpa[win]using this
   ·exact QK hl (o+p.length) r (by omega) e2 x hx
def AJ(a:Sl (Sl UInt8)):aj:=⟨fun k=> ∃x∈a.xs,k=x.sv.b,fun h=>a.xs=[]\/ ∃rm,rm.nil=false/\a.xs=dD rm 0 (aN a.xs)/\(own aG 1 rm (aN a.xs).flatten).sat h,fun h h' e s=>by
  rcases s with s|⟨rm,h1,h2,h3⟩
  ·exact .inl s
  ·rcases List.eq_nil_or_concat a.xs with hx|⟨l,x,hx⟩
   ·exact .inl hx
   ·have hm:x∈a.xs:=by rw[hx];simp
    have hb:x.sv.b=rm.b:=F0 rm 0 _ x (h2▸hm);exact .inr ⟨rm,h1,h2,(own aG 1 rm (aN a.xs).flatten).loc h h' (fun k hk=>e k ⟨x,hm,by rw[hb];exact hk.2⟩) h3⟩⟩
def fw(a:Sl (Sl UInt8)):aj:= .two (own (bT (τ:=UInt8)) 1 a.sv a.xs) (AJ a)
theorem aaU{a:Sl (Sl UInt8)}{h:Nat->Option Obj}(s:(AJ a).sat h): ∀x∈a.xs,dZ aG 1 h x.sv x.xs:=fun x hx=>by
  rcases s with s|⟨rm,h1,h2,h3⟩
  ·rw[s]at hx;cases hx
  ·refine QK h3.1 0 (aN a.xs) (by omega) (by rw[atD,asP]) x (h2▸hx)
theorem CU{α:Type}{enc:α->Array Value}{c:Nat}{s:Sv}{xs:List α}{h:Nat->Option Obj}(hl:dZ enc c h s xs)(hx:xs≠[]):(own enc c s xs).fp s.b:=
  ⟨hl.ok.some (by have:=hl.len;have:=auN.2 hx;omega),rfl⟩
theorem aj.F1{k:Nat}: ∀{es:List aj} {e:aj},e∈es->e.fp k->(aj.all es).fp k
  |_::_,_,he,hk=>(asw.1 he).elim (fun h=> .inl (h▸hk)) fun h=> .inr (aj.F1 h hk)
theorem QL{α:Type}{e:α}: ∀{L:List α} {i:Nat},L[i]? =Option.some e->L.Perm (e::L.eraseIdx i)
  |[],i,h=>by simp at h
  |x::L,0,h=>by obtain rfl:x=e:=by simpa using h
                simp
  |x::L,i+1,h=>by
   have:=QL (L:=L) (i:=i) (by simpa using h);rw[avl];exact(this.cons x).trans (.swap _ _ _)
theorem Mem.pick{τ:Type}{f:τ->aj}{w0 w:World}{L:List aj}{xs:List τ}{i:Nat}{x:τ}(hx:xs[i]? =some x):Mem w0 (aj.all (xs.map f)::L) w↔Mem w0 (f x::aj.all ((xs.eraseIdx i).map f)::L) w:=by
  have hp:(xs.map f).Perm (f x::(xs.eraseIdx i).map f):=by
    have:=QL hx;simpa using this.map f
  rw[Mem.Cr];have e:Mem w0 (f x::aj.all ((xs.eraseIdx i).map f)::L) w↔Mem w0 (f x::((xs.eraseIdx i).map f++L)) w:=by
    have sw: ∀(a b:aj) (K:List aj),Mem w0 (a::b::K) w↔Mem w0 (b::a::K) w:=fun a b K=>⟨fun h=>h.perm (List.Perm.swap _ _ _),fun h=>h.perm (List.Perm.swap _ _ _)⟩;rw[sw,Mem.Cr];exact⟨fun h=>h.perm auB,fun h=>h.perm auB.symm⟩
  rw[e];exact⟨fun h=>h.perm (hp.append_right L),fun h=>h.perm (hp.append_right L).symm⟩
theorem aaV{w0 w:World}{L:List aj}{a:Sl Bk}(h:Mem w0 (own bZ 4 a.sv a.xs::aj.all (a.xs.map fun b:Bk=>fw b.pages)::L) w):Mem w0 (fz a::L) w:=by
  have hs:=h.sat (own bZ 4 a.sv a.xs) (by simp);have ha:=h.sat (aj.all (a.xs.map fun b:Bk=>fw b.pages)) (by simp);have hb: ∀x∈a.xs,(fw x.pages).sat fun k=>w.heap[k]? :=fun x hx=>aj.Ah ha _ (asN hx);refine Mem.freeze (es:=[own bZ 4 a.sv a.xs,aj.all (a.xs.map fun b:Bk=>fw b.pages)]) a ⟨hs.1,fun x hx=>⟨(hb x hx).1.1,fun y hy=>⟨aaU (hb x hx).2.1 y hy,fun _ _=>trivial⟩⟩⟩ (fun k hk=>?_) h;rcases hk with⟨bO,rfl⟩|⟨x,hx,hk⟩
  ·exact⟨_,by simp,CU hs.1 bO⟩
  ·refine⟨aj.all (a.xs.map fun b:Bk=>fw b.pages),by simp,aj.F1 (asN hx) ?_⟩
   rcases hk with⟨bO,rfl⟩|⟨y,hy,⟨_,rfl⟩|⟨_,_,hf⟩⟩
   ·exact .inl (CU (hb x hx).1.1 bO)
   ·exact .inr ⟨y,hy,rfl⟩
   ·exact hf.elim
theorem F2{τ:Type}[Deep τ][r:gh τ][Plain τ]{enc:τ->Array Value}{c:Nat}[f:fZ τ enc c](hr: ∀(x:τ) k,¬r.reach x k)(hg: ∀h (x:τ),Deep.cH h x){w0 w:World}{L:List aj}{a:Sl τ}(h:Mem w0 (own enc c a.sv a.xs::L) w):Mem w0 (fz a::L) w:=by
  have hs:=h.sat (own enc c a.sv a.xs) (by simp);have e1:Deep.cells (τ:=τ)=enc:=funext (fZ.h (c:=c));have e2:Deep.c τ=c:=fZ.hc (enc:=enc);refine Mem.aai a ⟨by rw[e1,e2];exact hs.1,fun x _=>hg _ x⟩ (fun k hk=>?_) h;rcases hk with⟨bO,rfl⟩|⟨x,_,hk⟩
  ·exact CU hs.1 bO
  ·exact(hr x k hk).elim
theorem F3{w0 w:World}{L:List aj}{d:Cp}(h:Mem w0 (fz d.blocks::fz d.aV::L) w):Mem w0 (fz d::L) w:=by
  refine Mem.freeze (es:=[fz d.blocks,fz d.aV]) d ⟨h.sat (fz d.blocks) (by simp),h.sat (fz d.aV) (by simp)⟩ (fun k hk=>?_) h;rcases hk with hk|hk
  ·exact⟨fz d.blocks,by simp,hk⟩
  ·exact⟨fz d.aV,by simp,hk⟩
theorem QM{w0 w:World}{L:List aj}{a:Sl Ft}(h:Mem w0 (own eN 4 a.sv a.xs::L) w):Mem w0 (fz a::L) w:=F2 (fun _ _ h=>h) (fun _ _=>trivial) h
theorem yM{w0 w:World}{L:List aj}{a:Sl Int}(h:Mem w0 (own bu 1 a.sv a.xs::L) w):Mem w0 (fz a::L) w:=F2 (fun _ _ h=>h) (fun _ _=>trivial) h
theorem Ki{w0 w:World}{L:List aj}{a:Sl UInt8}(h:Mem w0 (own aG 1 a.sv a.xs::L) w):Mem w0 (fz a::L) w:=F2 (fun _ _ h=>h) (fun _ _=>trivial) h
def cX:Int:=1099511627776
def vB(b p s:Int):Bool:=decide (1<=b)&&decide (b<=32)&&decide (1<=p)&&decide (p<=16)&&decide (1<=s)&&decide (s<=256)
theorem lX{b p s:Int}:vB b p s=true↔1<=b/\b<=32/\1<=p/\p<=16/\1<=s/\s<=256:=by
 simp only[vB,alM,decide_eq_true_eq,and_assoc]
def QN(s:Int)(x:List UInt8):Bool:=decide ((x.length:Int)=s)
def qH(p s:Int)(b:BV):Bool:=decide ((b.pages.length:Int)=p)&&decide (0<=b.used)&&decide (b.used<=p)&&decide (0<=b.aR)&&decide (b.aR<=cX)&&b.pages.all (QN s)
theorem fk{p s:Int}{b:BV}:qH p s b=true↔(b.pages.length:Int)=p/\0<=b.used/\b.used<=p/\0<=b.aR/\b.aR<=cX/\ ∀x∈b.pages,(x.length:Int)=s:=by
 simp only[qH,QN,alM,decide_eq_true_eq,and_assoc,asD]
def ba(c:CV):Bool:=vB c.blocks.length c.pages c.size&&decide (0<=c.ops)&&decide (c.ops<=cX)&&decide (c.aV.length<=64)&&c.blocks.all (qH c.pages c.size)
theorem fF{c:CV}:ba c=true↔vB c.blocks.length c.pages c.size=true/\0<=c.ops/\c.ops<=cX/\c.aV.length<=64/\ ∀b∈c.blocks,qH c.pages c.size b=true:=by
 simp only[ba,alM,decide_eq_true_eq,and_assoc,asD]
def ib(c:CV)(block:Int):Bool:=ba c&&decide (0<=block)&&decide (block<c.blocks.length)
theorem ic{c:CV}{block:Int}:ib c block=true↔ba c=true/\0<=block/\block<c.blocks.length:=by
 simp only[ib,alM,decide_eq_true_eq,and_assoc]
def zBV:BV:=⟨[],0,0,false⟩
def ak(c:CV)(block:Int):BV:=c.blocks.getD block.toNat zBV
def ie(n:Int):List UInt8:=List.replicate n.toNat 255
def rp(b p s:Int):CV×Int:=if vB b p s=true then(⟨p,s,List.replicate b.toNat ⟨List.replicate p.toNat (ie s),0,0,false⟩,0,false,[]⟩,0)else(⟨0,0,[],0,false,[]⟩,1)
def bn(c:CV):Ft×Bool:=match c.aV.find? fun f=>decide (f.op=c.ops)with
 |some f=>(f,f.cut||f.fail)
 |none=>(AI,false)
def lY(f:Ft):Int:=if f.cut=true then 7 else 9
def n0(c:CV)(block oV:Int)(p:List UInt8):Bool:=ib c block&&decide (0<=oV)&&decide (oV<c.pages)&&decide ((p.length:Int)=c.size)&&decide (c.ops<cX)
theorem jI{c:CV}{block oV:Int}{p:List UInt8}:n0 c block oV p=true↔ib c block=true/\0<=oV/\oV<c.pages/\(p.length:Int)=c.size/\c.ops<cX:=by
 simp only[n0,alM,decide_eq_true_eq,and_assoc]
def cZ(m:UInt8)(p:List UInt8):List UInt8:=p.map fun x=>x|||m
def oW(c:CV)(p:List UInt8):List UInt8:=if(bn c).2=true then cZ (~~~(bn c).1.mask) p else p
def iH(c:CV)(block oV:Int)(p:List UInt8):CV:=
 {c with ops:=c.ops+1,off:=(bn c).2&&(bn c).1.cut,blocks:=c.blocks.set block.toNat {ak c block with used:=(ak c block).used+1,pages:=(ak c block).pages.set oV.toNat (oW c p)}}
def kA(c:CV)(block oV:Int)(p:List UInt8):Int:=
 if n0 c block oV p=true then(if c.off=true then 7 else if(ak c block).bad=true\/oV≠(ak c block).used then 9 else if(bn c).2=true then lY (bn c).1 else 0)else 1
def gN(c:CV)(block oV:Int)(p:List UInt8):CV:=
 if n0 c block oV p=true/\c.off=false/\(ak c block).bad=false/\oV=(ak c block).used then iH c block oV p else c
def oX(c:CV)(block:Int):Bool:=ib c block&&decide (c.ops<cX)&&decide ((ak c block).aR<cX)
theorem pY{c:CV}{block:Int}:oX c block=true↔ib c block=true/\c.ops<cX/\(ak c block).aR<cX:=by
 simp only[oX,alM,decide_eq_true_eq,and_assoc]
def sI(c:CV)(ps:List (List UInt8)):List (List UInt8):=if(bn c).2=true then ps.map (cZ (bn c).1.mask)else ps.map fun _=>ie c.size
def kU(c:CV)(block:Int):CV:=
 {c with ops:=c.ops+1,off:=(bn c).2&&(bn c).1.cut,blocks:=c.blocks.set block.toNat {ak c block with used:=if(bn c).2=true then c.pages else 0,aR:=(ak c block).aR+1,pages:=sI c (ak c block).pages}}
def ez(c:CV)(block:Int):Int:=
 if oX c block=true then(if c.off=true then 7 else if(ak c block).bad=true then 9 else if(bn c).2=true then lY (bn c).1 else 0)else 1
def gk(c:CV)(block:Int):CV:=if oX c block=true/\c.off=false/\(ak c block).bad=false then kU c block else c
def pZ(c:CV)(block:Int):Int:=if ib c block=true then(if c.off=true then 7 else 0)else 1
def lZ(c:CV)(block:Int):CV:=if pZ c block=0 then{c with blocks:=c.blocks.set block.toNat {ak c block with bad:=true}}else c
def xh(c:CV)(fs:List Ft):Int:=if ba c=true/\fs.length<=64 then 0 else 1
def CW(c:CV)(fs:List Ft):CV:=if xh c fs=0 then{c with off:=false,aV:=fs}else c
theorem F4{c:CV}{block:Int}(h:ib c block=true):c.blocks[block.toNat]? =some (ak c block):=by
 obtain⟨_,h2,h3⟩:=ic.1 h;exact nP (by omega)
theorem qI{c:CV}{block:Int}(h:ib c block=true):qH c.pages c.size (ak c block)=true:=
 (fF.1 (ic.1 h).1).2.2.2.2 _ (anc (F4 h))
end Go.Kb
