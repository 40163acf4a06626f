/- OpB, ElM. -/
import Derived.Deep.CutRange
import Derived.Test.YthjaiigijbjloaaGreatDoorW12
namespace Go.Proofs.YthjaiigijbjloaaGreatDoor
open Go.RowKit Go.Lib
set_option maxRecDepth 100000
set_option maxHeartbeats 16000000
theorem qa(m:Mg)(l:Ls)(w:World)(hm:MgM w m l)(hk:LsOk m l)(hv:bH m l=true)(hop:m.op=0)(hs:m.sasl=true):Calls Tryz.prog 73 #[.agg m.row] w fun e w'=>(∃u,e=.returned (.agg (elA (opE m l) u))∧bf (fun g=>w.heap.size≤g) w' u (opE m l).kids)∧Below w.heap.size w w':=by
 obtain⟨hkb,⟨hi0,hi1⟩,hmo⟩:=bT hv;simp only[br,hop,if_true,aI,aT] at hkb;obtain⟨hv1,hv2⟩:=hkb;have hvn:m.row[3]?=some (.int .i64 (m.ver.toNat:Int)):=by rw[show((m.ver.toNat:Nat):Int)=m.ver by omega];rfl
 have hsg:=kX (n:=m.ver.toNat) (by omega);have hrow1:m.row[1]?=some (.int .i64 0):=by rw[←hop];rfl
 have hE:opE m l=.mk 1 0 (El.cons (.mk 0 16 true [] [.mk 0 2 false [UInt8.ofNat m.ver.toNat] [],.mk 0 4 false m.dn [],.mk 2 3 true [] [.mk 0 4 false m.secret []]])) (El.bytes (.mk 0 16 true [] [.mk 0 2 false [UInt8.ofNat m.ver.toNat] [],.mk 0 4 false m.dn [],.mk 2 3 true [] [.mk 0 4 false m.secret []]])) (El.kids (.mk 0 16 true [] [.mk 0 2 false [UInt8.ofNat m.ver.toNat] [],.mk 0 4 false m.dn [],.mk 2 3 true [] [.mk 0 4 false m.secret []]])):=by simp[opE,hop,El.cons,El.bytes,El.kids,ip,hs,hsg]
 rw[hE];have hr:l.mods.all (fun x=>bB x.1 2)=true:=by rw[hmo (by rw[hop];decide)];rfl
 refine dG (opx w m l) m.row w 2 0 (by decide) (.mk 0 16 true [] [.mk 0 2 false [UInt8.ofNat m.ver.toNat] [],.mk 0 4 false m.dn [],.mk 2 3 true [] [.mk 0 4 false m.secret []]]) (by have h1:=hk.dn;have h2:=hk.secret;simp[SmE,SmL];omega) rfl hrow1 rfl rfl rfl rfl rfl (by have:=hk.typ;show m.typ.length≤_;omega) (by have:=hk.value;show m.value.length≤_;omega) (dj hm hk hr) (cZ hm hk) ?_;intro V w' hV hb hM;have hV:V=.func (.func 116) #[] #[.pointer (some ⟨w.heap.size,0,none⟩)]:=hV;subst hV;refine⟨_,_,rfl,oz,?_⟩;refine(nR w.heap.size m.ver.toNat m.row m.dn m.secret w' hM (by omega) rfl hvn (by rw[←hs];rfl) rfl (by have:=hk.dn;omega) (by have:=hk.secret;omega)).mono ?_;rintro e w'' ⟨⟨u,rfl,hu⟩,hb'⟩;exact⟨⟨u,rfl,hu.mono fun _ _ _=>trivial⟩,hb'⟩
theorem qc(m:Mg)(l:Ls)(w:World)(hm:MgM w m l)(hk:LsOk m l)(hv:bH m l=true)(hop:m.op=0)(hs:m.sasl=false):Calls Tryz.prog 73 #[.agg m.row] w fun e w'=>(∃u,e=.returned (.agg (elA (opE m l) u))∧bf (fun g=>w.heap.size≤g) w' u (opE m l).kids)∧Below w.heap.size w w':=by
 obtain⟨hkb,⟨hi0,hi1⟩,hmo⟩:=bT hv;simp only[br,hop,if_true,aI,aT] at hkb;obtain⟨hv1,hv2⟩:=hkb;have hvn:m.row[3]?=some (.int .i64 (m.ver.toNat:Int)):=by rw[show((m.ver.toNat:Nat):Int)=m.ver by omega];rfl
 have hsg:=kX (n:=m.ver.toNat) (by omega);have hrow1:m.row[1]?=some (.int .i64 0):=by rw[←hop];rfl
 have hE:opE m l=.mk 1 0 (El.cons (.mk 0 16 true [] [.mk 0 2 false [UInt8.ofNat m.ver.toNat] [],.mk 0 4 false m.dn [],.mk 2 0 false m.secret []])) (El.bytes (.mk 0 16 true [] [.mk 0 2 false [UInt8.ofNat m.ver.toNat] [],.mk 0 4 false m.dn [],.mk 2 0 false m.secret []])) (El.kids (.mk 0 16 true [] [.mk 0 2 false [UInt8.ofNat m.ver.toNat] [],.mk 0 4 false m.dn [],.mk 2 0 false m.secret []])):=by simp[opE,hop,El.cons,El.bytes,El.kids,ip,hs,hsg]
 rw[hE];have hr:l.mods.all (fun x=>bB x.1 2)=true:=by rw[hmo (by rw[hop];decide)];rfl
 refine dG (opx w m l) m.row w 2 0 (by decide) (.mk 0 16 true [] [.mk 0 2 false [UInt8.ofNat m.ver.toNat] [],.mk 0 4 false m.dn [],.mk 2 0 false m.secret []]) (by have h1:=hk.dn;have h2:=hk.secret;simp[SmE,SmL];omega) rfl hrow1 rfl rfl rfl rfl rfl (by have:=hk.typ;show m.typ.length≤_;omega) (by have:=hk.value;show m.value.length≤_;omega) (dj hm hk hr) (cZ hm hk) ?_;intro V w' hV hb hM;have hV:V=.func (.func 116) #[] #[.pointer (some ⟨w.heap.size,0,none⟩)]:=hV;subst hV;refine⟨_,_,rfl,oz,?_⟩;refine(Am w.heap.size m.ver.toNat m.row m.dn m.secret w' hM (by omega) rfl hvn (by rw[←hs];rfl) rfl (by have:=hk.dn;omega) (by have:=hk.secret;omega)).mono ?_;rintro e w'' ⟨⟨u,rfl,hu⟩,hb'⟩;exact⟨⟨u,rfl,hu.mono fun _ _ _=>trivial⟩,hb'⟩
theorem nh(m:Mg)(l:Ls)(w:World)(hm:MgM w m l)(hk:LsOk m l)(hv:bH m l=true)(hop:m.op=2):Calls Tryz.prog 73 #[.agg m.row] w fun e w'=>(∃u,e=.returned (.agg (elA (opE m l) u))∧bf (fun g=>w.heap.size≤g) w' u (opE m l).kids)∧Below w.heap.size w w':=by
 obtain⟨hkb,⟨hi0,hi1⟩,hmo⟩:=bT hv;have hrow1:m.row[1]?=some (.int .i64 2):=by rw[←hop];rfl
 have hE:opE m l=.mk 1 2 (El.cons (.mk 0 4 false [] [])) (El.bytes (.mk 0 4 false [] [])) (El.kids (.mk 0 4 false [] [])):=by simp[opE,hop,El.cons,El.bytes,El.kids]
 rw[hE];have hr:l.mods.all (fun x=>bB x.1 2)=true:=by rw[hmo (by rw[hop];decide)];rfl
 refine dG (opx w m l) m.row w 3 2 (by decide) (.mk 0 4 false [] []) (by simp[SmE,SmL]) rfl hrow1 rfl rfl rfl rfl rfl (by have:=hk.typ;show m.typ.length≤_;omega) (by have:=hk.value;show m.value.length≤_;omega) (dj hm hk hr) (cZ hm hk) ?_;intro V w' hV hb hM;have hV:V=.func (.func 117) #[] #[]:=hV;subst hV;refine⟨_,_,rfl,sT,?_⟩;refine(mV w').mono ?_;rintro e w'' ⟨⟨u,rfl,hu⟩,hb'⟩;exact⟨⟨u,rfl,hu.mono fun _ _ _=>trivial⟩,hb'⟩
theorem ni(m:Mg)(l:Ls)(w:World)(hm:MgM w m l)(hk:LsOk m l)(hv:bH m l=true)(hop:m.op=10):Calls Tryz.prog 73 #[.agg m.row] w fun e w'=>(∃u,e=.returned (.agg (elA (opE m l) u))∧bf (fun g=>w.heap.size≤g) w' u (opE m l).kids)∧Below w.heap.size w w':=by
 obtain⟨hkb,⟨hi0,hi1⟩,hmo⟩:=bT hv;have hrow1:m.row[1]?=some (.int .i64 10):=by rw[←hop];rfl
 have hE:opE m l=.mk 1 10 (El.cons (.mk 0 4 false m.dn [])) (El.bytes (.mk 0 4 false m.dn [])) (El.kids (.mk 0 4 false m.dn [])):=by simp[opE,hop,El.cons,El.bytes,El.kids]
 rw[hE];have hr:l.mods.all (fun x=>bB x.1 2)=true:=by rw[hmo (by rw[hop];decide)];rfl
 refine dG (opx w m l) m.row w 37 10 (by decide) (.mk 0 4 false m.dn []) (by have:=hk.dn;simp[SmE,SmL];omega) rfl hrow1 rfl rfl rfl rfl rfl (by have:=hk.typ;show m.typ.length≤_;omega) (by have:=hk.value;show m.value.length≤_;omega) (dj hm hk hr) (cZ hm hk) ?_;intro V w' hV hb hM;have hV:V=.func (.func 123) #[] #[.pointer (some ⟨w.heap.size,0,none⟩)]:=hV;subst hV;refine⟨_,_,rfl,Cd,?_⟩;refine(qW w.heap.size _ m.dn w' hM rfl).mono ?_;rintro e w'' ⟨rfl,hb'⟩;exact⟨⟨_,rfl,bf.nil _ _⟩,hb'⟩
theorem mj(m:Mg)(l:Ls)(w:World)(hm:MgM w m l)(hk:LsOk m l)(hv:bH m l=true)(hop:m.op=16):Calls Tryz.prog 73 #[.agg m.row] w fun e w'=>(∃u,e=.returned (.agg (elA (opE m l) u))∧bf (fun g=>w.heap.size≤g) w' u (opE m l).kids)∧Below w.heap.size w w':=by
 obtain⟨hkb,⟨hi0,hi1⟩,hmo⟩:=bT hv;simp only[br,hop] at hkb;have h1:=hkb
 simp[bB] at h1
 have hvn:m.row[23]?=some (.int .i64 (m.target.toNat:Int)):=by rw[show((m.target.toNat:Nat):Int)=m.target by omega];rfl
 have hrow1:m.row[1]?=some (.int .i64 16):=by rw[←hop];rfl
 have hE:opE m l=.mk 1 16 (El.cons (.mk 0 2 false (sgB m.target.toNat) [])) (El.bytes (.mk 0 2 false (sgB m.target.toNat) [])) (El.kids (.mk 0 2 false (sgB m.target.toNat) [])):=by simp[opE,hop,El.cons,El.bytes,El.kids]
 rw[hE];have hr:l.mods.all (fun x=>bB x.1 2)=true:=by rw[hmo (by rw[hop];decide)];rfl
 refine dG (opx w m l) m.row w 56 16 (by decide) (.mk 0 2 false (sgB m.target.toNat) []) (by have:=(eg m.target.toNat).2;simp[SmE,SmL];omega) rfl hrow1 rfl rfl rfl rfl rfl (by have:=hk.typ;show m.typ.length≤_;omega) (by have:=hk.value;show m.value.length≤_;omega) (dj hm hk hr) (cZ hm hk) ?_;intro V w' hV hb hM;have hV:V=.func (.func 125) #[] #[.pointer (some ⟨w.heap.size,0,none⟩)]:=hV;subst hV;refine⟨_,_,rfl,Bo,?_⟩;refine(lW w.heap.size m.target.toNat m.row w' hM hvn (by omega)).mono ?_;rintro e w'' ⟨⟨u,rfl,hu⟩,hb'⟩;exact⟨⟨u,rfl,hu.mono fun _ _ _=>trivial⟩,hb'⟩
theorem qd(m:Mg)(l:Ls)(w:World)(hm:MgM w m l)(hk:LsOk m l)(hv:bH m l=true)(hop:m.op=12)(hs:m.hasSup=true):Calls Tryz.prog 73 #[.agg m.row] w fun e w'=>(∃u,e=.returned (.agg (elA (opE m l) u))∧bf (fun g=>w.heap.size≤g) w' u (opE m l).kids)∧Below w.heap.size w w':=by
 obtain⟨hkb,⟨hi0,hi1⟩,hmo⟩:=bT hv;have hrow1:m.row[1]?=some (.int .i64 12):=by rw[←hop];rfl
 have hE:opE m l=.mk 1 12 (El.cons (.mk 0 16 true [] [.mk 0 4 false m.dn [],.mk 0 4 false m.newRdn [],.mk 0 1 false (blB m.delOld) [],.mk 2 0 false m.newSup []])) (El.bytes (.mk 0 16 true [] [.mk 0 4 false m.dn [],.mk 0 4 false m.newRdn [],.mk 0 1 false (blB m.delOld) [],.mk 2 0 false m.newSup []])) (El.kids (.mk 0 16 true [] [.mk 0 4 false m.dn [],.mk 0 4 false m.newRdn [],.mk 0 1 false (blB m.delOld) [],.mk 2 0 false m.newSup []])):=by simp[opE,hop,El.cons,El.bytes,El.kids,hs]
 rw[hE];have hr:l.mods.all (fun x=>bB x.1 2)=true:=by rw[hmo (by rw[hop];decide)];rfl
 refine dG (opx w m l) m.row w 39 12 (by decide) (.mk 0 16 true [] [.mk 0 4 false m.dn [],.mk 0 4 false m.newRdn [],.mk 0 1 false (blB m.delOld) [],.mk 2 0 false m.newSup []]) (by have h1:=hk.dn;have h2:=hk.newRdn;have h3:=hk.newSup;have h4:(blB m.delOld).length=1:=(by cases m.delOld<;>rfl);simp[SmE,SmL];omega) rfl hrow1 rfl rfl rfl rfl rfl (by have:=hk.typ;show m.typ.length≤_;omega) (by have:=hk.value;show m.value.length≤_;omega) (dj hm hk hr) (cZ hm hk) ?_;intro V w' hV hb hM;have hV:V=.func (.func 124) #[] #[.pointer (some ⟨w.heap.size,0,none⟩)]:=hV;subst hV;refine⟨_,_,rfl,og,?_⟩;refine(nX w.heap.size m.row m.dn m.newRdn m.newSup m.delOld w' hM rfl rfl rfl (by rw[←hs];rfl) rfl (by have:=hk.dn;omega) (by have:=hk.newRdn;omega) (by have:=hk.newSup;omega)).mono ?_;rintro e w'' ⟨⟨u,rfl,hu⟩,hb'⟩;exact⟨⟨u,rfl,hu.mono fun _ _ _=>trivial⟩,hb'⟩
theorem qe(m:Mg)(l:Ls)(w:World)(hm:MgM w m l)(hk:LsOk m l)(hv:bH m l=true)(hop:m.op=12)(hs:m.hasSup=false):Calls Tryz.prog 73 #[.agg m.row] w fun e w'=>(∃u,e=.returned (.agg (elA (opE m l) u))∧bf (fun g=>w.heap.size≤g) w' u (opE m l).kids)∧Below w.heap.size w w':=by
 obtain⟨hkb,⟨hi0,hi1⟩,hmo⟩:=bT hv;have hrow1:m.row[1]?=some (.int .i64 12):=by rw[←hop];rfl
 have hE:opE m l=.mk 1 12 (El.cons (.mk 0 16 true [] [.mk 0 4 false m.dn [],.mk 0 4 false m.newRdn [],.mk 0 1 false (blB m.delOld) []])) (El.bytes (.mk 0 16 true [] [.mk 0 4 false m.dn [],.mk 0 4 false m.newRdn [],.mk 0 1 false (blB m.delOld) []])) (El.kids (.mk 0 16 true [] [.mk 0 4 false m.dn [],.mk 0 4 false m.newRdn [],.mk 0 1 false (blB m.delOld) []])):=by simp[opE,hop,El.cons,El.bytes,El.kids,hs]
 rw[hE];have hr:l.mods.all (fun x=>bB x.1 2)=true:=by rw[hmo (by rw[hop];decide)];rfl
 refine dG (opx w m l) m.row w 39 12 (by decide) (.mk 0 16 true [] [.mk 0 4 false m.dn [],.mk 0 4 false m.newRdn [],.mk 0 1 false (blB m.delOld) []]) (by have h1:=hk.dn;have h2:=hk.newRdn;have h3:=hk.newSup;have h4:(blB m.delOld).length=1:=(by cases m.delOld<;>rfl);simp[SmE,SmL];omega) rfl hrow1 rfl rfl rfl rfl rfl (by have:=hk.typ;show m.typ.length≤_;omega) (by have:=hk.value;show m.value.length≤_;omega) (dj hm hk hr) (cZ hm hk) ?_;intro V w' hV hb hM;have hV:V=.func (.func 124) #[] #[.pointer (some ⟨w.heap.size,0,none⟩)]:=hV;subst hV;refine⟨_,_,rfl,og,?_⟩;refine(nW w.heap.size m.row m.dn m.newRdn m.delOld w' hM rfl rfl rfl (by rw[←hs];rfl) (by have:=hk.dn;omega) (by have:=hk.newRdn;omega)).mono ?_;rintro e w'' ⟨⟨u,rfl,hu⟩,hb'⟩;exact⟨⟨u,rfl,hu.mono fun _ _ _=>trivial⟩,hb'⟩
theorem nj(m:Mg)(l:Ls)(w:World)(hm:MgM w m l)(hk:LsOk m l)(hv:bH m l=true)(hop:m.op=23)(hs:m.has=true):Calls Tryz.prog 73 #[.agg m.row] w fun e w'=>(∃u,e=.returned (.agg (elA (opE m l) u))∧bf (fun g=>w.heap.size≤g) w' u (opE m l).kids)∧Below w.heap.size w w':=by
 obtain⟨hkb,⟨hi0,hi1⟩,hmo⟩:=bT hv;have hrow1:m.row[1]?=some (.int .i64 23):=by rw[←hop];rfl
 have hE:opE m l=.mk 1 23 (El.cons (.mk 0 16 true [] [.mk 2 0 false m.oid [],.mk 2 1 false m.value []])) (El.bytes (.mk 0 16 true [] [.mk 2 0 false m.oid [],.mk 2 1 false m.value []])) (El.kids (.mk 0 16 true [] [.mk 2 0 false m.oid [],.mk 2 1 false m.value []])):=by simp[opE,hop,El.cons,El.bytes,El.kids,hs]
 rw[hE];have hr:l.mods.all (fun x=>bB x.1 2)=true:=by rw[hmo (by rw[hop];decide)];rfl
 refine dG (opx w m l) m.row w 58 23 (by decide) (.mk 0 16 true [] [.mk 2 0 false m.oid [],.mk 2 1 false m.value []]) (by have h1:=hk.oid;have h2:=hk.value;simp[SmE,SmL];omega) rfl hrow1 rfl rfl rfl rfl rfl (by have:=hk.typ;show m.typ.length≤_;omega) (by have:=hk.value;show m.value.length≤_;omega) (dj hm hk hr) (cZ hm hk) ?_;intro V w' hV hb hM;have hV:V=.func (.func 126) #[] #[.pointer (some ⟨w.heap.size,0,none⟩)]:=hV;subst hV;refine⟨_,_,rfl,oh,?_⟩;refine(pH w.heap.size m.row m.oid m.value w' hM rfl (by rw[←hs];rfl) rfl (by have:=hk.oid;omega) (by have:=hk.value;omega)).mono ?_;rintro e w'' ⟨⟨u,rfl,hu⟩,hb'⟩;exact⟨⟨u,rfl,hu.mono fun _ _ _=>trivial⟩,hb'⟩
theorem nl(m:Mg)(l:Ls)(w:World)(hm:MgM w m l)(hk:LsOk m l)(hv:bH m l=true)(hop:m.op=23)(hs:m.has=false):Calls Tryz.prog 73 #[.agg m.row] w fun e w'=>(∃u,e=.returned (.agg (elA (opE m l) u))∧bf (fun g=>w.heap.size≤g) w' u (opE m l).kids)∧Below w.heap.size w w':=by
 obtain⟨hkb,⟨hi0,hi1⟩,hmo⟩:=bT hv;have hrow1:m.row[1]?=some (.int .i64 23):=by rw[←hop];rfl
 have hE:opE m l=.mk 1 23 (El.cons (.mk 0 16 true [] [.mk 2 0 false m.oid []])) (El.bytes (.mk 0 16 true [] [.mk 2 0 false m.oid []])) (El.kids (.mk 0 16 true [] [.mk 2 0 false m.oid []])):=by simp[opE,hop,El.cons,El.bytes,El.kids,hs]
 rw[hE];have hr:l.mods.all (fun x=>bB x.1 2)=true:=by rw[hmo (by rw[hop];decide)];rfl
 refine dG (opx w m l) m.row w 58 23 (by decide) (.mk 0 16 true [] [.mk 2 0 false m.oid []]) (by have h1:=hk.oid;have h2:=hk.value;simp[SmE,SmL];omega) rfl hrow1 rfl rfl rfl rfl rfl (by have:=hk.typ;show m.typ.length≤_;omega) (by have:=hk.value;show m.value.length≤_;omega) (dj hm hk hr) (cZ hm hk) ?_;intro V w' hV hb hM;have hV:V=.func (.func 126) #[] #[.pointer (some ⟨w.heap.size,0,none⟩)]:=hV;subst hV;refine⟨_,_,rfl,oh,?_⟩;refine(pG w.heap.size m.row m.oid w' hM rfl (by rw[←hs];rfl) (by have:=hk.oid;omega)).mono ?_;rintro e w'' ⟨⟨u,rfl,hu⟩,hb'⟩;exact⟨⟨u,rfl,hu.mono fun _ _ _=>trivial⟩,hb'⟩
theorem np(m:Mg)(l:Ls)(w:World)(hm:MgM w m l)(hk:LsOk m l)(hv:bH m l=true)(hop:m.op=3):Calls Tryz.prog 73 #[.agg m.row] w fun e w'=>(∃u,e=.returned (.agg (elA (opE m l) u))∧bf (fun g=>w.heap.size≤g) w' u (opE m l).kids)∧Below w.heap.size w w':=by
 obtain⟨hkb,⟨hi0,hi1⟩,hmo⟩:=bT hv;have hkb2:(bB m.scope 2&&bB m.deref 3&&bB m.size 2147483647&&bB m.time 2147483647&&dz l.filt)=true:=by simpa[br,hop] using hkb
 simp only[aI,bB,aT,dz] at hkb2;obtain⟨⟨⟨⟨h1,h2⟩,h3⟩,h4⟩,h5,h6⟩:=hkb2;have hw:bG 20 l.filt=some []:=by
  split at h6
  ·assumption
  ·cases h6
 have hc:∀n:Int,0≤n→((n.toNat:Nat):Int)=n:=fun n h=>by omega
 have hsm:SmE (.mk 0 16 true [] (cY m.dn m.scope.toNat m.deref.toNat m.size.toNat m.time.toNat m.types (cD 20 l.filt).1 l.sel)):=by
  simp only[SmE];exact⟨by simp,by simp[cY],xO _ _ _ _ _ _ _ _ (by have:=hk.dn;omega) (jr 20 l.filt [] (fun p hp=>(hk.filt.2 p hp).1) h5 hw) hk.sels (by have:=hk.sel;omega)⟩
 have hrow1:m.row[1]?=some (.int .i64 3):=by rw[←hop];rfl
 have hE:opE m l=.mk 1 3 (El.cons (.mk 0 16 true [] (cY m.dn m.scope.toNat m.deref.toNat m.size.toNat m.time.toNat m.types (cD 20 l.filt).1 l.sel))) (El.bytes (.mk 0 16 true [] (cY m.dn m.scope.toNat m.deref.toNat m.size.toNat m.time.toNat m.types (cD 20 l.filt).1 l.sel))) (El.kids (.mk 0 16 true [] (cY m.dn m.scope.toNat m.deref.toNat m.size.toNat m.time.toNat m.types (cD 20 l.filt).1 l.sel))):=by simp[opE,hop,El.cons,El.bytes,El.kids]
 rw[hE];have hr:l.mods.all (fun x=>bB x.1 2)=true:=by rw[hmo (by rw[hop];decide)];rfl
 refine dG (opx w m l) m.row w 5 3 (by decide) (.mk 0 16 true [] (cY m.dn m.scope.toNat m.deref.toNat m.size.toNat m.time.toNat m.types (cD 20 l.filt).1 l.sel)) (hsm) rfl hrow1 rfl rfl rfl rfl rfl (by have:=hk.typ;show m.typ.length≤_;omega) (by have:=hk.value;show m.value.length≤_;omega) (dj hm hk hr) (cZ hm hk) ?_;intro V w' hV hb hM;have hV:V=.func (.func 118) #[] #[.pointer (some ⟨w.heap.size,0,none⟩)]:=hV;subst hV;refine⟨_,_,rfl,sU,?_⟩;refine(mX w.heap.size m.row m.dn m.scope.toNat m.deref.toNat m.size.toNat m.time.toNat m.types m.filt m.sel l.filt l.sel w' hM rfl (by rw[hc _ h1.1];rfl) (by rw[hc _ h2.1];rfl) (by rw[hc _ h3.1];rfl) (by rw[hc _ h4.1];rfl) rfl rfl rfl (by have:=hk.dn;omega) (by omega) (by omega) (by omega) (by omega) (hm.filt.below hb) hk.filt h5 hw (hm.sel.below hb) hk.sel hk.sels).mono ?_;rintro e w'' ⟨⟨u,rfl,hu⟩,hb'⟩;exact⟨⟨u,rfl,hu.mono fun _ _ _=>trivial⟩,hb'⟩
theorem nq(m:Mg)(l:Ls)(w:World)(hm:MgM w m l)(hk:LsOk m l)(hv:bH m l=true)(hop:m.op=6):Calls Tryz.prog 73 #[.agg m.row] w fun e w'=>(∃u,e=.returned (.agg (elA (opE m l) u))∧bf (fun g=>w.heap.size≤g) w' u (opE m l).kids)∧Below w.heap.size w w':=by
 obtain⟨hkb,⟨hi0,hi1⟩,hmo⟩:=bT hv;have hrow1:m.row[1]?=some (.int .i64 6):=by rw[←hop];rfl
 have hE:opE m l=.mk 1 6 (El.cons (.mk 0 16 true [] [.mk 0 4 false m.dn [],.mk 0 16 true [] ((dR l.mods).map du)])) (El.bytes (.mk 0 16 true [] [.mk 0 4 false m.dn [],.mk 0 16 true [] ((dR l.mods).map du)])) (El.kids (.mk 0 16 true [] [.mk 0 4 false m.dn [],.mk 0 16 true [] ((dR l.mods).map du)])):=by simp[opE,hop,El.cons,El.bytes,El.kids]
 rw[hE];have hr:l.mods.all (fun x=>bB x.1 2)=true:=by simpa[br,hop] using hkb
 have hsm:SmE (.mk 0 16 true [] [.mk 0 4 false m.dn [],.mk 0 16 true [] ((dR l.mods).map du)]):=by
  have h1:=hk.dn;have h2:=mg hk hr;simp only[SmE,SmL] at h2⊢
  simp at h2⊢
  exact⟨by omega,h2⟩
 refine dG (opx w m l) m.row w 15 6 (by decide) (.mk 0 16 true [] [.mk 0 4 false m.dn [],.mk 0 16 true [] ((dR l.mods).map du)]) (hsm) rfl hrow1 rfl rfl rfl rfl rfl (by have:=hk.typ;show m.typ.length≤_;omega) (by have:=hk.value;show m.value.length≤_;omega) (dj hm hk hr) (cZ hm hk) ?_;intro V w' hV hb hM;obtain⟨bc,u,rfl,hc,hu⟩:fc [.mk 0 4 false m.dn [],.mk 0 16 true [] ((dR l.mods).map du)] V w':=hV;refine⟨_,_,rfl,xy,?_⟩;refine(gh bc u [.mk 0 4 false m.dn [],.mk 0 16 true [] ((dR l.mods).map du)] w' hc hu (by have h:=hsm;simp only[SmE] at h;exact h.2.2) (by simp)).mono ?_;rintro e w'' ⟨⟨u,rfl,hu⟩,hb'⟩;exact⟨⟨u,rfl,hu.mono fun _ _ _=>trivial⟩,hb'⟩
theorem rD(m:Mg)(l:Ls)(w:World)(hm:MgM w m l)(hk:LsOk m l)(hv:bH m l=true)(hop:m.op=8):Calls Tryz.prog 73 #[.agg m.row] w fun e w'=>(∃u,e=.returned (.agg (elA (opE m l) u))∧bf (fun g=>w.heap.size≤g) w' u (opE m l).kids)∧Below w.heap.size w w':=by
 obtain⟨hkb,⟨hi0,hi1⟩,hmo⟩:=bT hv;have hrow1:m.row[1]?=some (.int .i64 8):=by rw[←hop];rfl
 have hE:opE m l=.mk 1 8 (El.cons (.mk 0 16 true [] [.mk 0 4 false m.dn [],.mk 0 16 true [] (l.attrs.map bI)])) (El.bytes (.mk 0 16 true [] [.mk 0 4 false m.dn [],.mk 0 16 true [] (l.attrs.map bI)])) (El.kids (.mk 0 16 true [] [.mk 0 4 false m.dn [],.mk 0 16 true [] (l.attrs.map bI)])):=by simp[opE,hop,El.cons,El.bytes,El.kids]
 rw[hE];have hr:l.mods.all (fun x=>bB x.1 2)=true:=by rw[hmo (by rw[hop];decide)];rfl
 have hsm:SmE (.mk 0 16 true [] [.mk 0 4 false m.dn [],.mk 0 16 true [] (l.attrs.map bI)]):=by
  have h1:=hk.dn;have h2:=xF hk;simp only[SmE,SmL] at h2⊢
  simp at h2⊢
  exact⟨by omega,h2⟩
 refine dG (opx w m l) m.row w 25 8 (by decide) (.mk 0 16 true [] [.mk 0 4 false m.dn [],.mk 0 16 true [] (l.attrs.map bI)]) (hsm) rfl hrow1 rfl rfl rfl rfl rfl (by have:=hk.typ;show m.typ.length≤_;omega) (by have:=hk.value;show m.value.length≤_;omega) (dj hm hk hr) (cZ hm hk) ?_;intro V w' hV hb hM;obtain⟨bc,u,rfl,hc,hu⟩:fc [.mk 0 4 false m.dn [],.mk 0 16 true [] (l.attrs.map bI)] V w':=hV;refine⟨_,_,rfl,xy,?_⟩;refine(gh bc u [.mk 0 4 false m.dn [],.mk 0 16 true [] (l.attrs.map bI)] w' hc hu (by have h:=hsm;simp only[SmE] at h;exact h.2.2) (by simp)).mono ?_;rintro e w'' ⟨⟨u,rfl,hu⟩,hb'⟩;exact⟨⟨u,rfl,hu.mono fun _ _ _=>trivial⟩,hb'⟩
theorem oR(m:Mg)(l:Ls)(w:World)(hm:MgM w m l)(hk:LsOk m l)(hv:bH m l=true)(hop:m.op=4):Calls Tryz.prog 73 #[.agg m.row] w fun e w'=>(∃u,e=.returned (.agg (elA (opE m l) u))∧bf (fun g=>w.heap.size≤g) w' u (opE m l).kids)∧Below w.heap.size w w':=by
 obtain⟨hkb,⟨hi0,hi1⟩,hmo⟩:=bT hv;have hrow1:m.row[1]?=some (.int .i64 4):=by rw[←hop];rfl
 have hE:opE m l=.mk 1 4 (El.cons (.mk 0 16 true [] [.mk 0 4 false m.dn [],.mk 0 16 true [] (l.attrs.map bI)])) (El.bytes (.mk 0 16 true [] [.mk 0 4 false m.dn [],.mk 0 16 true [] (l.attrs.map bI)])) (El.kids (.mk 0 16 true [] [.mk 0 4 false m.dn [],.mk 0 16 true [] (l.attrs.map bI)])):=by simp[opE,hop,El.cons,El.bytes,El.kids]
 rw[hE];have hr:l.mods.all (fun x=>bB x.1 2)=true:=by rw[hmo (by rw[hop];decide)];rfl
 have hsm:SmE (.mk 0 16 true [] [.mk 0 4 false m.dn [],.mk 0 16 true [] (l.attrs.map bI)]):=by
  have h1:=hk.dn;have h2:=xF hk;simp only[SmE,SmL] at h2⊢
  simp at h2⊢
  exact⟨by omega,h2⟩
 refine dG (opx w m l) m.row w 35 4 (by decide) (.mk 0 16 true [] [.mk 0 4 false m.dn [],.mk 0 16 true [] (l.attrs.map bI)]) (hsm) rfl hrow1 rfl rfl rfl rfl rfl (by have:=hk.typ;show m.typ.length≤_;omega) (by have:=hk.value;show m.value.length≤_;omega) (dj hm hk hr) (cZ hm hk) ?_;intro V w' hV hb hM;obtain⟨bc,u,rfl,hc,hu⟩:fc [.mk 0 4 false m.dn [],.mk 0 16 true [] (l.attrs.map bI)] V w':=hV;refine⟨_,_,rfl,xy,?_⟩;refine(gh bc u [.mk 0 4 false m.dn [],.mk 0 16 true [] (l.attrs.map bI)] w' hc hu (by have h:=hsm;simp only[SmE] at h;exact h.2.2) (by simp)).mono ?_;rintro e w'' ⟨⟨u,rfl,hu⟩,hb'⟩;exact⟨⟨u,rfl,hu.mono fun _ _ _=>trivial⟩,hb'⟩
theorem mm(m:Mg)(l:Ls)(w:World)(hm:MgM w m l)(hk:LsOk m l)(hv:bH m l=true)(hop:m.op=14):Calls Tryz.prog 73 #[.agg m.row] w fun e w'=>(∃u,e=.returned (.agg (elA (opE m l) u))∧bf (fun g=>w.heap.size≤g) w' u (opE m l).kids)∧Below w.heap.size w w':=by
 obtain⟨hkb,⟨hi0,hi1⟩,hmo⟩:=bT hv;have hrow1:m.row[1]?=some (.int .i64 14):=by rw[←hop];rfl
 have hE:opE m l=.mk 1 14 (El.cons (.mk 0 16 true [] [.mk 0 4 false m.dn [],.mk 0 16 true [] [.mk 0 4 false m.typ [],.mk 0 4 false m.value []]])) (El.bytes (.mk 0 16 true [] [.mk 0 4 false m.dn [],.mk 0 16 true [] [.mk 0 4 false m.typ [],.mk 0 4 false m.value []]])) (El.kids (.mk 0 16 true [] [.mk 0 4 false m.dn [],.mk 0 16 true [] [.mk 0 4 false m.typ [],.mk 0 4 false m.value []]])):=by simp[opE,hop,El.cons,El.bytes,El.kids]
 rw[hE];have hr:l.mods.all (fun x=>bB x.1 2)=true:=by rw[hmo (by rw[hop];decide)];rfl
 have hsm:SmE (.mk 0 16 true [] [.mk 0 4 false m.dn [],.mk 0 16 true [] [.mk 0 4 false m.typ [],.mk 0 4 false m.value []]]):=by
  have h1:=hk.dn;have h2:=hk.typ;have h3:=hk.value
  simp[SmE,SmL]
  omega
 refine dG (opx w m l) m.row w 54 14 (by decide) (.mk 0 16 true [] [.mk 0 4 false m.dn [],.mk 0 16 true [] [.mk 0 4 false m.typ [],.mk 0 4 false m.value []]]) (hsm) rfl hrow1 rfl rfl rfl rfl rfl (by have:=hk.typ;show m.typ.length≤_;omega) (by have:=hk.value;show m.value.length≤_;omega) (dj hm hk hr) (cZ hm hk) ?_;intro V w' hV hb hM;obtain⟨bc,u,rfl,hc,hu⟩:fc [.mk 0 4 false m.dn [],.mk 0 16 true [] [.mk 0 4 false m.typ [],.mk 0 4 false m.value []]] V w':=hV;refine⟨_,_,rfl,xy,?_⟩;refine(gh bc u [.mk 0 4 false m.dn [],.mk 0 16 true [] [.mk 0 4 false m.typ [],.mk 0 4 false m.value []]] w' hc hu (by have h:=hsm;simp only[SmE] at h;exact h.2.2) (by simp)).mono ?_;rintro e w'' ⟨⟨u,rfl,hu⟩,hb'⟩;exact⟨⟨u,rfl,hu.mono fun _ _ _=>trivial⟩,hb'⟩
theorem lg{m:Mg}{l:Ls}(h:br m l=true)(hn:m.op∉([0,2,3,6,8,4,10,12,14,16,23]:List Int)):0≤m.code∧m.code≤2147483647:=by
 simp only[aY,aZ,or_false,not_or] at hn;obtain⟨h0,h2,h3,h6,h8,h4,h10,h12,h14,h16,h23⟩:=hn;simp only[br,h0,h2,h3,h6,h8,h4,h10,h12,h14,h16,h23,if_false,or_self] at h
 by_cases h24:m.op=24
 ·simp only[h24,if_true,aI,bB,aT] at h;exact h.1
 ·simp only[h24,if_false] at h
  split at h
  ·simp only[bB,aI,aT] at h;exact h
  ·cases h
theorem nr(m:Mg)(l:Ls)(w:World)(hm:MgM w m l)(hk:LsOk m l)(hv:bH m l=true)(hn:m.op∉([0,2,3,6,8,4,10,12,14,16,23]:List Int)):Calls Tryz.prog 73 #[.agg m.row] w fun e w'=>(∃u,e=.returned (.agg (elA (opE m l) u))∧bf (fun g=>w.heap.size≤g) w' u (opE m l).kids)∧Below w.heap.size w w':=by
 obtain⟨hkb,⟨hi0,hi1⟩,hmo⟩:=bT hv;obtain⟨hc0,hc1⟩:=lg hkb hn;have hr:l.mods.all (fun x=>bB x.1 2)=true:=by rw[hmo (by rintro h;rw[h] at hn;exact hn (by decide))];rfl
 obtain⟨hs1,hs2⟩:=kY hk (by omega);have hE:opE m l=.mk 1 m.op true [] (dh m):=by
  simp only[aY,aZ,or_false,not_or] at hn;obtain⟨h0,h2,h3,h6,h8,h4,h10,h12,h14,h16,h23⟩:=hn;simp only[opE,h0,h2,h3,h6,h8,h4,h10,h12,h14,h16,h23,if_false,or_self]
 rw[hE];exact tr (opx w m l) m.row w m.op (fun p hp h=>by
  rw[←h] at hn
  revert hn
  simp only[opL,aY,aZ,or_false] at hp;rcases hp with rfl|rfl|rfl|rfl|rfl|rfl|rfl|rfl|rfl|rfl|rfl<;>decide) (dh m) hs1 (by omega) rfl rfl rfl rfl rfl rfl rfl rfl (by have:=hk.typ;show m.typ.length≤_;omega) (by have:=hk.value;show m.value.length≤_;omega) (dj hm hk hr) (cZ hm hk) (fun w' _=>oK m l hk hc0 hc1 w')
theorem tK(m:Mg)(l:Ls)(w:World)(hm:MgM w m l)(hk:LsOk m l)(hv:bH m l=true):Calls Tryz.prog 73 #[.agg m.row] w fun e w'=>(∃u,e=.returned (.agg (elA (opE m l) u))∧bf (fun g=>w.heap.size≤g) w' u (opE m l).kids)∧Below w.heap.size w w':=by
 by_cases h0:m.op=0
 ·cases hs:m.sasl
  ·exact qc m l w hm hk hv h0 hs
  ·exact qa m l w hm hk hv h0 hs
 by_cases h2:m.op=2
 ·exact nh m l w hm hk hv h2
 by_cases h3:m.op=3
 ·exact np m l w hm hk hv h3
 by_cases h6:m.op=6
 ·exact nq m l w hm hk hv h6
 by_cases h8:m.op=8
 ·exact rD m l w hm hk hv h8
 by_cases h4:m.op=4
 ·exact oR m l w hm hk hv h4
 by_cases h10:m.op=10
 ·exact ni m l w hm hk hv h10
 by_cases h12:m.op=12
 ·cases hs:m.hasSup
  ·exact qe m l w hm hk hv h12 hs
  ·exact qd m l w hm hk hv h12 hs
 by_cases h14:m.op=14
 ·exact mm m l w hm hk hv h14
 by_cases h16:m.op=16
 ·exact mj m l w hm hk hv h16
 by_cases h23:m.op=23
 ·cases hs:m.has
  ·exact nl m l w hm hk hv h23 hs
  ·exact nj m l w hm hk hv h23 hs
 exact nr m l w hm hk hv (by simp only[aY,aZ,or_false,not_or];exact⟨h0,h2,h3,h6,h8,h4,h10,h12,h14,h16,h23⟩)
def eQ(c:Ct):List El:=if c.crit then[.mk 0 1 false (blB true) []] else[]
def fP(c:Ct):List El:=if c.has then[.mk 0 4 false c.value []] else[]
def fQ(c:Ct):List El:=[.mk 0 4 false c.oid []]++eQ c++fP c
def ei(c:Ct):El:=.mk 0 16 true [] (fQ c)
def mn(m:Mg)(l:Ls):List El:=[.mk 0 2 false (sgB m.id.toNat) [],opE m l]++(if l.ctl=[] then[] else[.mk 2 0 true [] (l.ctl.map ei)])
def wm(m:Mg)(l:Ls):El:=.mk 0 16 true [] (mn m l)
theorem qf(c:Ct)(h:c.oid.length≤100000000∧c.value.length≤100000000):SmL (fQ c)∧(fQ c).length≤3:=by
 unfold fQ eQ fP
 constructor
 ·refine wP _ _ (wP _ _ ?_ ?_) ?_
  ·simp only[SmL,SmE];simp;omega
  ·split<;>simp[SmL,SmE,blB]
  ·split<;>simp only[SmL,SmE]<;>simp;omega
 ·split<;>split<;>simp
theorem kO:∀cl:List Ct,(∀c∈cl,c.oid.length≤100000000∧c.value.length≤100000000)→SmL (cl.map ei)
 |[],_=>by simp[SmL]
 |c::r,h=>by
  have h1:=qf c (h c (by simp));have h2:=kO r (fun x hx=>h x (by simp[hx]));simp only[List.map_cons,SmL,ei,SmE];exact⟨⟨by simp,by omega,h1.1⟩,h2⟩
def vd(w3:World)(cl:List Ct)(v i:Value)(wr:World):Prop:=
 ∃k:Nat,i=.int .i64 (k:Int)∧k≤cl.length∧bJ w3.heap.size wr v ((cl.take k).map ei)∧Below w3.heap.size w3 wr
theorem ns(m:Mg)(l:Ls)(w:World)(hm:MgM w m l)(hk:LsOk m l)(hid:0≤m.id∧m.id≤2147483647)(eo:El)(hso:SmE eo)
  (hop:∀w',Below w.heap.size w w'→Calls Tryz.prog 73 #[.agg m.row] w' fun e w''=>(∃u,e=.returned (.agg (elA eo u))∧bf (fun g=>w'.heap.size≤g) w'' u eo.kids)∧Below w'.heap.size w' w'')
  (K:List El) (hK:K=[.mk 0 2 false (sgB m.id.toNat) [],eo]++(if l.ctl=[] then[] else[.mk 2 0 true [] (l.ctl.map ei)])):
  Calls Tryz.prog 31 #[.agg m.row] w fun e w'=>(∃u,e=.returned (.agg (elA (.mk 0 16 true [] K) u))∧bf (fun g=>w.heap.size≤g) w' u K)∧Below w.heap.size w w':=by
 obtain⟨PR,hPR⟩:∃PR:Ending→World→Prop,PR=fun e w'=>(∃u,e=.returned (.agg (elA (.mk 0 16 true [] K) u))∧bf (fun g=>w.heap.size≤g) w' u K)∧Below w.heap.size w w':=⟨_,rfl⟩
 rw[←hPR]
 obtain⟨HPR,HKK,HOP⟩:=Ch hPR hK hop
 have hidn:m.id=(m.id.toNat:Int):=by omega
 have hidl:m.id.toNat≤2147483647:=by omega
 obtain⟨A,hA⟩:=nmm m.row
 obtain⟨ID,hID⟩:=nmm m.id.toNat
 have hA0:A[0]?=some (.int .i64 (ID:Int)):=by rw[←hA,←hID,←hidn];rfl
 obtain⟨ac,cc,hct,hcc,hcells⟩:=hm.ctl
 have hA27:A[27]?=some (.slice ac l.ctl.length cc):=by rw[←hA,←hct];rfl
 have hA28:A.size=28:=by rw[←hA];rfl
 have hlc:=hk.ctl
 have hcs:=hk.ctls
 have hsc:=kO l.ctl hcs
 rw[hA] at HOP⊢
 rw[hID] at hidl HKK
 obtain⟨HA0,HA27,HA28,HC,HCS,HSC,HSO⟩:=Ck hA0 hA27 hA28 hcells hcs hsc hso
 clear hPR hK hop hidn hA hID hA0 hct hcells hA27 hA28 hcs hsc hso hm hk hid
 have b1:Below w.heap.size w ((w.alloc (.cells A 28)).alloc (.cells #[.int .i64 0,.int .i64 0,.bool false,.string ⟨#[]⟩,.slice none 0 0] 45)):=((ar _ _).alloc (ah _) _).alloc (by simp) _
 have m1:((w.alloc (.cells A 28)).alloc (.cells #[.int .i64 0,.int .i64 0,.bool false,.string ⟨#[]⟩,.slice none 0 0] 45)).heap[w.heap.size]?=some (.cells A 28 (0,0)):=(alloc_old _ _ _ (by simp)).trans (bi _ _ _ rfl)
 have t1:((w.alloc (.cells A 28)).alloc (.cells #[.int .i64 0,.int .i64 0,.bool false,.string ⟨#[]⟩,.slice none 0 0] 45)).heap[w.heap.size+1]?=some (.cells #[.int .i64 0,.int .i64 0,.bool false,.string ⟨#[]⟩,.slice none 0 0] 45 (0,0)):=bi _ _ _ (by simp)
 go_enter Tryz.func31,Tryz.ntmps31
 go_upto_region 1 with fail
 generalize(w.alloc (.cells A 28)).alloc (.cells #[.int .i64 0,.int .i64 0,.bool false,.string ⟨#[]⟩,.slice none 0 0] 45)=w1 at b1 m1 t1⊢
 refine aR (S:=fun w'=>w'.heap[w.heap.size]?=some (.cells A 28 (0,0))) (by kernel_rfl) ?_
 have T:w1.drew.heap[w.heap.size]?=some (.cells A 28 (0,0)):=m1
 have D:Below w.heap.size w w1.drew:=b1.drew
 have R:w1.drew.heap[w.heap.size+1]?=some (.cells #[.int .i64 0,.int .i64 0,.bool false,.string ⟨#[]⟩,.slice none 0 0] 45 (0,0)):=t1
 change wpAnyH _ _ _ _ _ _ _ _ w1.drew
 clear m1 b1 t1
 generalize w1.drew=w2 at T D R⊢
 refine pQ 0 (.pointer (some ⟨w.heap.size,0,none⟩)) rfl (by kernel_rfl) (by kernel_rfl) (by kernel_rfl) (fun _ _ _ h=>h) (by rfl) (fun w' hS=>by go_simp) T (kkn ?_)
 refine pQ 1 (.int .i64 (ID:Int)) rfl (by kernel_rfl) (by kernel_rfl) (by kernel_rfl) (fun _ _ _ h=>h) (by rfl) (fun w' hS=>by have q:=(ap hS 0).trans HA0.out;go_simp) T (kkn ?_)
 refine pQ 3 (.agg A) rfl (by kernel_rfl) (by kernel_rfl) (by kernel_rfl) (fun _ _ _ h=>h) (by rfl) (fun w' hS=>by exact cU 28 (.tmp 1) rfl w.heap.size 28 _ (0,0) (by rfl) hS _ Tryz.underlying28 rfl (by rw[HA28.out];rfl)) T (kkn ?_)
 have kc:=eO 2 ID hidl w2
 refine rn 2 (by kernel_rfl) rfl (by rfl) (fun K hK=>?_);go_simp;go_wp2_with fail
 refine ag kc ?_
 rintro e w3 ⟨rfl,hb⟩
 have T9:=(hb.block _ (Array.getElem?_eq_some_iff.1 T).1).trans T
 have D9:=btt D hb
 have R9:=(hb.block _ (Array.getElem?_eq_some_iff.1 R).1).trans R
 clear kc hb T D R
 have T:=T9
 have D:=D9
 have R:=R9
 clear T9 D9 R9
 refine hK _ _ T ?_;clear hK K
 have kc:=HOP.out w3 D
 refine rn 4 (by kernel_rfl) rfl (by rfl) (fun K hK=>?_);go_simp;go_wp2_with fail
 refine ag kc ?_
 rintro e w4 ⟨⟨uo,rfl,huo⟩,hb⟩
 have T9:=(hb.block _ (Array.getElem?_eq_some_iff.1 T).1).trans T
 have D9:=btt D hb
 have R9:=(hb.block _ (Array.getElem?_eq_some_iff.1 R).1).trans R
 clear kc hb T D R
 have T:=T9
 have D:=D9
 have R:=R9
 clear T9 D9 R9
 refine hK _ _ T ?_;clear hK K
 obtain⟨oc,ot,ok,ob,oks⟩:=eo
 obtain⟨ao,co,hso⟩:=huo.shape
 subst hso
 simp only[elA,El.cls,El.tag,El.cons,El.bytes,El.kids] at huo⊢
 have hb:Below w4.heap.size w4 (w4.alloc (.cells #[.int .i64 0,.int .i64 2,.bool false,.string ⟨(sgB ID).toArray⟩,.slice none 0 0,.int .i64 oc,.int .i64 ot,.bool ok,.string ⟨ob.toArray⟩,.slice ao oks.length co] 45)):=(ar _ _).alloc (ah _) _
 have x:(w4.alloc (.cells #[.int .i64 0,.int .i64 2,.bool false,.string ⟨(sgB ID).toArray⟩,.slice none 0 0,.int .i64 oc,.int .i64 ot,.bool ok,.string ⟨ob.toArray⟩,.slice ao oks.length co] 45)).heap[w4.heap.size]?=some (.cells #[.int .i64 0,.int .i64 2,.bool false,.string ⟨(sgB ID).toArray⟩,.slice none 0 0,.int .i64 oc,.int .i64 ot,.bool ok,.string ⟨ob.toArray⟩,.slice ao oks.length co] 45 (0,0)):=bi _ _ _ rfl
 have o5:bJ (w.heap.size+2) (w4.alloc (.cells #[.int .i64 0,.int .i64 2,.bool false,.string ⟨(sgB ID).toArray⟩,.slice none 0 0,.int .i64 oc,.int .i64 ot,.bool ok,.string ⟨ob.toArray⟩,.slice ao oks.length co] 45)) (.slice (some ⟨w4.heap.size,0,none⟩) 2 2) [.mk 0 2 false (sgB ID) [],.mk oc ot ok ob oks]:=
  bJ.flat (l:=[.mk 0 2 false (sgB ID) [],.mk oc ot ok ob oks]) (us:=[.slice none 0 0,.slice ao oks.length co]) x (by simp[cx,El.cls,El.tag,El.cons,El.bytes]) rfl (by have:=(Array.getElem?_eq_some_iff.1 R).1;omega) (by simp) (fun j e u q1 q2=>by
   have h3:j=0∨j=1:=by have h9:=(List.getElem?_eq_some_iff.1 q1).1;simp at h9;omega
   rcases h3 with rfl|rfl
   ·simp at q1 q2;subst q1;subst q2;exact bf.no _ _ _ _
   ·simp at q1 q2;subst q1;subst q2;exact huo.kept fun g hg hl=>⟨hb.block g hl,fun h=>by cases h;omega⟩)
 have T9:=(hb.block _ (Array.getElem?_eq_some_iff.1 T).1).trans T
 have D9:=btt D hb
 have R9:=(hb.block _ (Array.getElem?_eq_some_iff.1 R).1).trans R
 clear hb x T D R huo
 have O5:=Lib.hid o5
 clear o5
 refine rn 5 (by kernel_rfl) rfl (by rfl) (kks T9 ?_)
 generalize w4.alloc (.cells #[.int .i64 0,.int .i64 2,.bool false,.string ⟨(sgB ID).toArray⟩,.slice none 0 0,.int .i64 oc,.int .i64 ot,.bool ok,.string ⟨ob.toArray⟩,.slice ao oks.length co] 45)=w5 at T9 D9 R9 O5⊢
 generalize w4.heap.size=y at O5⊢
 refine rn 6 (by kernel_rfl) rfl (by rfl) (kks T9 ?_)
 refine bE (by kernel_rfl) ?_ _
 try simp only[Exit.then]
 refine‹∀(a:Act) (w:World),Code.wp _ _ _ a w→_› _ _ ?_
 have q27:=(ap T9 27).trans HA27.out
 have hn5:=(Array.getElem?_eq_some_iff.1 R9).1
 obtain⟨HT,HR,HD⟩:=Ch T9 R9 D9
 clear T9 R9 D9
 go_wp2_with fail
 clear q27
 go_loopw [4,6,7,17] (fun s4 _ _ s17 wr=>vd w5 l.ctl s4 s17 wr) (fun _ _ _ i _=>l.ctl.length -(RowKit.intOf i).toNat)
 case atStart=>exact⟨0,rfl,Nat.zero_le _,bJ.nil _ _,ar _ _⟩
 case round=>
  obtain⟨k,rfl,hk,ho,hbe⟩:=hrel
  obtain⟨a4,c4,hos⟩:=ho.shape
  subst hos
  have hlen:((l.ctl.take k).map ei).length=k:=by simp;omega
  rw[hlen] at ho⊢
  by_cases hkl:k<l.ctl.length
  ·obtain⟨c,hcx⟩:∃c,l.ctl[k]?=some c:=⟨_,by simp[hkl];rfl⟩
   obtain⟨g,o,ha,hcell⟩:=HC.out (by intro h0;rw[h0] at hkl;simp at hkl)
   subst ha
   obtain⟨p0,p1,p2,p3⟩:=hcell k c hcx
   have hall:=HD.out.trans (hbe.mono HD.out.size)
   have q0:=(hall.cell (bj p0)).trans p0
   have q1:=(hall.cell (bj p1)).trans p1
   have q2:=(hall.cell (bj p2)).trans p2
   have q3:=(hall.cell (bj p3)).trans p3
   have hmem:c∈l.ctl:=List.mem_of_getElem? hcx
   obtain⟨hl1,hl2⟩:=HCS.out c hmem
   have hts:(l.ctl.take (k+1)).map ei=(l.ctl.take k).map ei++[ei c]:=by rw[List.take_add_one,hcx];simp
   have HTS:=Lib.hid hts
   have i1:decide ((k:Int)<(l.ctl.length:Int))=true:=aL (by omega)
   have i2:(k:Int)<(l.ctl.length:Int):=by omega
   obtain⟨LL,hLL⟩:=nmm ((l.ctl.take k).map ei)
   rw[hLL] at ho hlen HTS
   obtain⟨HO,HLEN⟩:=Cg ho hlen
   have hsz:=hbe.size
   have HBE:=Lib.hid hbe
   clear hcell hcx hall hmem hts hLL p0 p1 p2 p3 ho hlen hbe
   obtain⟨C,hC⟩:=nmm (#[.string ⟨c.oid.toArray⟩,.bool c.crit,.bool c.has,.string ⟨c.value.toArray⟩]:Array Value)
   have HCC:=Lib.hid hC
   clear hC
   have n1:Below wr.heap.size wr (wr.alloc (.cells C 62)):=(ar _ _).alloc (ah _) _
   have y1:(wr.alloc (.cells C 62)).heap[wr.heap.size]?=some (.cells C 62 (0,0)):=bi _ _ _ rfl
   go_upto_region 6 with fail
   rw[HCC.out]
   clear q0 q1 q2 q3
   obtain⟨Y,hY⟩:=nmm wr.heap.size
   have HY:=Lib.hid hY
   rw[hY] at n1 y1⊢
   clear hY
   have g0:(wr.alloc (.cells C 62)).cell? ⟨Y,0,none⟩=some (.string ⟨c.oid.toArray⟩):=(ap y1 0).trans (by rw[←HCC.out];rfl)
   generalize wr.alloc (.cells C 62)=w11 at n1 y1 g0⊢
   have kc:=bz c.oid w11
   go_wp2_with fail
   refine ag kc ?_
   rintro e w12 ⟨rfl,hb⟩
   have n2:=n1.trans (hb.mono (by have h1:=n1.size;have h2:=HY.out;omega))
   have y2:=(hb.block _ (Array.getElem?_eq_some_iff.1 y1).1).trans y1
   clear kc hb n1 y1 g0
   simp only[elA,El.cls,El.tag,El.cons,El.bytes]
   have hb:Below w12.heap.size w12 (w12.alloc (.cells #[.int .i64 0,.int .i64 4,.bool false,.string ⟨c.oid.toArray⟩,.slice none 0 0] 45)):=(ar _ _).alloc (ah _) _
   have x:(w12.alloc (.cells #[.int .i64 0,.int .i64 4,.bool false,.string ⟨c.oid.toArray⟩,.slice none 0 0] 45)).heap[w12.heap.size]?=some (.cells #[.int .i64 0,.int .i64 4,.bool false,.string ⟨c.oid.toArray⟩,.slice none 0 0] 45 (0,0)):=bi _ _ _ rfl
   have o3:bJ (Y+1) (w12.alloc (.cells #[.int .i64 0,.int .i64 4,.bool false,.string ⟨c.oid.toArray⟩,.slice none 0 0] 45)) (.slice (some ⟨w12.heap.size,0,none⟩) 1 1) [.mk 0 4 false c.oid []]:=
    bJ.flat (l:=[.mk 0 4 false c.oid []]) (us:=[.slice none 0 0]) x (by simp[cx,El.cls,El.tag,El.cons,El.bytes]) rfl (by have:=(Array.getElem?_eq_some_iff.1 y2).1;omega) (by simp) (fun j e u q1 q2=>by
     have h3:j=0:=by have h9:=(List.getElem?_eq_some_iff.1 q1).1;simp at h9;omega
     subst h3
     simp at q1 q2;subst q1;subst q2;exact bf.no _ _ _ _)
   have n3:=n2.trans (hb.mono (by have h1:=n2.size;have h2:=HY.out;omega))
   have y3:=(hb.block _ (Array.getElem?_eq_some_iff.1 y2).1).trans y2
   clear hb x n2 y2
   go_upto_region 7 with fail
   generalize w12.alloc (.cells #[.int .i64 0,.int .i64 4,.bool false,.string ⟨c.oid.toArray⟩,.slice none 0 0] 45)=w13 at n3 y3 o3⊢
   generalize w12.heap.size=yb at o3⊢
   obtain⟨CR,hCR⟩:=nmm c.crit
   have g1:w13.cell? ⟨Y,1,none⟩=some (.bool CR):=(ap y3 1).trans (by rw[←HCC.out,←hCR];rfl)
   have HCR:=Lib.hid hCR
   clear hCR
   go_upto_if 26 with fail
   clear g1
   go_cut [7] from 27 to 30 (fun s7 wx=>bJ (Y+1) wx s7 ([.mk 0 4 false c.oid []]++eQ c)∧wx.heap[Y]?=some (.cells C 62 (0,0))∧Below Y wr wx)
   case first=>
    rcases CR.eq_false_or_eq_true with hcr|hcr
    rotate_left
    ·subst hcr
     have hl:eQ c=[]:=by simp[eQ,HCR.out]
     go_wp2_with fail
     go_meet
     exact⟨by rw[hl];exact o3,y3,n3⟩
    ·subst hcr
     have hl:eQ c=[.mk 0 1 false (blB true) []]:=by simp[eQ,HCR.out]
     have HL:=Lib.hid hl
     clear hl
     have kc:=iS 1 true w13
     go_wp2_with fail
     refine ag kc ?_
     rintro e w14 ⟨⟨u,rfl,hu⟩,hb⟩
     obtain⟨ae,ce,rfl⟩:=hu.empty
     have y4:=(hb.block _ (Array.getElem?_eq_some_iff.1 y3).1).trans y3
     have n4:=n3.trans (hb.mono (by have h1:=n3.size;have h2:=HY.out;omega))
     have o4:=o3.below hb
     clear kc hb hu y3 n3 o3
     simp only[elA,El.cls,El.tag,El.cons,El.bytes]
     have hb:Below w14.heap.size w14 (w14.alloc (.cells #[.int .i64 0,.int .i64 1,.bool false,.string ⟨(blB true).toArray⟩,.slice ae 0 ce] 45)):=(ar _ _).alloc (ah _) _
     have x:(w14.alloc (.cells #[.int .i64 0,.int .i64 1,.bool false,.string ⟨(blB true).toArray⟩,.slice ae 0 ce] 45)).heap[w14.heap.size]?=some (.cells (elA (.mk 0 1 false (blB true) []) (.slice ae 0 ce)) 45 (0,0)):=bi _ _ _ rfl
     have y5:=(hb.block _ (Array.getElem?_eq_some_iff.1 y4).1).trans y4
     have n5:=n4.trans (hb.mono (by have h1:=n4.size;have h2:=HY.out;omega))
     have o5:=o4.below hb
     have hs5:Y≤_:=(by have h1:=n5.size;have h2:=HY.out;omega:Y≤(w14.alloc (.cells #[.int .i64 0,.int .i64 1,.bool false,.string ⟨(blB true).toArray⟩,.slice ae 0 ce] 45)).heap.size)
     have z5:=(Array.getElem?_eq_some_iff.1 y5).1
     obtain⟨Y5,N5,OX5,X5⟩:=Ci y5 n5 o5 x
     clear hb x y4 n4 o4 y5 n5 o5
     go_wp2_with (at_builtin;refine bO rfl (.tmp 27) (.tmp 29) rfl (Y+1) (.slice (some ⟨yb,0,none⟩) 1 1) [.mk 0 4 false c.oid []] (by rfl) OX5.out (.mk 0 1 false (blB true) []) ae 0 ce w14.heap.size rfl X5.out (bf.no _ _ _ _) (by simp) (by omega) ?_;intro a10 c10 w10 o10 hg;have y10:=(hg.block Y z5 (fun h=>by have:=(OX5.out.lt h.symm).1;omega)).trans Y5.out;have n10:=N5.out.grown hg hs5 (fun b hb=>by have:=(OX5.out.lt hb).1;omega);clear hg hs5 z5 Y5 N5 OX5 X5)
     go_meet
     exact⟨by rw[HL.out];exact o10,y10,n10⟩
   case rest=>
    clear o3 y3 n3
    obtain⟨o3,y3,n3⟩:=hcut
    obtain⟨a7,c7,hs7⟩:=o3.shape
    subst hs7
    obtain⟨L7,hL7⟩:=nmm ([.mk 0 4 false c.oid []]++eQ c:List El)
    have hl7:L7.length≤2:=by rw[←hL7];unfold eQ;split<;>simp
    rw[hL7] at o3⊢
    have HL7:=Lib.hid hL7
    clear hL7
    obtain⟨w13',hw13⟩:∃w',wc=w':=⟨_,rfl⟩
    rw[hw13] at o3 y3 n3⊢
    clear hw13
    obtain⟨HS,hHS⟩:=nmm c.has
    have g2:w13'.cell? ⟨Y,2,none⟩=some (.bool HS):=(ap y3 2).trans (by rw[←HCC.out,←hHS];rfl)
    have HHS:=Lib.hid hHS
    clear hHS
    go_upto_if 32 with fail
    clear g2
    go_cut [7] from 33 to 38 (fun s7 wx=>bJ (Y+1) wx s7 (L7++fP c)∧wx.heap[Y]?=some (.cells C 62 (0,0))∧Below Y wr wx)
    case first=>
     rcases HS.eq_false_or_eq_true with hcr|hcr
     rotate_left
     ·subst hcr
      have hl:fP c=[]:=by simp[fP,HHS.out]
      go_wp2_with fail
      go_meet
      exact⟨by rw[hl,List.append_nil];exact o3,y3,n3⟩
     ·subst hcr
      have hl:fP c=[.mk 0 4 false c.value []]:=by simp[fP,HHS.out]
      have HL:=Lib.hid hl
      clear hl
      have g3:w13'.cell? ⟨Y,3,none⟩=some (.string ⟨c.value.toArray⟩):=(ap y3 3).trans (by rw[←HCC.out];rfl)
      have kc:=bz c.value w13'
      go_wp2_with fail
      refine ag kc ?_
      rintro e w14 ⟨rfl,hb⟩
      have y4:=(hb.block _ (Array.getElem?_eq_some_iff.1 y3).1).trans y3
      have n4:=n3.trans (hb.mono (by have h1:=n3.size;have h2:=HY.out;omega))
      have o4:=o3.below hb
      clear kc hb y3 n3 o3 g3
      simp only[elA,El.cls,El.tag,El.cons,El.bytes]
      have hb:Below w14.heap.size w14 (w14.alloc (.cells #[.int .i64 0,.int .i64 4,.bool false,.string ⟨c.value.toArray⟩,.slice none 0 0] 45)):=(ar _ _).alloc (ah _) _
      have x:(w14.alloc (.cells #[.int .i64 0,.int .i64 4,.bool false,.string ⟨c.value.toArray⟩,.slice none 0 0] 45)).heap[w14.heap.size]?=some (.cells (elA (.mk 0 4 false c.value []) (.slice none 0 0)) 45 (0,0)):=bi _ _ _ rfl
      have y5:=(hb.block _ (Array.getElem?_eq_some_iff.1 y4).1).trans y4
      have n5:=n4.trans (hb.mono (by have h1:=n4.size;have h2:=HY.out;omega))
      have o5:=o4.below hb
      have hs5:Y≤_:=(by have h1:=n5.size;have h2:=HY.out;omega:Y≤(w14.alloc (.cells #[.int .i64 0,.int .i64 4,.bool false,.string ⟨c.value.toArray⟩,.slice none 0 0] 45)).heap.size)
      have z5:=(Array.getElem?_eq_some_iff.1 y5).1
      obtain⟨Y5,N5,OX5,X5⟩:=Ci y5 n5 o5 x
      clear hb x y4 n4 o4 y5 n5 o5
      go_wp2_with (at_builtin;refine bO rfl (.tmp 33) (.tmp 37) rfl (Y+1) (.slice a7 L7.length c7) L7 (by rfl) OX5.out (.mk 0 4 false c.value []) none 0 0 w14.heap.size rfl X5.out (bf.no _ _ _ _) (by omega) (by omega) ?_;intro a10 c10 w10 o10 hg;have y10:=(hg.block Y z5 (fun h=>by have:=(OX5.out.lt h.symm).1;omega)).trans Y5.out;have n10:=N5.out.grown hg hs5 (fun b hb=>by have:=(OX5.out.lt hb).1;omega);clear hg hs5 z5 Y5 N5 OX5 X5)
      go_meet
      exact⟨by rw[HL.out];exact o10,y10,n10⟩
    case rest=>
     clear o3 y3 n3
     obtain⟨o3,-,n3⟩:=hcut
     have hLK:L7++fP c=fQ c:=by rw[←HL7.out];rfl
     rw[hLK] at o3
     obtain⟨a8,c8,hs8⟩:=o3.shape
     subst hs8
     obtain⟨hsk,hsl⟩:=qf c ⟨hl1,hl2⟩
     obtain⟨w15,hw15⟩:∃w',wc=w':=⟨_,rfl⟩
     rw[hw15] at o3 n3⊢
     have kc:=cH (fQ c) _ w15 o3.kids hsk (by omega)
     have hoo:bJ w5.heap.size w15 (.slice a4 k c4) LL:=by
      have n3':Below wr.heap.size wr w15:=by rw[HY.out];exact n3
      exact HO.out.below n3'
     clear o3 hLK hw15 hsk
     go_wp2_with fail
     refine ag kc ?_
     rintro e w16 ⟨⟨u,rfl,hu⟩,hb⟩
     obtain⟨ae,ce,hse⟩:=hu.shape
     subst hse
     have n6:=n3.trans (hb.mono (by have h1:=n3.size;have h2:=HY.out;omega))
     have o6:=hoo.below hb
     have hs16:=hb.size
     have hz15:=n3.size
     clear kc hb n3 hoo
     simp only[elA,El.cls,El.tag,El.cons,El.bytes]
     have hb:Below w16.heap.size w16 (w16.alloc (.cells #[.int .i64 0,.int .i64 16,.bool true,.string ⟨#[]⟩,.slice ae (fQ c).length ce] 45)):=(ar _ _).alloc (ah _) _
     have x:(w16.alloc (.cells #[.int .i64 0,.int .i64 16,.bool true,.string ⟨#[]⟩,.slice ae (fQ c).length ce] 45)).heap[w16.heap.size]?=some (.cells (elA (ei c) (.slice ae (fQ c).length ce)) 45 (0,0)):=bi _ _ _ rfl
     have hu7:bf (fun g=>(Value.slice a4 k c4).ownBlock≠some g) (w16.alloc (.cells #[.int .i64 0,.int .i64 16,.bool true,.string ⟨#[]⟩,.slice ae (fQ c).length ce] 45)) (.slice ae (fQ c).length ce) (ei c).kids:=hu.kept fun g hg hl=>⟨hb.block g hl,fun h=>by have h1:=(HO.out.lt h).2;have h2:=n6.size;have h3:=HY.out;have h4:w15.heap.size≤g:=hg;omega⟩
     have n7:=n6.trans (hb.mono (by have h1:=n6.size;have h2:=HY.out;omega))
     have o7:=o6.below hb
     obtain⟨N7,OX7,X7,U7⟩:=Ci n7 o7 x hu7
     have hz7:=n7.size
     clear hb x n6 o6 n7 o7 hu7 hu
     go_wp2_with (at_builtin;refine bO rfl (.tmp 39) (.tmp 42) rfl w5.heap.size (.slice a4 k c4) LL (by rfl) OX7.out (ei c) ae (fQ c).length ce w16.heap.size rfl X7.out U7.out (by rw[HLEN.out];omega) (by have:=HY.out;omega) ?_;intro a10 c10 w10 o10 hg)
     rw[HLEN.out] at o10⊢
     have hfin:Below w5.heap.size w5 w10:=by
      have h1:Below w5.heap.size w5 (w16.alloc (.cells #[.int .i64 0,.int .i64 16,.bool true,.string ⟨#[]⟩,.slice ae (fQ c).length ce] 45)):=HBE.out.trans (N7.out.mono (by have:=HY.out;omega))
      exact h1.grown hg h1.size (fun b hb=>(OX7.out.lt hb).1)
     exact⟨⟨k+1,by go_num,by omega,by rw[HTS.out];exact o10,hfin⟩,by simp[RowKit.intOf];omega⟩
  ·obtain rfl:k=l.ctl.length:=by omega
   rw[List.take_of_length_le (ah _)] at ho hlen
   have t5:=(hbe.block _ hn5).trans HR.out
   have b5:=HD.out.trans (hbe.mono HD.out.size)
   have o5:=O5.out.below hbe
   have hsz:=hbe.size
   have lt3:∀g,(Value.slice (some ⟨y,0,none⟩) 2 2).ownBlock=some g→w.heap.size+2≤g∧g<w5.heap.size:=fun g hg=>O5.out.lt hg
   obtain⟨w6,hw6⟩:∃w',wr=w':=⟨_,rfl⟩
   rw[hw6] at ho t5 b5 o5 hsz⊢
   clear hw6 hbe
   by_cases hz:l.ctl=[]
   ·have hKn:K=[.mk 0 2 false (sgB ID) [],.mk oc ot ok ob oks]:=by rw[HKK.out,if_pos hz,List.append_nil]
    have hl0:l.ctl.length=0:=by rw[hz];rfl
    rw[hl0]
    have kc:=cH [.mk 0 2 false (sgB ID) [],.mk oc ot ok ob oks] _ w6 o5.kids (by have h1:=HSO.out;have h2:=(eg ID).2;simp only[SmL];exact⟨by simp[SmE,SmL];omega,h1,trivial⟩) (by simp)
    rw[←hKn] at kc
    have HKN:=Lib.hid hKn
    clear ho o5 hz hKn hl0
    go_wp2_with fail
    refine ag kc ?_
    rintro e w7 ⟨⟨u,rfl,hu⟩,hb⟩
    have t7:=(hb.block _ (Array.getElem?_eq_some_iff.1 t5).1).trans t5
    have b7:=btt b5 hb
    clear kc hb t5 b5
    obtain⟨E,hE⟩:=nmm (elA (.mk 0 16 true [] K) u)
    have hE1:E.all (·.oneCell')=true:=by
     obtain⟨a,c,hsl⟩:=hu.shape
     subst hsl
     rw[←hE];simp[elA,Value.oneCell']
    have hE2:E.size=5:=by rw[←hE];rfl
    rw[hE]
    have bF:=bm b7 (g:=w.heap.size+1) (by omega) E
    have tF:=setRow_heap w7 (w.heap.size+1) _ E _ _ t7
    have uF:bf (fun g=>w.heap.size≤g) (w7.setRow (w.heap.size+1) E) u K:=hu.kept fun g hg hl=>⟨setRow_other w7 (w.heap.size+1) g E (by omega),by omega⟩
    obtain⟨HE,HE1,HE2,UF⟩:=Ci hE hE1 hE2 uF
    clear hu hE hE1 hE2 uF b7
    go_wp2_with (refine bh rfl 45 (.tmp 2) (.tmp 55) rfl (w.heap.size+1) 45 _ E (by rfl) (by rfl) t7 (by rw[HE2.out];rfl) (by rw[HE2.out];rfl) HE1.out ?_)
    refine aH (v:=.agg E) ?_ rfl (by rw[HPR.out];exact⟨⟨u,by rw[HE.out],UF.out⟩,bF⟩)
    have hr:=aJ (P:=Tryz.prog) (w7.setRow (w.heap.size+1) E) (w.heap.size+1) 45 45 E (0,0) _ tF (show Tryz.prog.underlying 45=_ from Tryz.underlying45) (by rfl) (by rw[HE2.out];rfl)
    simp[results,Tryz.f31]
    exact hr
   ·have hKn:K=[.mk 0 2 false (sgB ID) [],.mk oc ot ok ob oks]++[.mk 2 0 true [] (l.ctl.map ei)]:=by rw[HKK.out,if_neg hz]
    have hpos:0<l.ctl.length:=List.length_pos_iff.2 hz
    have i1:decide ((l.ctl.length:Int)>0)=true:=aL (by omega)
    have i2:decide ((0:Int)<(l.ctl.length:Int))=true:=aL (by omega)
    have i3:(0:Int)<(l.ctl.length:Int):=by omega
    have HKN:=Lib.hid hKn
    clear hz hKn
    have kc:=cH (l.ctl.map ei) _ w6 ho.kids HSC.out (by simp;omega)
    clear ho
    go_wp2_with fail
    refine ag kc ?_
    rintro e w7 ⟨⟨u,rfl,hu⟩,hb⟩
    have t7:=(hb.block _ (Array.getElem?_eq_some_iff.1 t5).1).trans t5
    have b7:=btt b5 hb
    have o7:=o5.below hb
    have hsz7:=hb.size
    clear kc hb t5 b5 o5
    have kc:=BY (.mk 0 16 true [] (l.ctl.map ei)) u 0 w7 (hu.mono (fun _ _ _=>trivial)) (by simp only[SmE,List.length_map];exact⟨by simp,by omega,HSC.out⟩)
    simp only[El.cons,El.bytes,El.kids] at kc
    clear hu
    go_wp2_with fail
    refine ag kc ?_
    rintro e w8 ⟨⟨u2,rfl,hu2⟩,hb⟩
    obtain⟨ae,ce,hse⟩:=hu2.shape
    simp only[List.length_map] at hse
    subst hse
    have t8:=(hb.block _ (Array.getElem?_eq_some_iff.1 t7).1).trans t7
    have b8:=btt b7 hb
    have o8:=o7.below hb
    clear kc hb t7 b7 o7
    simp only[elA,El.cls,El.tag,El.cons,El.bytes]
    have hb:Below w8.heap.size w8 (w8.alloc (.cells #[.int .i64 2,.int .i64 0,.bool true,.string ⟨#[]⟩,.slice ae l.ctl.length ce] 45)):=(ar _ _).alloc (ah _) _
    have x:(w8.alloc (.cells #[.int .i64 2,.int .i64 0,.bool true,.string ⟨#[]⟩,.slice ae l.ctl.length ce] 45)).heap[w8.heap.size]?=some (.cells (elA (.mk 2 0 true [] (l.ctl.map ei)) (.slice ae l.ctl.length ce)) 45 (0,0)):=bi _ _ _ rfl
    have hu9:bf (fun g=>(Value.slice (some ⟨y,0,none⟩) 2 2).ownBlock≠some g) (w8.alloc (.cells #[.int .i64 2,.int .i64 0,.bool true,.string ⟨#[]⟩,.slice ae l.ctl.length ce] 45)) (.slice ae l.ctl.length ce) (l.ctl.map ei):=hu2.kept fun g hg hl=>⟨hb.block g hl,fun h=>by have h1:=(lt3 g h).2;have h4:w7.heap.size≤g:=hg;omega⟩
    have t9:=(hb.block _ (Array.getElem?_eq_some_iff.1 t8).1).trans t8
    have b9:=btt b8 hb
    have o9:=o8.below hb
    have hs9:=b9.size
    have z9:=(Array.getElem?_eq_some_iff.1 t9).1
    obtain⟨T9,B9,O9,X9,U9⟩:=Cj t9 b9 o9 x hu9
    clear hb x t8 b8 o8 t9 b9 o9 hu2 hu9
    go_wp2_with (at_builtin;refine bO rfl (.tmp 48) (.tmp 52) rfl (w.heap.size+2) (.slice (some ⟨y,0,none⟩) 2 2) [.mk 0 2 false (sgB ID) [],.mk oc ot ok ob oks] (by rfl) O9.out (.mk 2 0 true [] (l.ctl.map ei)) ae l.ctl.length ce w8.heap.size rfl X9.out U9.out (by simp) (by omega) ?_;intro a10 c10 w10 o10 hg;have t10:=(hg.block (w.heap.size+1) z9 (fun h=>by have:=(O9.out.lt h.symm).1;omega)).trans T9.out;have b10:=B9.out.grown hg hs9 (fun b hb=>by have:=(O9.out.lt hb).1;omega);clear hg hs9 z9 T9 B9 O9 X9 U9)
    rw[←HKN.out] at o10
    have kc:=cH K _ w10 o10.kids (by
     have h1:=HSO.out
     have h2:=(eg ID).2
     rw[HKN.out]
     simp only[List.cons_append,List.nil_append,SmL]
     exact⟨by simp[SmE,SmL];omega,h1,by simp only[SmE,List.length_map];exact⟨by simp,by omega,HSC.out⟩,trivial⟩) (by rw[HKN.out];simp)
    clear o10
    simp only[aG,aU,Nat.zero_add,Nat.reduceAdd] at kc⊢
    go_wp2_with fail
    refine ag kc ?_
    rintro e w7 ⟨⟨u,rfl,hu⟩,hb⟩
    have t7:=(hb.block _ (Array.getElem?_eq_some_iff.1 t10).1).trans t10
    have b7:=btt b10 hb
    have hsz:=b10.size
    have hn5:=(Array.getElem?_eq_some_iff.1 t10).1
    clear kc hb t10 b10
    obtain⟨E,hE⟩:=nmm (elA (.mk 0 16 true [] K) u)
    have hE1:E.all (·.oneCell')=true:=by
     obtain⟨a,c,hsl⟩:=hu.shape
     subst hsl
     rw[←hE];simp[elA,Value.oneCell']
    have hE2:E.size=5:=by rw[←hE];rfl
    rw[hE]
    have bF:=bm b7 (g:=w.heap.size+1) (by omega) E
    have tF:=setRow_heap w7 (w.heap.size+1) _ E _ _ t7
    have uF:bf (fun g=>w.heap.size≤g) (w7.setRow (w.heap.size+1) E) u K:=hu.kept fun g hg hl=>⟨setRow_other w7 (w.heap.size+1) g E (by omega),by omega⟩
    obtain⟨HE,HE1,HE2,UF⟩:=Ci hE hE1 hE2 uF
    clear hu hE hE1 hE2 uF b7
    go_wp2_with (refine bh rfl 45 (.tmp 2) (.tmp 55) rfl (w.heap.size+1) 45 _ E (by rfl) (by rfl) t7 (by rw[HE2.out];rfl) (by rw[HE2.out];rfl) HE1.out ?_)
    refine aH (v:=.agg E) ?_ rfl (by rw[HPR.out];exact⟨⟨u,by rw[HE.out],UF.out⟩,bF⟩)
    have hr:=aJ (P:=Tryz.prog) (w7.setRow (w.heap.size+1) E) (w.heap.size+1) 45 45 E (0,0) _ tF (show Tryz.prog.underlying 45=_ from Tryz.underlying45) (by rfl) (by rw[HE2.out];rfl)
    simp[results,Tryz.f31]
    exact hr
end Go.Proofs.YthjaiigijbjloaaGreatDoor
