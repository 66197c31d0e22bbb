/-
  The texts that the law's proof needs, part 4.
-/
import Derived.Test.YtkbboemafklkkaaGreatDoorApartPartsP3

namespace Go.Proofs.YtkbboemafklkkaaGreatDoor.V
open Go
set_option linter.unusedVariables false
set_option maxRecDepth 100000
set_option maxHeartbeats 2000000
set_option synthInstance.maxSize 100000
set_option synthInstance.maxHeartbeats 200000
theorem zk1 {p_:Sboth_apart} {x_:Sthing_apart} {r_:(List SOn_scantling_apart_thing_search)} (h:z7 p_ x_ r_):Fn Tryz.prog 87 [(Pd.rep En.Sboth_apart p_),(Pd.rep En.Sthing_apart x_)] (Ro En.SOn_scantling_apart_thing_search 156 r_):=by
 unfold z7 at h;refine zbp Tryz.func87 J Tryz.ntmps87 (by rfl) (by simp) fun s0 a L=>?_;refine rs (sA 2 L fun a s L=>?_);refine sno En.SOn_scantling_apart_thing_search 156 L fun a s L=>?_;refine es (rs ?_);refine sno En.SOn_scantling_apart_thing_search 156 L fun a s L=>?_;refine es ?_;obtain ⟨r1,h2,r3,h4,h⟩:=h;refine wp_seq (rdx 10 (pp (zfq h2) (p1 (zfq h4))) L fun a s L=>?_);refine sA 2 L fun a s L=>?_;refine es (wp_seq_k fun K5 H5=>?_);obtain ⟨r6,h7,h⟩:=h;refine ra 11 (p1 ((zo2 h7).frz)) L fun a s L=>?_;refine wp_block ?_;have J10:∀(out8:(List SOn_scantling_apart_thing_search)) (og9:Option Nat) (a:Act) (s:St),Has N0 74 s0 a s [(5,(Pd.row En.SOn_scantling_apart_thing_search s0.w.heap.size 156 og9 out8))]→((z7.j1 r_) out8)→K5 a s.w:=by
  intro out8 og9 a s L h;unfold z7.j1 at h;show K5 a s.w;refine H5 _ _ (rA 2 L fun a s L=>?_);subst h;exact wp_ret (zif J L J)
 obtain ⟨k14,h⟩:=h;refine lpn (fun k15 a s=>∃(out11:(List SOn_scantling_apart_thing_search)) (v13:Int) (og12:Option Nat),Has N0 74 s0 a s [(2,(Pd.ptr En.Sboth_apart p_)),(3,(Pd.ptr En.Sthing_apart x_)),(5,(Pd.row En.SOn_scantling_apart_thing_search s0.w.heap.size 156 og12 out11)),(6,(Pd.rep En.bool r1)),(7,(Pd.rep En.bool r3)),(30,(Pd.rep (En.slice (En.int .u8)) r6)),(31,(Pi (r6.length:Int))),(32,(Pi v13))]∧z7.l1 p_ x_ r1 r3 r6 (z7.j1 r_) k15 out11 v13) k14 ⟨([]:(List SOn_scantling_apart_thing_search)),0,none,L.kk,h⟩ ?_;rintro k15 a s ⟨out11,v13,og12,L,h⟩ KL16 hKL16;unfold z7.l1 at h;refine rA 1 L fun a s L=>?_;refine wp_seq_k fun K17 H17=>cn L h (fun h=>?_) fun h=>?_
 ·refine wp_skip (H17 _ _ ?_);refine wp_seq_k fun K18 H18=>wp_block ?_;obtain ⟨e19,h20,h⟩:=h;refine ra 3 (p1 h20) L fun a s L=>?_;obtain ⟨r21,h22,r23,h24,h⟩:=h;refine wp_seq (rdx 12 (pp ((zhc h22).frz) (p1 ((zhc h24).frz))) L fun a s L=>?_);refine sA 2 L fun a s L=>?_;refine es ?_;obtain ⟨h25,h⟩:=h;refine rs (sA 4 L fun a s L=>?_);refine sv (zbm (x:=(r21,r23,0)) (ps:=[(0,.tmp 50),(1,.tmp 51),(2,.const (.int .i64 0))]) zm0 J zpe (.cons (i:=0) op J (zv (zn _ _ _)) (.cons (i:=1) op J (zj (zv (zn _ _ _)) J) (.cons (i:=2) op J (zj (zj (zn _ _ _) J) J) .nil))) J J) L fun a s L=>?_;refine sv (zbm (x:=(e19,(r21,r23,0))) (ps:=[(0,.tmp 49),(1,.tmp 52)]) zo9 J stt156 (.cons (i:=0) op J (zv (zn _ _ _)) (.cons (i:=1) op J (zj (zn _ _ _) J) .nil)) J J) L fun a s L=>?_;refine sA 1 L fun a s L=>?_;refine zdo 55 L op op Ud.h Tq.h h25 J J J J ka fun a s og26 hg_ L=>?_;refine sA 1 L fun a s L=>?_;refine es (wp_seq_k fun K27 H27=>?_);refine rA 1 L fun a s L=>?_;have J30:∀(out28:(List SOn_scantling_apart_thing_search)) (og29:Option Nat) (a:Act) (s:St),Has N0 74 s0 a s [(2,(Pd.ptr En.Sboth_apart p_)),(3,(Pd.ptr En.Sthing_apart x_)),(5,(Pd.row En.SOn_scantling_apart_thing_search s0.w.heap.size 156 og29 out28)),(6,(Pd.rep En.bool r1)),(7,(Pd.rep En.bool r3)),(9,(Pd.rep (En.int .u8) e19)),(10,(Pd.rep (En.slice (En.slice En.SItem)) r21)),(30,(Pd.rep (En.slice (En.int .u8)) r6)),(31,(Pi (r6.length:Int))),(32,(Pi v13))]→((z7.j2 (z7.l1 p_ x_ r1 r3 r6 (z7.j1 r_) k15) r3 v13 e19 r21) out28)→K27 a s.w:=by
   intro out28 og29 a s L h;unfold z7.j2 at h;show K27 a s.w;refine H27 _ _ (rA 1 L fun a s L=>?_);refine cn L h (fun h=>?_) fun h=>?_
   ·obtain ⟨h31,h⟩:=h;refine rg (sA 3 L fun a s L=>?_);refine sv (zbm (x:=(r21,([]:(List (List SItem))),2)) (ps:=[(0,.tmp 67),(1,.const (.slice none 0 0)),(2,.const (.int .i64 2))]) zm0 J zpe (.cons (i:=0) op J (zv (zn _ _ _)) (.cons (i:=1) zns J (zj (zv (zn _ _ _)) J) (.cons (i:=2) op J (zj (zj (zn _ _ _) J) J) .nil))) J J) L fun a s L=>?_;refine sv (zbm (x:=(e19,(r21,([]:(List (List SItem))),2))) (ps:=[(0,.tmp 66),(1,.tmp 68)]) zo9 J stt156 (.cons (i:=0) op J (zv (zn _ _ _)) (.cons (i:=1) op J (zj (zn _ _ _) J) .nil)) J J) L fun a s L=>?_;refine sA 1 L fun a s L=>?_;refine zdo 71 L op op Ud.h Tq.h h31 J J J J ka fun a s og32 hg_ L=>?_;refine sA 1 L fun a s L=>?_;refine en' (H18 _ _ ?_);obtain ⟨h33,h⟩:=h;refine rg (sA 2 L fun a s L=>?_);refine en' ?_;exact hKL16 a s ⟨(out28++[(e19,(r21,([]:(List (List SItem))),2))]),(v13+1),og32,L.kk,h⟩
   ·refine wp_skip (H18 _ _ ?_);obtain ⟨h34,h⟩:=h;refine rg (sA 2 L fun a s L=>?_);refine en' ?_;exact hKL16 a s ⟨out28,(v13+1),og29,L.kk,h⟩
  refine cn L h (fun h=>?_) fun h=>?_
  ·obtain ⟨h35,h⟩:=h;refine rg (sA 3 L fun a s L=>?_);refine sv (zbm (x:=(([]:(List (List SItem))),r23,1)) (ps:=[(0,.const (.slice none 0 0)),(1,.tmp 59),(2,.const (.int .i64 1))]) zm0 J zpe (.cons (i:=0) zns J (zv (zn _ _ _)) (.cons (i:=1) op J (zj (zv (zn _ _ _)) J) (.cons (i:=2) op J (zj (zj (zn _ _ _) J) J) .nil))) J J) L fun a s L=>?_;refine sv (zbm (x:=(e19,(([]:(List (List SItem))),r23,1))) (ps:=[(0,.tmp 58),(1,.tmp 60)]) zo9 J stt156 (.cons (i:=0) op J (zv (zn _ _ _)) (.cons (i:=1) op J (zj (zn _ _ _) J) .nil)) J J) L fun a s L=>?_;refine sA 1 L fun a s L=>?_;refine zdo 63 L op op Ud.h Tq.h h35 J J J J ka fun a s og36 hg_ L=>?_;refine sA 1 L fun a s L=>?_;refine en' ?_;exact J30 ((out11++[(e19,(r21,r23,0))])++[(e19,(([]:(List (List SItem))),r23,1))]) og36 a s (L.kk) h
  ·refine wp_skip ?_;exact J30 (out11++[(e19,(r21,r23,0))]) og26 a s (L.kk) h
 ·refine wp_exit ?_;exact J10 out11 og12 a s (L.kk) h
theorem zjp {cap0_:Sboth_apart} {cap1_:Sthing_apart} {r_:(List SOn_scantling_apart_thing_search)} (h:zee cap0_ cap1_ r_):Fn Tryz.prog 86 [(Pd.ptr En.Sboth_apart cap0_),(Pd.ptr En.Sthing_apart cap1_)] (Ro En.SOn_scantling_apart_thing_search 156 r_):=by
 unfold zee at h;refine zbp Tryz.func86 J Tryz.ntmps86 (by rfl) (by simp) fun s0 a L=>?_;refine rs (sno En.SOn_scantling_apart_thing_search 156 L fun a s L=>?_);refine es ?_;obtain ⟨r1,h2,h⟩:=h;refine rs (sA 2 L fun a s L=>?_);refine zet 5 L (zk1 h2) opz J J J J fun a s og3 hg_ L=>?_;refine sA 1 L fun a s L=>?_;refine es ?_;subst h;exact wp_ret (zif J L J)
theorem zjo {cap0_:Sboth_apart} {cap1_:Sthing_apart} {r_:(List SOn_scantling_apart_thing_search)} (h:zbe cap0_ cap1_ r_):Fn Tryz.prog 88 [(Pd.ptr En.Sboth_apart cap0_),(Pd.ptr En.Sthing_apart cap1_)] (Ro En.SOn_scantling_apart_thing_search 156 r_):=by
 unfold zbe at h;refine zbp Tryz.func88 J Tryz.ntmps88 (by rfl) (by simp) fun s0 a L=>?_;refine rs (sno En.SOn_scantling_apart_thing_search 156 L fun a s L=>?_);refine es (rs ?_);refine sno En.SOn_scantling_apart_thing_search 156 L fun a s L=>?_;refine es (wp_seq_k fun K1 H1=>?_);obtain ⟨r2,h3,h⟩:=h;refine ra 7 (p1 ((zkb h3).frz)) L fun a s L=>?_;refine wp_block ?_;have J6:∀(out4:(List SOn_scantling_apart_thing_search)) (og5:Option Nat) (a:Act) (s:St),Has N0 30 s0 a s [(3,(Pd.row En.SOn_scantling_apart_thing_search s0.w.heap.size 156 og5 out4))]→((zbe.j1 r_) out4)→K1 a s.w:=by
  intro out4 og5 a s L h;unfold zbe.j1 at h;show K1 a s.w;refine H1 _ _ (rA 2 L fun a s L=>?_);subst h;exact wp_ret (zif J L J)
 obtain ⟨k10,h⟩:=h;refine lpn (fun k11 a s=>∃(out7:(List SOn_scantling_apart_thing_search)) (v9:Int) (og8:Option Nat),Has N0 30 s0 a s [(0,(Pd.ptr En.Sboth_apart cap0_)),(1,(Pd.ptr En.Sthing_apart cap1_)),(3,(Pd.row En.SOn_scantling_apart_thing_search s0.w.heap.size 156 og8 out7)),(10,(Pd.rep (En.slice (En.int .u8)) r2)),(11,(Pi (r2.length:Int))),(12,(Pi v9))]∧zbe.l1 cap0_ cap1_ r2 (zbe.j1 r_) k11 out7 v9) k10 ⟨([]:(List SOn_scantling_apart_thing_search)),0,none,L.kk,h⟩ ?_;rintro k11 a s ⟨out7,v9,og8,L,h⟩ KL12 hKL12;unfold zbe.l1 at h;refine rA 1 L fun a s L=>?_;refine wp_seq_k fun K13 H13=>cn L h (fun h=>?_) fun h=>?_
 ·refine wp_skip (H13 _ _ ?_);refine wp_seq_k fun K14 H14=>wp_block ?_;obtain ⟨e15,h16,h⟩:=h;refine ra 3 (p1 h16) L fun a s L=>?_;obtain ⟨r17,h18,h19,h⟩:=h;refine rg (sl 8 (p1 ((zhc h18).frz)) L fun a s L=>?_);refine sv (zbm (x:=(([]:(List (List SItem))),r17,1)) (ps:=[(0,.const (.slice none 0 0)),(1,.tmp 23),(2,.const (.int .i64 1))]) zm0 J zpe (.cons (i:=0) zns J (zv (zn _ _ _)) (.cons (i:=1) op J (zj (zv (zn _ _ _)) J) (.cons (i:=2) op J (zj (zj (zn _ _ _) J) J) .nil))) J J) L fun a s L=>?_;refine sv (zbm (x:=(e15,(([]:(List (List SItem))),r17,1))) (ps:=[(0,.tmp 17),(1,.tmp 24)]) zo9 J stt156 (.cons (i:=0) op J (zv (zn _ _ _)) (.cons (i:=1) op J (zj (zn _ _ _) J) .nil)) J J) L fun a s L=>?_;refine sA 1 L fun a s L=>?_;refine zdo 27 L op op Ud.h Tq.h h19 J J J J ka fun a s og20 hg_ L=>?_;refine sA 1 L fun a s L=>?_;refine en' (H14 _ _ ?_);obtain ⟨h21,h⟩:=h;refine rg (sA 2 L fun a s L=>?_);refine en' ?_;exact hKL12 a s ⟨(out7++[(e15,(([]:(List (List SItem))),r17,1))]),(v9+1),og20,L.kk,h⟩
 ·refine wp_exit ?_;exact J6 out7 og8 a s (L.kk) h
theorem zjn {cap0_:Sboth_apart} {cap1_:Sthing_apart} {r_:(List SOn_scantling_apart_thing_search)} (h:zbd cap0_ cap1_ r_):Fn Tryz.prog 89 [(Pd.ptr En.Sboth_apart cap0_),(Pd.ptr En.Sthing_apart cap1_)] (Ro En.SOn_scantling_apart_thing_search 156 r_):=by
 unfold zbd at h;refine zbp Tryz.func89 J Tryz.ntmps89 (by rfl) (by simp) fun s0 a L=>?_;refine rs (sno En.SOn_scantling_apart_thing_search 156 L fun a s L=>?_);refine es (rs ?_);refine sno En.SOn_scantling_apart_thing_search 156 L fun a s L=>?_;refine es (wp_seq_k fun K1 H1=>?_);obtain ⟨r2,h3,h⟩:=h;refine ra 7 (p1 ((zkb h3).frz)) L fun a s L=>?_;refine wp_block ?_;have J6:∀(out4:(List SOn_scantling_apart_thing_search)) (og5:Option Nat) (a:Act) (s:St),Has N0 30 s0 a s [(3,(Pd.row En.SOn_scantling_apart_thing_search s0.w.heap.size 156 og5 out4))]→((zbd.j1 r_) out4)→K1 a s.w:=by
  intro out4 og5 a s L h;unfold zbd.j1 at h;show K1 a s.w;refine H1 _ _ (rA 2 L fun a s L=>?_);subst h;exact wp_ret (zif J L J)
 obtain ⟨k10,h⟩:=h;refine lpn (fun k11 a s=>∃(out7:(List SOn_scantling_apart_thing_search)) (v9:Int) (og8:Option Nat),Has N0 30 s0 a s [(0,(Pd.ptr En.Sboth_apart cap0_)),(1,(Pd.ptr En.Sthing_apart cap1_)),(3,(Pd.row En.SOn_scantling_apart_thing_search s0.w.heap.size 156 og8 out7)),(10,(Pd.rep (En.slice (En.int .u8)) r2)),(11,(Pi (r2.length:Int))),(12,(Pi v9))]∧zbd.l1 cap0_ cap1_ r2 (zbd.j1 r_) k11 out7 v9) k10 ⟨([]:(List SOn_scantling_apart_thing_search)),0,none,L.kk,h⟩ ?_;rintro k11 a s ⟨out7,v9,og8,L,h⟩ KL12 hKL12;unfold zbd.l1 at h;refine rA 1 L fun a s L=>?_;refine wp_seq_k fun K13 H13=>cn L h (fun h=>?_) fun h=>?_
 ·refine wp_skip (H13 _ _ ?_);refine wp_seq_k fun K14 H14=>wp_block ?_;obtain ⟨e15,h16,h⟩:=h;refine ra 3 (p1 h16) L fun a s L=>?_;obtain ⟨r17,h18,h19,h⟩:=h;refine rg (sl 8 (p1 ((zhc h18).frz)) L fun a s L=>?_);refine sv (zbm (x:=(r17,([]:(List (List SItem))),2)) (ps:=[(0,.tmp 23),(1,.const (.slice none 0 0)),(2,.const (.int .i64 2))]) zm0 J zpe (.cons (i:=0) op J (zv (zn _ _ _)) (.cons (i:=1) zns J (zj (zv (zn _ _ _)) J) (.cons (i:=2) op J (zj (zj (zn _ _ _) J) J) .nil))) J J) L fun a s L=>?_;refine sv (zbm (x:=(e15,(r17,([]:(List (List SItem))),2))) (ps:=[(0,.tmp 17),(1,.tmp 24)]) zo9 J stt156 (.cons (i:=0) op J (zv (zn _ _ _)) (.cons (i:=1) op J (zj (zn _ _ _) J) .nil)) J J) L fun a s L=>?_;refine sA 1 L fun a s L=>?_;refine zdo 27 L op op Ud.h Tq.h h19 J J J J ka fun a s og20 hg_ L=>?_;refine sA 1 L fun a s L=>?_;refine en' (H14 _ _ ?_);obtain ⟨h21,h⟩:=h;refine rg (sA 2 L fun a s L=>?_);refine en' ?_;exact hKL12 a s ⟨(out7++[(e15,(r17,([]:(List (List SItem))),2))]),(v9+1),og20,L.kk,h⟩
 ·refine wp_exit ?_;exact J6 out7 og8 a s (L.kk) h
set_option maxRecDepth 100000
noncomputable abbrev EnW:En ((List SOn_scantling_apart_thing_search)→Prop):=En.fun Tryz.prog (fun _=>[]) (fun q=>Rq (Pd.rep (En.slice En.SOn_scantling_apart_thing_search) q))
noncomputable abbrev EnW3:En (((List SOn_scantling_apart_thing_search)→Prop) × ((List SOn_scantling_apart_thing_search)→Prop) × ((List SOn_scantling_apart_thing_search)→Prop)):=En.cat EnW (En.cat EnW EnW)
section
variable {P : Program} {ops : Array Oper} {o : Oper} {L : Lst}
theorem Bld.fillP {α:Type} {E:En α} {pl:List (Nat × Nat)} {place:Nat→Option (Nat × Nat)} (hpl:∀(i:Nat) (q:Nat × Nat),pl[i]?=some q→place i=some q) {ps:List (Nat × Operand)} {x0 x2:α} (h:Bld E pl L ps x0 x2) {M:Nat→Prop} {n:Nat} {s0:St} {a:Act} {s:St} (hL:Has M n s0 a s L):
  ∀cs,E.R s.w (zfa s) cs x0→∃cs',Instr.fill place cs.toArray (ps.map fun (i,x)=>(i,a.eval x))=some cs'.toArray∧E.R s.w (zfa s) cs' x2:=by
 induction h with
 | nil=>intro cs hR;exact ⟨cs,rfl,hR⟩
 | cons hv hp hs _ ih=>
  intro cs hR;obtain ⟨cs1,hv1,hR1⟩:=hv M n s0 a s hL;have hl:=E.len hR;obtain ⟨cs2,h1,h2⟩:=ih (spl cs _ cs1) (hs.2 _ _ _ _ hR hR1);refine ⟨cs2, ?_,h2⟩;simp only [List.map_cons];rw [zob (hpl _ _ hp) (by rw [hv1];exact En.val_cells hR1) (En.len _ hR1) (by rw [hl];exact hs.1)];exact h1
theorem t_builda {α:Type} {E:En α} {z x:α} {t te:TypeId} {m:Nat} {pl:List (Nat × Nat)} {ps:List (Nat × Operand)} (hz:TyZ P t E z) (ha:E.agg=true) (ht:P.underlying t=some (.array m te)) (hi:(P.info? te).map (·.size)=some 1) (hpl:∀(i:Nat) (q:Nat × Nat),pl[i]?=some q→some (i,1)=some q)
  (hb:Bld E pl L ps z x) (ho:o.op = .build t ps.toArray) (hg:o.guard=none):T P ops o L (Pd.rep E x):=
 T.pure hg fun M n s0 a s hL=>by
  obtain ⟨i,v,cs,h1,h2,h3,h4⟩:=hz.zero;obtain ⟨ie,h5,h6⟩:∃ie,P.info? te=some ie∧ie.size=1:=by
   cases h:P.info? te with
   | none=>rw [h] at hi;cases hi
   | some i=>rw [h] at hi;exact ⟨i,rfl,by simpa using hi⟩
  obtain ⟨cs',h7,h8⟩:=hb.fillP (place:=fun i=>some (i*ie.size,ie.size)) (fun i q h=>by rw [h6,Nat.mul_one];exact hpl i q h) hL cs (h4 _ _);refine ⟨.agg cs'.toArray, ?_,cs',by unfold En.val;rw [ha];rfl,h8⟩;unfold execOp;rw [ho];have:=run_build (P:=P) s.w t (ps.toArray.map fun (i,x)=>(i,a.eval x)) cs'.toArray (by
   unfold Program.built;simp only [h1,ht,h2,h5,h3];simpa using h7)
  simp only [Sem.run_bind,this,Result.andThen_ok,Sem.run_pure]
theorem run_idxa {t te:TypeId} {k:IntKind} {i:Int} {b off m:Nat} (h:0≤i∧i<(m:Int)) (ht:P.underlying t=some (.array m te)) (hi:(P.info? te).map (·.size)=some 1) (w:World):
  (Instr.indexAt t (.pointer (some ⟨b,off,none⟩)) (.int k i)).run P w = .ok (.pointer (some ⟨b,off+i.toNat,none⟩)) w:=by
 obtain ⟨inf,h1,h2⟩:∃i,P.info? te=some i∧i.size=1:=by
  cases h:P.info? te with
  | none=>rw [h] at hi;cases hi
  | some i=>rw [h] at hi;exact ⟨i,rfl,by simpa using hi⟩
 have hsz:∀w:World,(sizeOf te).run P w = .ok 1 w:=fun w=>by simp [sizeOf,typeInfo,h1,h2]
 simp only [Instr.indexAt,asIntOf,Sem.run_bind,Sem.run_pure,Result.andThen_ok,run_underlying ht,Instr.sureAddr];rw [if_pos (by omega)];simp [hsz,zep]
theorem t_idxa {α β:Type} {E:En α} {E':En β} {a:α} {y:β} {k:IntKind} {i:Int} {m N g:Nat} {x z:Operand} {t te:TypeId} (hx:Opn L x (Pd.box E N g a)) (hz:Opn L z (Pd.rep (En.int k) i)) (h:0≤i∧i<(m:Int)) (ht:P.underlying t=some (.array m te)) (hi:(P.info? te).map (·.size)=some 1) (hp:Prt E i.toNat E' a y)
  (ho:o.op = .indexAddr t x z) (hg:o.guard=none):T P ops o L (Pd.optr E' N (some g) i.toNat y):=
 T.pure hg fun M n s0 ac s hL=>by
  obtain ⟨hv,h2,h4,cs,t',hc,hR⟩:=hx M n s0 ac s hL;have hi':=(z8.1 (hz M n s0 ac s hL)).1;have hcs:zeg s.w g (0+i.toNat) ((cs.drop i.toNat).take E'.sz):=(zcn hc).sub i.toNat E'.sz;refine ⟨.pointer (some ⟨g,0+i.toNat,none⟩), ?_,g,rfl,by rw [Nat.zero_add],h2,(Array.getElem?_eq_some_iff.1 hc).1,h4,_,by rw [Nat.zero_add] at hcs;exact hcs,hp.get _ _ _ hR⟩;unfold execOp;rw [ho];have:=run_idxa (P:=P) (b:=g) (off:=0) (k:=k) h ht hi s.w;simp only [hv,hi',Sem.run_bind,this,Result.andThen_ok,Sem.run_pure]
end
theorem zk0 {p_:Sboth_apart} {x_:Sthing_apart} {r_:(List SOn_scantling_apart_thing_search)} (h:zct p_ x_ r_):Fn Tryz.prog 59 [(Pd.rep En.Sboth_apart p_),(Pd.rep En.Sthing_apart x_)] (Rq (Pd.rep (En.slice En.SOn_scantling_apart_thing_search) r_)):=by
 refine zbp Tryz.func59 rfl Tryz.ntmps59 (by rfl) (by simp) fun s0 a hL=>?_;obtain ⟨F1,hF1⟩:∃F:(List SOn_scantling_apart_thing_search)→Prop,F=fun q=>zee p_ x_ q:=⟨_,rfl⟩;obtain ⟨F2,hF2⟩:∃F:(List SOn_scantling_apart_thing_search)→Prop,F=fun q=>zbe p_ x_ q:=⟨_,rfl⟩;obtain ⟨F3,hF3⟩:∃F:(List SOn_scantling_apart_thing_search)→Prop,F=fun q=>zbd p_ x_ q:=⟨_,rfl⟩;have tyW:Ty Tryz.prog 154 EnW:=⟨⟨_,_,rfl,rfl,rfl,rfl,by decide⟩,_,rfl,rfl⟩;have tyW3:Ty Tryz.prog 157 EnW3:=⟨⟨_,_,rfl,rfl,rfl,rfl,by decide⟩,_,rfl,rfl⟩;have tzW3:TyZ Tryz.prog 157 EnW3 ((fun _=>False),(fun _=>False),fun _=>False):=⟨_,_,([.nilFunc]++([.nilFunc]++[.nilFunc])),rfl,rfl,by rfl,fun _ _=>⟨_,_,rfl,.inl ⟨rfl,fun _ h=>h⟩,⟨_,_,rfl,.inl ⟨rfl,fun _ h=>h⟩,.inl ⟨rfl,fun _ h=>h⟩⟩⟩⟩;have u157:Tryz.prog.underlying 157=some (.array 3 154):=Tryz.underlying157;refine wp_seq_k fun K1 hK1=>?_;refine rg ?_;refine st 2 (t_box (o_t 0 rfl) rfl rfl) rfl rfl hL fun a s e_ hL=>?_;refine st 3 (t_box (o_t 1 rfl) rfl rfl) rfl rfl hL fun a s e_ hL=>?_;refine st 4 (zbi (q:=Pd.any) (fun _ _ _ _ _ _=>trivial) rfl rfl) rfl rfl hL fun a s e_ hL=>?_;refine en' ?_;show K1 a s.w;refine hK1 _ _ ?_;refine wp_seq_k fun K2 hK2=>?_;refine rg ?_;refine st 6 (zm3 (P:=Tryz.prog) (qs:=fun _=>[]) (R:=fun q=>Rq (Pd.rep (En.slice En.SOn_scantling_apart_thing_search) q)) (F:=F1) (cs:=[.tmp 2,.tmp 3]) (.cons (o_t 2 rfl) (.cons (o_t 3 rfl) .nil)) (zdz Tryz.func86 rfl (by rfl)) (zfp zit (zfp zit zj7)) (fun q hq=>by rw [hF1] at hq;exact (zjp hq).frz) rfl rfl) rfl rfl hL fun a s e_ hL=>?_
 refine st 7 (zm3 (P:=Tryz.prog) (qs:=fun _=>[]) (R:=fun q=>Rq (Pd.rep (En.slice En.SOn_scantling_apart_thing_search) q)) (F:=F2) (cs:=[.tmp 2,.tmp 3]) (.cons (o_t 2 rfl) (.cons (o_t 3 rfl) .nil)) (zdz Tryz.func88 rfl (by rfl)) (zfp zit (zfp zit zj7)) (fun q hq=>by rw [hF2] at hq;exact (zjo hq).frz) rfl rfl) rfl rfl hL fun a s e_ hL=>?_;refine st 8 (zm3 (P:=Tryz.prog) (qs:=fun _=>[]) (R:=fun q=>Rq (Pd.rep (En.slice En.SOn_scantling_apart_thing_search) q)) (F:=F3) (cs:=[.tmp 2,.tmp 3]) (.cons (o_t 2 rfl) (.cons (o_t 3 rfl) .nil)) (zdz Tryz.func89 rfl (by rfl)) (zfp zit (zfp zit zj7)) (fun q hq=>by rw [hF3] at hq;exact (zjn hq).frz) rfl rfl) rfl rfl hL fun a s e_ hL=>?_;refine st 9 (t_builda (E:=EnW3) (x:=(F1,F2,F3)) (pl:=[(0,1),(1,1),(2,1)]) (ps:=[(0,.tmp 6),(1,.tmp 7),(2,.tmp 8)]) tzW3 rfl u157 rfl (fun i q hq=>by
  rcases i with _ | _ | _ | i <;> simp at hq ⊢ <;> exact hq) (.cons (i:=0) (o_t 6 rfl) rfl (zv (zn _ _ _)) (.cons (i:=1) (o_t 7 rfl) rfl (zj (zv (zn _ _ _)) rfl) (.cons (i:=2) (o_t 8 rfl) rfl (zj (zj (zn _ _ _) rfl) rfl) .nil))) rfl rfl) rfl rfl hL fun a s e_ hL=>?_
 refine zba EnW3 (z:=((fun _=>False),(fun _=>False),fun _=>False)) 5 hL tzW3 rfl rfl rfl rfl fun a s g hg_ hL=>?_;refine zpg (x1:=(F1,F2,F3)) 5 hL rfl (o_t 9 rfl) tyW3 rfl rfl rfl (L':=[(3,Pd.ptr En.Sthing_apart x_)]) (.cons (t:=3) rfl (fun _ h_=>h_.elim) .nil) fun s hL=>?_;refine en' ?_;show K2 a s.w;refine hK2 _ _ ?_;have key:∃F:(List SOn_scantling_apart_thing_search)→Prop,(0≤x_.2.2∧x_.2.2<((3:Nat):Int))∧Prt EnW3 x_.2.2.toNat EnW (F1,F2,F3) F∧F r_:=by
  rcases h with ⟨h0,h⟩ | ⟨h0,h⟩ | ⟨h0,h⟩
  ·exact ⟨F1,by rw [h0];decide,by rw [h0];exact zbg (zy _ _),by rw [hF1];exact h⟩
  ·exact ⟨F2,by rw [h0];decide,by rw [h0];exact zp (zbg (zy _ _)) rfl,by rw [hF2];exact h⟩
  ·exact ⟨F3,by rw [h0];decide,by rw [h0];exact zp (zp (zy _ _) rfl) rfl,by rw [hF3];exact h⟩
 obtain ⟨F,hi,hp,hF⟩:=key;refine wp_seq_k fun K3 hK3=>?_;refine rg ?_;refine st 10 (zlw (off:=2) (o_t 3 rfl) Tryz.underlying100 rfl (zp (zp (zy _ _) rfl) rfl) rfl ty3 rfl rfl) rfl rfl hL fun a s e_ hL=>?_;refine st 11 (zci ty3 (o_t 10 rfl) rfl rfl) rfl rfl hL fun a s e_ hL=>?_;refine st 12 (t_idxa (E:=EnW3) (E':=EnW) (m:=3) (o_t 5 rfl) (o_t 11 rfl) hi u157 rfl hp rfl rfl) rfl rfl hL fun a s e_ hL=>?_;refine st 13 (zb3 tyW (o_t 12 rfl) rfl rfl) rfl rfl hL fun a s e_ hL=>?_;refine st 14 (zfc (xs:=[]) (q':=Pd.rep (En.slice En.SOn_scantling_apart_thing_search) r_) (o_t 13 rfl) hF .nil (fun s s' v hv=>hv) rfl rfl) rfl rfl hL fun a s e_ hL=>?_;refine st 4 (zbi (o_t 14 rfl) rfl rfl) rfl rfl hL fun a s e_ hL=>?_;refine en' ?_;show K3 a s.w;refine hK3 _ _ ?_;exact wp_ret (zdw rfl hL rfl)
end Go.Proofs.YtkbboemafklkkaaGreatDoor.V
namespace Go.Proofs.YtkbboemafklkkaaGreatDoor.V
open Go
set_option linter.unusedVariables false
set_option maxRecDepth 100000
set_option maxHeartbeats 2000000
set_option synthInstance.maxSize 100000
set_option synthInstance.maxHeartbeats 200000
theorem zls {p_:Sboth_apart} {x_:Sthing_apart} {r_:Bool} (h:zco p_ x_ r_):Fn Tryz.prog 60 [(Pd.rep En.Sboth_apart p_),(Pd.rep En.Sthing_apart x_)] (Rq (Pd.rep En.bool r_)):=by
 unfold zco at h;refine zbp Tryz.func60 J Tryz.ntmps60 (by rfl) (by simp) fun s0 a L=>?_;refine rA 3 L fun a s L=>?_;obtain ⟨r1,h2,r3,h4,h⟩:=h;refine wp_seq (rdx 10 (pp (zfq h2) (p1 (zfq h4))) L fun a s L=>?_);refine sA 2 L fun a s L=>?_;refine es ?_;obtain ⟨b5,h6,h⟩:=h;refine ra 26 (p1 h6) L fun a s L=>?_;subst h;exact wp_ret (zdw J L J)
theorem apart_key_ok {x_:Sthing_apart} {r_:Str} (h:zel x_ r_):Fn Tryz.prog 58 [(Pd.rep En.Sthing_apart x_)] (Rq (Pd.rep En.str r_)):=by
 unfold zel at h;refine zbp Tryz.func58 J Tryz.ntmps58 (by rfl) (by simp) fun s0 a L=>?_;refine rs (sA 1 L fun a s L=>?_);refine sv (zbi (o_s (by decide)) J J) L fun a s L=>?_;refine es ?_;obtain ⟨r1,h2,r3,h4,h5,h6,r7,h8,h9,h⟩:=h;refine wp_seq (rda zc1 12 [(Pd.ptr (En.int .i64) x_.2.2),(Pi x_.2.2),(Pd.rep En.str r1),(Pd.ptr (En.slice (En.slice En.SItem)) x_.1),(Pd.rep (En.slice (En.slice En.SItem)) x_.1),(Pd.rep En.str r3),(Pd.rep En.str (r1++r3)),(Pd.rep En.str ((r1++r3)++([124]:Str))),(Pd.ptr (En.slice (En.slice En.SItem)) x_.2.1),(Pd.rep (En.slice (En.slice En.SItem)) x_.2.1),(Pd.rep En.str r7),(Pd.rep En.str (((r1++r3)++([124]:Str))++r7))] L (by kernel_rfl) J J ?_ ?_)
 ·refine zbf.cons (zlw (off:=2) (O 1 J) U100 J (zp (zp (zy _ _) J) J) J ty3 J J) ?_;refine zbf.cons (zci ty3 (O 3 J) J J) ?_;refine zbf.cons (ze8 (zm6 h2) (xs:=[.tmp 4]) (.cons (O 4 J) .nil) J J) ?_;refine zbf.cons (zlw (off:=0) (O 1 J) U100 J (zbg (zy _ _)) J ty78 J J) ?_;refine zbf.cons (zci ty78 (O 6 J) J J) ?_;refine zbf.cons (ze8 (znd h4) (xs:=[.tmp 7]) (.cons (O 7 J) .nil) J J) ?_;refine zbf.cons (zp5 (O 5 J) (O 8 J) h5 J J) ?_;refine zbf.cons (zp5 (O 9 J) (o_s (by decide)) h6 J J) ?_;refine zbf.cons (zlw (off:=1) (O 1 J) U100 J (zp (zbg (zy _ _)) J) J ty78 J J) ?_;refine zbf.cons (zci ty78 (O 11 J) J J) ?_;refine zbf.cons (ze8 (znd h8) (xs:=[.tmp 12]) (.cons (O 12 J) .nil) J J) ?_;refine zbf.cons (zp5 (O 10 J) (O 13 J) h9 J J) ?_;exact zbf.nil
 intro a s _ L;replace L:=L.kk (L':=[(2,(Pd.rep En.str ([]:Str))),(14,(Pd.rep En.str (((r1++r3)++([124]:Str))++r7)))]);refine dp ?_;refine sA 1 L fun a s L=>?_;refine es ?_;subst h;exact wp_ret (zdw J L J)
theorem zca {d_:SDesc} {ev_:SDesc} {budget_:Int} {r_:SVerdict} (h:zbr d_ ev_ budget_ r_):Fn Tryz.prog 33 [(Pd.rep En.SDesc d_),(Pd.rep En.SDesc ev_),(Pi budget_)] (Rq (Pd.rep En.SVerdict r_)):=by
 unfold zbr at h;refine zbp Tryz.func33 J Tryz.ntmps33 (by rfl) (by simp) fun s0 a L=>?_;refine rs (sA 2 L fun a s L=>?_);refine zba En.SVerdict (z:=(0,[],[],0,0,0,0)) 6 L zlb J J J J fun a s g1 hg_ L=>?_;refine es (rs ?_);refine sA 2 L fun a s L=>?_;refine sv (zbm (x:=(d_,ev_)) (ps:=[(0,.tmp 10),(1,.tmp 11)]) tyz98 J stt98 (.cons (i:=0) op J (zv (zn _ _ _)) (.cons (i:=1) op J (zj (zn _ _ _) J) .nil)) J J) L fun a s L=>?_;have lt_d3:=L.blt 6 rfl;refine zba En.Sboth_apart (z:=([],[])) 7 L tyz98 J J J J fun a s g2 hg_ L=>?_;have d3:=Dis.newg hg_ lt_d3;refine sB 7 L fun s L=>?_;refine es ?_;obtain ⟨r7,h8,r9,h10,r11,h12,h⟩:=h;refine wp_seq ?_;obtain ⟨K4,H4,nK4,L⟩:=L.mark 999983;have lt5:∀k,(some g1)=some k→k<K4:=by rw [H4];exact L.blt 6 rfl
 have lt6:∀k,(some g2)=some k→k<K4:=by rw [H4];exact L.blt 7 rfl
 refine rda zc1 13 [(Pd.rep En.SDesc d_),(Pd.rep (En.slice (En.slice En.SItem)) r7),(Pd.rep En.SDesc ev_),(Pd.rep (En.slice (En.slice En.SItem)) r9),(Pd.rep En.Sthing_apart (r7,r9,0)),(Pd.rep En.Sboth_apart (d_,ev_)),(Pd.rep EnF104 (fun q_=>zct (d_,ev_) q_.1 q_.2)),(Pd.rep En.Sboth_apart (d_,ev_)),(Pd.rep EnF105 (fun q_=>zco (d_,ev_) q_.1 q_.2)),(Pd.rep En.SSpace_scantling_apart_thing_search ((r7,r9,0),(fun q_=>zel q_.1 q_.2),(fun q_=>zct (d_,ev_) q_.1 q_.2),(fun q_=>zco (d_,ev_) q_.1 q_.2))),(Pi budget_),(Pd.rep En.SFound_scantling_apart_thing_search r11),(Pd.ebox En.SFound_scantling_apart_thing_search s0.w.heap.size K4 ((0,[],[],0,0,0,0),([],[],0)))] L (by kernel_rfl) J J ?_ ?_
 ·refine zbf.cons (zci ty24 (O 3 J) J J) ?_;refine zbf.cons (ze8 ((zhs h8).frz) (xs:=[.tmp 13]) (.cons (O 13 J) .nil) J J) ?_;refine zbf.cons (zci ty24 (O 4 J) J J) ?_;refine zbf.cons (ze8 ((zhs h10).frz) (xs:=[.tmp 15]) (.cons (O 15 J) .nil) J J) ?_;refine zbf.cons (zbm (x:=(r7,r9,0)) (ps:=[(0,.tmp 14),(1,.tmp 16)]) zm0 J zpe (.cons (i:=0) (O 14 J) J (zv (zn _ _ _)) (.cons (i:=1) (O 16 J) J (zj (zv (zn _ _ _)) J) .nil)) J J) ?_;refine zbf.cons (zlc ty98 (O 7 J) J J) ?_;refine zbf.cons (t_q (Pd.rep EnF104 (fun q_=>zct (d_,ev_) q_.1 q_.2)) (t_mkmeth (cs:=[.tmp 18]) (.cons (O 18 J) .nil) (zdz Tryz.func59 J (by rfl)) (zfp enc_rep zj7) (fun q_ h_=>zk0 h_) J J)) ?_;refine zbf.cons (zlc ty98 (O 7 J) J J) ?_;refine zbf.cons (t_q (Pd.rep EnF105 (fun q_=>zco (d_,ev_) q_.1 q_.2)) (t_mkmeth (cs:=[.tmp 20]) (.cons (O 20 J) .nil) (zdz Tryz.func60 J (by rfl)) (zfp enc_rep zj7) (fun q_ h_=>zls h_) J J)) ?_;refine zbf.cons (zbm (x:=((r7,r9,0),(fun q_=>zel q_.1 q_.2),(fun q_=>zct (d_,ev_) q_.1 q_.2),(fun q_=>zco (d_,ev_) q_.1 q_.2))) (ps:=[(0,.tmp 17),(1,.func 58),(2,.tmp 19),(3,.tmp 21)]) tyz107 J stt107 (.cons (i:=0) (O 17 J) J (zv (zn _ _ _)) (.cons (i:=1) (o_q (Pd.rep EnF103 (fun q_=>zel q_.1 q_.2)) (o_fun (zdz Tryz.func58 J (by rfl)) (fun q_ h_=>apart_key_ok h_))) J (zj (zv (zn _ _ _)) J) (.cons (i:=2) (O 19 J) J (zj (zj (zv (zn _ _ _)) J) J) (.cons (i:=3) (O 21 J) J (zj (zj (zj (zn _ _ _) J) J) J) .nil)))) J J) ?_;refine zbf.cons (zt (O 2 J) J J) ?_;refine zbf.cons (ze8 (ze7 h12) (xs:=[.tmp 22,.tmp 23]) (.cons (O 22 J) (.cons (O 23 J) .nil)) J J) ?_
  refine zbf.cons (zp7 En.SFound_scantling_apart_thing_search (z:=((0,[],[],0,0,0,0),([],[],0))) (K:=K4) (m:=999983) J nK4 tyz102 J J) ?_;exact zbf.nil
 intro a s _ L;obtain ⟨g13,hg_,L⟩:=L.openb 8 rfl;have d14:=Dis.newg hg_ lt5;have d15:=Dis.newg hg_ lt6;replace L:=L.kk (L':=[(3,(Pd.ptr En.SDesc d_)),(4,(Pd.ptr En.SDesc ev_)),(6,(Pd.box En.SVerdict s0.w.heap.size g1 (0,[],[],0,0,0,0))),(8,(Pd.box En.SFound_scantling_apart_thing_search s0.w.heap.size g13 ((0,[],[],0,0,0,0),([],[],0)))),(24,(Pd.rep En.SFound_scantling_apart_thing_search r11))]);refine dp ?_;refine sB 8 L fun s L=>?_;refine es (rs ?_);refine sA 2 L fun a s L=>?_;have lt_d18:=L.blt 8 rfl;have lt_d17:=L.blt 6 rfl;refine zba En.SVerdict (z:=(0,[],[],0,0,0,0)) 9 L zlb J J J J fun a s g16 hg_ L=>?_;have d17:=Dis.newg hg_ lt_d17;have d18:=Dis.newg hg_ lt_d18;refine sB 9 L fun s L=>?_;refine es (wp_seq_k fun K19 H19=>?_);refine rA 3 L fun a s L=>?_;refine cn L h (fun h=>?_) fun h=>?_
 ·refine rs ?_;refine sA 1 L fun a s L=>?_;refine sB 6 L fun s L=>?_;refine es ?_;subst h;exact wp_ret (retb J ty31 L J)
 ·refine wp_skip (H19 _ _ ?_);refine wp_seq (anS 10 [(3,(Pd.ptr En.SDesc d_)),(4,(Pd.ptr En.SDesc ev_)),(6,(Pd.box En.SVerdict s0.w.heap.size g1 (0,[],[],0,0,0,0))),(8,(Pd.box En.SFound_scantling_apart_thing_search s0.w.heap.size g13 r11)),(9,(Pd.box En.SVerdict s0.w.heap.size g16 (r11.1.1,r11.1.2.1,r11.1.2.1,r11.1.2.2.2.1,(max r11.2.2.2 1),r11.1.2.2.2.2.2.1,r11.1.2.2.2.2.2.2)))] zc1 L (by kernel_rfl) (fun a s L=>?_) fun jz_ s e_ L=>?_)
  ·refine es ?_;refine wp_seq_k fun K20 H20=>rA 3 L fun a s L=>?_;refine wp_block (rA 2 L fun a s L=>?_);refine cn L h (fun h=>?_) fun h=>?_
   ·obtain ⟨h21,h⟩:=h;refine rg (sA 2 L fun a s L=>?_);refine st_appe 54 L o_e0 op Ud.h Tq.h h21 J J J J fun a s L=>?_;refine sA 1 L fun a s L=>?_;refine zc6 9 L J op op (zj (zv (zn _ _ _)) J) Tq.h J J J ka fun s L=>?_;refine en' (H20 _ _ ?_);refine rs (sA 1 L fun a s L=>?_);replace L:=L.dr (some g13);refine sB 6 L fun s L=>?_;refine es ?_;subst h;exact wp_ret (retb J ty31 L J)
   ·refine rA 2 L fun a s L=>?_;refine cn L h (fun h=>?_) fun h=>?_
    ·obtain ⟨r22,h23,h⟩:=h;refine rg (sl 8 (p1 ((zkj h23).tup)) L fun a s L=>?_);refine zc6 9 L J op op (zj (zv (zn _ _ _)) J) Tq.h J J J ka fun s L=>?_;refine en' (H20 _ _ ?_);refine rs (sA 1 L fun a s L=>?_);replace L:=L.dr (some g13);refine sB 6 L fun s L=>?_;refine es ?_;subst h;exact wp_ret (retb J ty31 L J)
    ·obtain ⟨r24,h25,h⟩:=h;refine rg (sl 8 (p1 ((zkj h25).tup)) L fun a s L=>?_);refine zc6 9 L J op op (zj (zv (zn _ _ _)) J) Tq.h J J J ka fun s L=>?_;refine en' (H20 _ _ ?_);refine rs (sA 1 L fun a s L=>?_);replace L:=L.dr (some g13);refine sB 6 L fun s L=>?_;refine es ?_;subst h;exact wp_ret (retb J ty31 L J)
  ·refine zch 0 31 L (by rfl) (by kernel_rfl) (by kernel_rfl) (by kernel_rfl) (fun _ _ _ _ h=>h) (q:=(Pd.optr (En.slice (En.int .u8)) s0.w.heap.size (some g16) (1) r11.1.2.1)) (y_fab (off:=1) (O 9 J) U31 J (zp (zbg (zy _ _)) J) J ty25 J J) J J fun a L=>?_;refine zch 2 33 L (by rfl) (by kernel_rfl) (by kernel_rfl) (by kernel_rfl) (fun _ _ _ _ h=>h) (q:=(Pd.optr En.Sthing_apart s0.w.heap.size (some g13) (7) r11.2)) (y_fab (off:=7) (O 8 J) U102 J (zp (zy _ _) J) J ty100 J J) J J fun a L=>?_;refine zch 3 34 L (by rfl) (by kernel_rfl) (by kernel_rfl) (by kernel_rfl) (fun _ _ _ _ h=>h) (q:=(Pd.optr (En.int .i64) s0.w.heap.size (some g13) (7+2) r11.2.2.2)) (y_fao (off:=2) (O 33 J) U100 J (zp (zp (zy _ _) J) J) J ty3 J J) J J fun a L=>?_;refine an2 (i:=1) (j:=4) (by kernel_rfl) (by rfl) (by rfl) ?_ ?_
   ·refine st 32 (zb3 ty25 (O 31 J) J J) J J L fun a s e_ L=>?_;refine ol ?_;refine zch 6 37 L (by rfl) (by kernel_rfl) (by kernel_rfl) (by kernel_rfl) (fun _ _ _ _ h=>h) (q:=(Pd.optr (En.slice (En.int .u8)) s0.w.heap.size (some g16) (2) r11.1.2.2.1)) (y_fab (off:=2) (O 9 J) U31 J (zp (zp (zbg (zy _ _)) J) J) J ty25 J J) J J fun a L=>?_;refine an2 (i:=4) (j:=7) (by kernel_rfl) (by rfl) (by rfl) ?_ ?_
    ·refine st 35 (zb3 ty3 (O 34 J) J J) J J L fun a s e_ L=>?_;refine ol ?_;refine zch 5 36 L (by rfl) (by kernel_rfl) (by kernel_rfl) (by kernel_rfl) (fun _ _ _ _ h=>h) (q:=(Pi (max r11.2.2.2 1))) (y_max (O 35 J) oI J J) J J fun a L=>?_;refine an1 (i:=7) (by kernel_rfl) (by rfl) ?_;refine zc6 9 L J op op (zj (zj (zv (zn _ _ _)) J) J) Tq.h J J J ka fun s L=>?_;refine ol ?_;refine zch 8 38 L (by rfl) (by kernel_rfl) (by kernel_rfl) (by kernel_rfl) (fun _ _ _ _ h=>h) (q:=(Pd.optr (En.int .i64) s0.w.heap.size (some g16) (4) r11.1.2.2.2.2.1)) (y_fab (off:=4) (O 9 J) U31 J (zp (zp (zp (zp (zbg (zy _ _)) J) J) J) J) J ty3 J J) J J fun a L=>?_;refine an1 (i:=9) (by kernel_rfl) (by rfl) ?_;refine zc6 9 L J op op (zj (zj (zj (zj (zv (zn _ _ _)) J) J) J) J) Tq.h J J J ka fun s L=>?_;refine ol ?_;refine an0 (by kernel_rfl) ?_;exact jz_ a s L.kk
    ·refine zc6 9 L J op op (zj (zj (zv (zn _ _ _)) J) J) Tq.h J J J ka fun s L=>?_;refine ol ?_;refine an1 (i:=4) (by kernel_rfl) (by rfl) ?_;refine sx 35 (zb3 ty3 (O 34 J) J J) L fun a s e_ L=>?_;refine ol ?_;refine zch 5 36 L (by rfl) (by kernel_rfl) (by kernel_rfl) (by kernel_rfl) (fun _ _ _ _ h=>h) (q:=(Pi (max r11.2.2.2 1))) (y_max (O 35 J) oI J J) J J fun a L=>?_;refine zch 8 38 L (by rfl) (by kernel_rfl) (by kernel_rfl) (by kernel_rfl) (fun _ _ _ _ h=>h) (q:=(Pd.optr (En.int .i64) s0.w.heap.size (some g16) (4) r11.1.2.2.2.2.1)) (y_fab (off:=4) (O 9 J) U31 J (zp (zp (zp (zp (zbg (zy _ _)) J) J) J) J) J ty3 J J) J J fun a L=>?_;refine an1 (i:=9) (by kernel_rfl) (by rfl) ?_;refine zc6 9 L J op op (zj (zj (zj (zj (zv (zn _ _ _)) J) J) J) J) Tq.h J J J ka fun s L=>?_;refine ol ?_;refine an0 (by kernel_rfl) ?_;exact jz_ a s L.kk
   ·refine st 35 (zb3 ty3 (O 34 J) J J) J J L fun a s e_ L=>?_;refine ol ?_;refine zch 5 36 L (by rfl) (by kernel_rfl) (by kernel_rfl) (by kernel_rfl) (fun _ _ _ _ h=>h) (q:=(Pi (max r11.2.2.2 1))) (y_max (O 35 J) oI J J) J J fun a L=>?_;refine an1 (i:=1) (by kernel_rfl) (by rfl) ?_;refine sx 32 (zb3 ty25 (O 31 J) J J) L fun a s e_ L=>?_;refine ol ?_;refine zch 6 37 L (by rfl) (by kernel_rfl) (by kernel_rfl) (by kernel_rfl) (fun _ _ _ _ h=>h) (q:=(Pd.optr (En.slice (En.int .u8)) s0.w.heap.size (some g16) (2) r11.1.2.2.1)) (y_fab (off:=2) (O 9 J) U31 J (zp (zp (zbg (zy _ _)) J) J) J ty25 J J) J J fun a L=>?_;refine an1 (i:=7) (by kernel_rfl) (by rfl) ?_;refine zc6 9 L J op op (zj (zj (zv (zn _ _ _)) J) J) Tq.h J J J ka fun s L=>?_;refine ol ?_;refine zch 8 38 L (by rfl) (by kernel_rfl) (by kernel_rfl) (by kernel_rfl) (fun _ _ _ _ h=>h) (q:=(Pd.optr (En.int .i64) s0.w.heap.size (some g16) (4) r11.1.2.2.2.2.1)) (y_fab (off:=4) (O 9 J) U31 J (zp (zp (zp (zp (zbg (zy _ _)) J) J) J) J) J ty3 J J) J J fun a L=>?_;refine an1 (i:=9) (by kernel_rfl) (by rfl) ?_;refine zc6 9 L J op op (zj (zj (zj (zj (zv (zn _ _ _)) J) J) J) J) Tq.h J J J ka fun s L=>?_;refine ol ?_;refine an0 (by kernel_rfl) ?_;exact jz_ a s L.kk
theorem zjx  {r_:Bool} (h:zgl  r_):Fn Tryz.prog 31 [] (Rq (Pd.rep En.bool r_)):=by
 unfold zgl at h;refine zbp Tryz.func31 J Tryz.ntmps31 (by rfl) (by simp) fun s0 a L=>?_;refine rA 1 L fun a s L=>?_;refine rs (sv (zbm (x:=(3,0,0,0,0,(0#256),([97]:Str))) (ps:=[(0,.const (.int .i64 3)),(6,.const (.string ⟨#[97]⟩))]) zme J stt40 (.cons (i:=0) op J (zv (zn _ _ _)) (.cons (i:=6) (o_s (by decide)) J (zj (zj (zj (zj (zj (zj (zn _ _ _) J) J) J) J) J) J) .nil)) J J) L fun a s L=>?_);refine sA 1 L fun a s L=>?_;refine sv (zbm (x:=[(3,0,0,0,0,(0#256),([97]:Str))]) (ps:=[(0,.tmp 9)]) zp3 J stt24 (.cons (i:=0) op J (zmm (zn _ _ _)) .nil) J J) L fun a s L=>?_;refine zba En.SDesc (z:=[]) 1 L zp3 J J J J fun a s g1 hg_ L=>?_;refine sB 1 L fun s L=>?_;refine es (rs ?_);refine sv (zbm (x:=(3,0,0,0,0,(0#256),([97,98]:Str))) (ps:=[(0,.const (.int .i64 3)),(6,.const (.string ⟨#[97,98]⟩))]) zme J stt40 (.cons (i:=0) op J (zv (zn _ _ _)) (.cons (i:=6) (o_s (by decide)) J (zj (zj (zj (zj (zj (zj (zn _ _ _) J) J) J) J) J) J) .nil)) J J) L fun a s L=>?_;refine sA 1 L fun a s L=>?_;refine sv (zbm (x:=[(3,0,0,0,0,(0#256),([97,98]:Str))]) (ps:=[(0,.tmp 12)]) zp3 J stt24 (.cons (i:=0) op J (zmm (zn _ _ _)) .nil) J J) L fun a s L=>?_;have lt_d3:=L.blt 1 rfl;refine zba En.SDesc (z:=[]) 2 L zp3 J J J J fun a s g2 hg_ L=>?_;have d3:=Dis.newg hg_ lt_d3;refine sB 2 L fun s L=>?_;refine es (rs ?_);refine sv (zbm (x:=(3,0,0,0,0,(0#256),([99]:Str))) (ps:=[(0,.const (.int .i64 3)),(6,.const (.string ⟨#[99]⟩))]) zme J stt40 (.cons (i:=0) op J (zv (zn _ _ _)) (.cons (i:=6) (o_s (by decide)) J (zj (zj (zj (zj (zj (zj (zn _ _ _) J) J) J) J) J) J) .nil)) J J) L fun a s L=>?_
 refine sA 1 L fun a s L=>?_;refine sv (zbm (x:=[(3,0,0,0,0,(0#256),([99]:Str))]) (ps:=[(0,.tmp 15)]) zp3 J stt24 (.cons (i:=0) op J (zmm (zn _ _ _)) .nil) J J) L fun a s L=>?_;have lt_d6:=L.blt 2 rfl;have lt_d5:=L.blt 1 rfl;refine zba En.SDesc (z:=[]) 3 L zp3 J J J J fun a s g4 hg_ L=>?_;have d5:=Dis.newg hg_ lt_d5;have d6:=Dis.newg hg_ lt_d6;refine sB 3 L fun s L=>?_;refine es ?_;obtain ⟨r7,h8,h⟩:=h;refine rs (sl 3 (p1 (zca h8)) L fun a s L=>?_);have lt_d12:=L.blt 3 rfl;have lt_d11:=L.blt 2 rfl;have lt_d10:=L.blt 1 rfl;refine zba En.SVerdict (z:=(0,[],[],0,0,0,0)) 4 L zlb J J J J fun a s g9 hg_ L=>?_;have d10:=Dis.newg hg_ lt_d10;have d11:=Dis.newg hg_ lt_d11;have d12:=Dis.newg hg_ lt_d12;refine sB 4 L fun s L=>?_;refine es ?_;obtain ⟨r13,h14,h⟩:=h;refine rs (sl 3 (p1 (zca h14)) L fun a s L=>?_);have lt_d19:=L.blt 4 rfl;have lt_d18:=L.blt 3 rfl;have lt_d17:=L.blt 2 rfl;have lt_d16:=L.blt 1 rfl;refine zba En.SVerdict (z:=(0,[],[],0,0,0,0)) 5 L zlb J J J J fun a s g15 hg_ L=>?_;have d16:=Dis.newg hg_ lt_d16;have d17:=Dis.newg hg_ lt_d17;have d18:=Dis.newg hg_ lt_d18;have d19:=Dis.newg hg_ lt_d19;refine sB 5 L fun s L=>?_;refine es ?_;obtain ⟨r20,h21,h⟩:=h;refine rs (sl 3 (p1 (zca h21)) L fun a s L=>?_);have lt_d26:=L.blt 5 rfl;have lt_d25:=L.blt 4 rfl;have lt_d24:=L.blt 3 rfl;have lt_d23:=L.blt 1 rfl;refine zba En.SVerdict (z:=(0,[],[],0,0,0,0)) 6 L zlb J J J J fun a s g22 hg_ L=>?_;have d23:=Dis.newg hg_ lt_d23;have d24:=Dis.newg hg_ lt_d24;have d25:=Dis.newg hg_ lt_d25;have d26:=Dis.newg hg_ lt_d26
 replace L:=L.dr (some g2);refine sB 6 L fun s L=>?_;refine es ?_;obtain ⟨r27,h28,h⟩:=h;refine rs (sl 3 (p1 (zca h28)) L fun a s L=>?_);have lt_d34:=L.blt 6 rfl;have lt_d33:=L.blt 5 rfl;have lt_d32:=L.blt 4 rfl;have lt_d31:=L.blt 3 rfl;have lt_d30:=L.blt 1 rfl;refine zba En.SVerdict (z:=(0,[],[],0,0,0,0)) 7 L zlb J J J J fun a s g29 hg_ L=>?_;have d30:=Dis.newg hg_ lt_d30;have d31:=Dis.newg hg_ lt_d31;have d32:=Dis.newg hg_ lt_d32;have d33:=Dis.newg hg_ lt_d33;have d34:=Dis.newg hg_ lt_d34;refine sB 7 L fun s L=>?_;refine es ?_;obtain ⟨r35,h36,r37,h38,b39,h40,r41,h42,b43,h44,r45,h46,b47,h48,r49,h50,r51,h52,h⟩:=h;refine rs ?_;dsimp only [List.append];refine sA 6 L fun a s L=>?_;refine zp9 (xs:=[.const (.int .u8 97)]) 35 36 J J J J J L (.cons op .nil) Ud.h Ud.h Tq.h J J (by decide) J J J J J J fun a s L=>?_;refine sl 5 (pp (fun hc_=>(zfn (h36 hc_))) trivial) L fun a s L=>?_;refine zp9 (xs:=[.const (.int .u8 97),.const (.int .u8 98)]) 42 43 J J J J J L (.cons op (.cons op .nil)) Ud.h Ud.h Tq.h J J (by decide) J J J J J J fun a s L=>?_;refine sl 15 (pp (fun hc_=>(zfn (h38 hc_))) (p1 h40)) L fun a s L=>?_;refine zp9 (xs:=[.const (.int .u8 97),.const (.int .u8 98)]) 59 60 J J J J J L (.cons op (.cons op .nil)) Ud.h Ud.h Tq.h J J (by decide) J J J J J J fun a s L=>?_;refine sl 39 (pp (fun hc_=>(zfn (h42 hc_))) (pp h44 (pp (fun hc_=>(zfn (h46 hc_))) (pp h48 (pp (fun hc_=>(zca (h50 hc_))) (pp (fun hc_=>(zca (h52 hc_))) trivial)))))) L fun a s L=>?_;refine es ?_;subst h;exact wp_ret (zdw J L J)
theorem ziq {d_:SDesc} {r_:Bool} (h:zhk d_ r_):Fn Tryz.prog 32 [(Pd.rep En.SDesc d_)] (Rq (Pd.rep En.bool r_)):=by
 unfold zhk at h;refine zbp Tryz.func32 J Tryz.ntmps32 (by rfl) (by simp) fun s0 a L=>?_;refine rA 2 L fun a s L=>?_;obtain ⟨r1,h2,r3,h4,b5,h6,r7,h8,h⟩:=h;refine ra 18 (pp (ref04_Few_ok h2) (pp (fun hc_=>(zni (h4 hc_))) (pp h6 (pp (fun hc_=>(zow (h8 hc_))) trivial)))) L fun a s L=>?_;subst h;exact wp_ret (zdw J L J)
theorem law22_ApartParts_ok {a_:SDesc} {b_:SDesc} {cv_:SDesc} {r_:Bool} (h:zf0 a_ b_ cv_ r_):Fn Tryz.prog 10 [(Pd.rep En.SDesc a_),(Pd.rep En.SDesc b_),(Pd.rep En.SDesc cv_)] (Rq (Pd.rep En.bool r_)):=by
 unfold zf0 at h;refine zbp Tryz.func10 J Tryz.ntmps10 (by rfl) (by simp) fun s0 a L=>?_;refine rA 4 L fun a s L=>?_;refine wp_seq_k fun K1 H1=>?_;obtain ⟨r2,h3,r4,h5,r6,h7,r8,h9,b10,h11,h⟩:=h;refine ra 29 (pp (zjx h3) (pp (fun hc_=>(ziq (h5 hc_))) (pp (fun hc_=>(ziq (h7 hc_))) (pp (fun hc_=>(ziq (h9 hc_))) (p1 h11))))) L fun a s L=>?_;refine cn L h (fun h=>?_) fun h=>?_
 ·obtain ⟨r12,h13,h⟩:=h;refine ra 2 (p1 (zjx h13)) L fun a s L=>?_;subst h;exact wp_ret (zdw J L J)
 ·refine wp_skip (H1 _ _ ?_);obtain ⟨r14,h15,h⟩:=h;refine rs (sl 3 (p1 (zkf h15)) L fun a s L=>?_);refine zba En.SDesc (z:=[]) 7 L zp3 J J J J fun a s g16 hg_ L=>?_;refine sB 7 L fun s L=>?_;refine es ?_;obtain ⟨r17,h18,h⟩:=h;refine ra 4 (p1 (znk h18)) L fun a s L=>?_;obtain ⟨r19,h20,h⟩:=h;refine rs (sl 4 (p1 (zca h20)) L fun a s L=>?_);have lt_d22:=L.blt 7 rfl;refine zba En.SVerdict (z:=(0,[],[],0,0,0,0)) 9 L zlb J J J J fun a s g21 hg_ L=>?_;have d22:=Dis.newg hg_ lt_d22;refine sB 9 L fun s L=>?_;refine es ?_;obtain ⟨r23,h24,h⟩:=h;refine rs (sl 4 (p1 (zca h24)) L fun a s L=>?_);have lt_d27:=L.blt 9 rfl;have lt_d26:=L.blt 7 rfl;refine zba En.SVerdict (z:=(0,[],[],0,0,0,0)) 10 L zlb J J J J fun a s g25 hg_ L=>?_;have d26:=Dis.newg hg_ lt_d26;have d27:=Dis.newg hg_ lt_d27;refine sB 10 L fun s L=>?_;refine es ?_;obtain ⟨r28,h29,h⟩:=h;refine rs (sl 4 (p1 (zca h29)) L fun a s L=>?_);have lt_d33:=L.blt 10 rfl;have lt_d32:=L.blt 9 rfl;have lt_d31:=L.blt 7 rfl;refine zba En.SVerdict (z:=(0,[],[],0,0,0,0)) 11 L zlb J J J J fun a s g30 hg_ L=>?_;have d31:=Dis.newg hg_ lt_d31;have d32:=Dis.newg hg_ lt_d32;have d33:=Dis.newg hg_ lt_d33;refine sB 11 L fun s L=>?_;refine es (wp_seq_k fun K34 H34=>?_);obtain ⟨b35,h36,h⟩:=h;refine ra 28 (p1 h36) L fun a s L=>?_;refine cn L h (fun h=>?_) fun h=>?_
  ·refine rA 1 L fun a s L=>?_;subst h;exact wp_ret (zdw J L J)
  ·refine wp_skip (H34 _ _ ?_);obtain ⟨r41,h42,r43,h44,h⟩:=h;refine wp_seq ?_;obtain ⟨K37,H37,nK37,L⟩:=L.mark 999983;have lt38:∀k,(some g21)=some k→k<K37:=by rw [H37];exact L.blt 9 rfl
   have lt39:∀k,(some g25)=some k→k<K37:=by rw [H37];exact L.blt 10 rfl
   have lt40:∀k,(some g30)=some k→k<K37:=by rw [H37];exact L.blt 11 rfl
   refine rda zc1 7 [(Pd.rep En.SDesc a_),(Pd.rep En.SDesc a_),(Pd.rep En.SDesc r41),(Pd.rep En.SDesc cv_),(Pi r17),(Pd.rep En.SVerdict r43),(Pd.ebox En.SVerdict s0.w.heap.size K37 (0,[],[],0,0,0,0))] L (by kernel_rfl) J J ?_ ?_
   ·refine zbf.cons (zci ty24 (O 3 J) J J) ?_;refine zbf.cons (zci ty24 (O 3 J) J J) ?_;refine zbf.cons (ze8 (zkf h42) (xs:=[.const (.int .i64 5),.tmp 89,.tmp 90]) (.cons oI (.cons (O 89 J) (.cons (O 90 J) .nil))) J J) ?_;refine zbf.cons (zci ty24 (O 5 J) J J) ?_;refine zbf.cons (zt (O 8 J) J J) ?_;refine zbf.cons (ze8 (zca h44) (xs:=[.tmp 91,.tmp 92,.tmp 93]) (.cons (O 91 J) (.cons (O 92 J) (.cons (O 93 J) .nil))) J J) ?_;refine zbf.cons (zp7 En.SVerdict (z:=(0,[],[],0,0,0,0)) (K:=K37) (m:=999983) J nK37 zlb J J) ?_;exact zbf.nil
   intro a s _ L;obtain ⟨g45,hg_,L⟩:=L.openb 12 rfl;have d46:=Dis.newg hg_ lt38;have d47:=Dis.newg hg_ lt39;have d48:=Dis.newg hg_ lt40;replace L:=L.kk (L':=[(9,(Pd.box En.SVerdict s0.w.heap.size g21 r19)),(12,(Pd.box En.SVerdict s0.w.heap.size g45 (0,[],[],0,0,0,0))),(94,(Pd.rep En.SVerdict r43))]);refine dp ?_;refine sB 12 L fun s L=>?_;refine es ?_;obtain ⟨b49,h50,b51,h52,h⟩:=h;refine ra 25 (pp h50 (p1 h52)) L fun a s L=>?_;subst h;exact wp_ret (zdw J L J)
def Lv (d:List SNode) (s:List SItem) (l:List (List SItem)):Prop:=∃h,lv d h s=some l
theorem Lv.uniq {d:List SNode} {s:List SItem} {l m:List (List SItem)} (h:Lv d s l) (k:Lv d s m):l=m:=by
 obtain ⟨a,ha⟩:=h;obtain ⟨b,hb⟩:=k;have h1:=zim (Nat.le_max_left a b) ha;have h2:=zim (Nat.le_max_right a b) hb;rw [h1] at h2;exact Option.some.inj h2
theorem Lv.ready {d:List SNode} {s:List SItem} (h:rdy d s=true):Lv d s [s]:=⟨1,by simp [lv,h]⟩
theorem lv_list {d:List SNode}:∀(ss:List (List SItem)) (f:List SItem→List (List SItem)),(∀t∈ss,Lv d t (f t))→∃h,ss.mapM (lv d h)=some (ss.map f)
 | [],_,_=>⟨0,rfl⟩
 | s::ss,f,hs=>by
  obtain ⟨h1,e1⟩:=hs s (by simp);obtain ⟨h2,e2⟩:=lv_list ss f fun t ht=>hs t (by simp [ht]);refine ⟨max h1 h2, ?_⟩;rw [List.mapM_cons,zim (Nat.le_max_left h1 h2) e1,zn1 (fun a b hb=>zim (Nat.le_max_right h1 h2) hb) _ _ e2];rfl
theorem Lv.open {d:List SNode} {s:List SItem} (hr:rdy d s=false) (f:List SItem→List (List SItem)) (h:∀t∈opn d s,Lv d t (f t)):Lv d s ((opn d s).map f).flatten:=by
 obtain ⟨k,e⟩:=lv_list _ f h;exact ⟨k+1,by unfold lv;rw [if_neg (by rw [hr];simp),e];rfl⟩
def PM (d:List SNode):Nat→Int→List (List SItem) × Nat
 | 0,_=>([],0)
 | k+1,i=>match at? d i with
  | none=>([],0)
  | some n=>
   if n.1=1 then ([],1)
   else if n.1=3 then ([[(3,i,0,0)]],0)
   else if n.1=4 then ((PM d k n.2.1).1.map (·++[(1,n.2.2.1,0,0)])++(List.replicate (PM d k n.2.1).2 (PM d k n.2.2.1).1).flatten,(PM d k n.2.1).2*(PM d k n.2.2.1).2)
   else if n.1=5 then ((PM d k n.2.1).1++(PM d k n.2.2.1).1,(PM d k n.2.1).2+(PM d k n.2.2.1).2)
   else if n.1=6 then ((PM d k n.2.1).1.map (·++[(1,i,0,0)]),1)
   else if n.1=7 then (if 0<n.2.2.2.2.1 then (PM d k n.2.1).1.map (·++[(2,i,max (n.2.2.2.1-1) 0,n.2.2.2.2.1-1)]) else [],if n.2.2.2.1=0 then 1 else 0)
   else ([[(1,i,0,0)]],0)
theorem zh6 {d:List SNode} (hd:ROk d):∀(k k':Nat) (i:Int),i<(k:Int)→i<(k':Int)→PM d k i=PM d k' i
 | 0,k',i,h,h'=>by
  cases k' with
  | zero=>rfl
  | succ k'=>
   have:at? d i=none:=by
    unfold at?;rw [if_neg (by omega)]
   simp [PM,this]
 | k+1,0,i,h,h'=>by
  have:at? d i=none:=by
   unfold at?;rw [if_neg (by omega)]
  simp [PM,this]
 | k+1,k'+1,i,h,h'=>by
  cases hn:at? d i with
  | none=>simp only [PM,hn]
  | some n=>
   simp only [PM,hn]
   by_cases h1:n.1=1
   ·simp [h1]
   ·by_cases h3:n.1=3
    ·simp [h3]
    ·by_cases h4:n.1=4
     ·obtain ⟨⟨a,b⟩,c,e⟩:=hd.two _ n hn (.inl h4);rw [zh6 hd k k' n.2.1 (by omega) (by omega),zh6 hd k k' n.2.2.1 (by omega) (by omega)]
     ·by_cases h5:n.1=5
      ·obtain ⟨⟨a,b⟩,c,e⟩:=hd.two _ n hn (.inr h5);rw [zh6 hd k k' n.2.1 (by omega) (by omega),zh6 hd k k' n.2.2.1 (by omega) (by omega)]
      ·by_cases h6:n.1=6
       ·obtain ⟨a,b⟩:=hd.one _ n hn (.inl h6);rw [zh6 hd k k' n.2.1 (by omega) (by omega)];simp [h6]
       ·by_cases h7:n.1=7
        ·obtain ⟨a,b⟩:=hd.one _ n hn (.inr (.inl h7));rw [zh6 hd k k' n.2.1 (by omega) (by omega)];simp [h7]
        ·simp [h1,h3,h4,h5,h6,h7]
def pm (d:List SNode) (i:Int):List (List SItem):=(PM d d.length i).1
def nw (d:List SNode) (i:Int):Nat:=(PM d d.length i).2
theorem zk6 {d:List SNode} (hd:ROk d) {i:Int} {n:SNode} (hn:at? d i=some n):PM d d.length i =
  (if n.1=1 then ([],1)
   else if n.1=3 then ([[(3,i,0,0)]],0)
   else if n.1=4 then ((pm d n.2.1).map (·++[(1,n.2.2.1,0,0)])++(List.replicate (nw d n.2.1) (pm d n.2.2.1)).flatten,nw d n.2.1*nw d n.2.2.1)
   else if n.1=5 then (pm d n.2.1++pm d n.2.2.1,nw d n.2.1+nw d n.2.2.1)
   else if n.1=6 then ((pm d n.2.1).map (·++[(1,i,0,0)]),1)
   else if n.1=7 then (if 0<n.2.2.2.2.1 then (pm d n.2.1).map (·++[(2,i,max (n.2.2.2.1-1) 0,n.2.2.2.2.1-1)]) else [],if n.2.2.2.1=0 then 1 else 0)
   else ([[(1,i,0,0)]],0)):=by
 obtain ⟨hb0,hb1⟩:=zbq hn;rw [zh6 hd d.length (d.length+1) i hb1 (by omega)];simp only [PM,hn,pm,nw]
theorem zj2 {d:List SNode} (hd:ROk d):∀(k:Nat) (i:Int) (n:SNode),i<(k:Int)→at? d i=some n→(nw d i≠0↔nz d i=true)
 | 0,i,n,hi,hn=>by have:=zbq hn;omega
 | k+1,i,n,hi,hn=>by
  have e:=zk6 hd hn;have en:nw d i=(PM d d.length i).2:=rfl;rw [en,e,nz_at hd hn]
  by_cases h1:n.1=1
  ·simp [h1]
  ·by_cases h3:n.1=3
   ·simp [h3]
   ·by_cases h4:n.1=4
    ·obtain ⟨⟨a,b⟩,c,e⟩:=hd.two _ n hn (.inl h4);obtain ⟨m1,hm1⟩:=zdt hn a b;obtain ⟨m2,hm2⟩:=zdt hn c e;have i1:=zj2 hd k _ m1 (by omega) hm1;have i2:=zj2 hd k _ m2 (by omega) hm2;rw [if_neg h1,if_neg h3,if_pos h4,if_neg h1,if_pos h4,Bool.and_eq_true,← i1,← i2];simp only;rw [Nat.mul_ne_zero_iff]
    ·by_cases h5:n.1=5
     ·obtain ⟨⟨a,b⟩,c,e⟩:=hd.two _ n hn (.inr h5);obtain ⟨m1,hm1⟩:=zdt hn a b;obtain ⟨m2,hm2⟩:=zdt hn c e;have i1:=zj2 hd k _ m1 (by omega) hm1;have i2:=zj2 hd k _ m2 (by omega) hm2;rw [if_neg h1,if_neg h3,if_neg h4,if_pos h5,if_neg h1,if_neg h4,if_pos h5,Bool.or_eq_true,← i1,← i2];simp only;omega
     ·by_cases h6:n.1=6
      ·simp [h6]
      ·by_cases h7:n.1=7
       ·by_cases h0:n.2.2.2.1=0 <;> simp [h7,h0]
       ·simp [h1,h3,h4,h5,h6,h7]
def pmI (d:List SNode) (x:SItem):List (List SItem):=
 if x.1=1 then pm d x.2.1
 else if x.1=2 then (match at? d x.2.1 with | some n=>if 0<x.2.2.2 then (pm d n.2.1).map (·++[(2,x.2.1,max (x.2.2.1-1) 0,x.2.2.2-1)]) else [] | none=>[])
 else if x.1=5 then [] else [[x]]
def nwI (d:List SNode) (x:SItem):Nat:=
 if x.1=1 then nw d x.2.1 else if x.1=2 then (if x.2.2.1=0 then 1 else 0) else if x.1=5 then (if x.2.2.1=0 then 1 else 0) else 0
abbrev Told (d:List SNode) (P:List (List SItem)) (m:Nat) (rest:List SItem) (s:List SItem):Prop:=
 ∀lr,(m≠0→Lv d rest lr)→∃l,Lv d s l∧l.Perm (P.map (·++rest)++(List.replicate m lr).flatten)
theorem perm_flat {α:Type} {a b:List α} (h:a.Perm b) (m:Nat):(List.replicate m a).flatten.Perm (List.replicate m b).flatten:=by
 induction m with
 | zero=>exact .refl _
 | succ m ih=>
  rw [List.replicate_succ,List.replicate_succ,List.flatten_cons,List.flatten_cons];exact h.append ih
theorem rep_split {α:Type} (m:Nat) (a b:List α):(List.replicate m (a++b)).flatten.Perm ((List.replicate m a).flatten++(List.replicate m b).flatten):=by
 induction m with
 | zero=>exact .refl _
 | succ m ih=>
  simp only [List.replicate_succ,List.flatten_cons];refine (ih.append_left (a++b)).trans ?_;rw [List.append_assoc,List.append_assoc];refine List.Perm.append_left a ?_;rw [← List.append_assoc,← List.append_assoc];exact (List.perm_append_comm).append_right _
theorem rep_rep {α:Type} (m k:Nat) (a:List α):(List.replicate m (List.replicate k a).flatten).flatten=(List.replicate (m*k) a).flatten:=by
 induction m with
 | zero=>simp
 | succ m ih=>rw [List.replicate_succ,List.flatten_cons,ih,Nat.succ_mul,Nat.add_comm,← List.replicate_append_replicate,List.flatten_append]
theorem rep_map {α β:Type} (f:α→β) (m:Nat) (a:List α):((List.replicate m a).flatten).map f=(List.replicate m (a.map f)).flatten:=by
 rw [List.map_flatten,List.map_replicate]
theorem told_seq {d:List SNode} {P1 P2:List (List SItem)} {m1 m2:Nat} {b:SItem} {rest s:List SItem} (h1:Told d P1 m1 (b::rest) s) (h2:Told d P2 m2 rest (b::rest)):Told d (P1.map (·++[b])++(List.replicate m1 P2).flatten) (m1*m2) rest s:=by
 intro lr hlr;have key:∃lb,(m1≠0→Lv d (b::rest) lb∧lb.Perm (P2.map (·++rest)++(List.replicate m2 lr).flatten)):=by
  by_cases h:m1=0
  ·exact ⟨[],fun k=>absurd h k⟩
  ·obtain ⟨lb,k1,k2⟩:=h2 lr fun k=>hlr (Nat.mul_ne_zero h k);exact ⟨lb,fun _=>⟨k1,k2⟩⟩
 obtain ⟨lb,hlb⟩:=key;obtain ⟨l,k1,k2⟩:=h1 lb fun k=>(hlb k).1;refine ⟨l,k1,k2.trans ?_⟩;have e1:P1.map (·++b::rest)=(P1.map (·++[b])).map (·++rest):=by
  rw [List.map_map];apply List.map_congr_left;intro p _;simp
 rw [e1,List.map_append,List.append_assoc];refine List.Perm.append_left _ ?_
 by_cases h:m1=0
 ·subst h;simp
 ·refine (perm_flat (hlb h).2 m1).trans ?_;refine (rep_split m1 _ _).trans ?_;rw [rep_map,rep_rep]
theorem zn2 {d:List SNode} {s t:List SItem} (hr:rdy d s=false) (ho:opn d s=[t]) {l:List (List SItem)} (h:Lv d t l):Lv d s l:=by
 have:=Lv.open hr (fun _=>l) (fun x hx=>by rw [ho] at hx;rw [List.mem_singleton.1 hx];exact h);rw [ho] at this;simpa using this
theorem lv_two {d:List SNode} {s t u:List SItem} (hr:rdy d s=false) (ho:opn d s=[t,u]) {l m:List (List SItem)} (h:Lv d t l) (k:Lv d u m):Lv d s (l++m):=by
 by_cases htu:t=u
 ·subst htu;rw [k.uniq h];have:=Lv.open hr (fun _=>l) (fun x hx=>by rw [ho] at hx;simp at hx;rw [hx];exact h);rw [ho] at this;simpa using this
 ·have:=Lv.open hr (fun x=>if x=t then l else m) (fun x hx=>by
   rw [ho] at hx;simp only [List.mem_cons,List.not_mem_nil,or_false] at hx;rcases hx with rfl | rfl
   ·simp;exact h
   ·simp [Ne.symm htu];exact k)
  rw [ho] at this;simpa [Ne.symm htu] using this
theorem lv_none {d:List SNode} {s:List SItem} (hr:rdy d s=false) (ho:opn d s=[]):Lv d s []:=by
 have:=Lv.open hr (fun _=>[]) (fun x hx=>by rw [ho] at hx;cases hx);rw [ho] at this;simpa using this
theorem told_rep {d:List SNode} (hd:ROk d) {i:Int} {n:SNode} (hn:at? d i=some n) (h7:n.1=7) (hA:∀rest,Told d (pm d n.2.1) 0 rest ((1,n.2.1,0,0)::rest)) (lo hi:Int) (rest:List SItem):
  Told d (if 0<hi then (pm d n.2.1).map (·++[(2,i,max (lo-1) 0,hi-1)]) else []) (if lo=0 then 1 else 0) rest ((2,i,lo,hi)::rest):=by
 intro lr hlr;have hr:rdy d ((2,i,lo,hi)::rest)=false:=by simp [rdy]
 have ho:opn d ((2,i,lo,hi)::rest)=(if lo=0 then [rest] else [])++(if 0<hi then [(1,n.2.1,0,0)::(2,i,max (lo-1) 0,hi-1)::rest] else []):=by
  simp only [opn,hn];rw [if_neg (by decide),if_pos trivial]
 obtain ⟨la,ha,hpa⟩:=hA ((2,i,max (lo-1) 0,hi-1)::rest) [] (fun h=>absurd rfl h);have e1:(pm d n.2.1).map (·++(2,i,max (lo-1) 0,hi-1)::rest)=((pm d n.2.1).map (·++[(2,i,max (lo-1) 0,hi-1)])).map (·++rest):=by
  rw [List.map_map];apply List.map_congr_left;intro p _;simp
 rw [e1] at hpa;simp only [List.replicate_zero,List.flatten_nil,List.append_nil] at hpa
 by_cases h0:lo=0
 ·have hL:=hlr (by simp [h0])
  by_cases h1:0<hi
  ·refine ⟨_,lv_two hr (by rw [ho,if_pos h0,if_pos h1];rfl) hL ha, ?_⟩;rw [if_pos h1,if_pos h0];simp only [List.replicate_one,List.flatten_cons,List.flatten_nil,List.append_nil];exact (List.perm_append_comm).trans (hpa.append_right _)
  ·refine ⟨_,zn2 hr (by rw [ho,if_pos h0,if_neg h1];rfl) hL, ?_⟩;rw [if_neg h1,if_pos h0];simp
 ·by_cases h1:0<hi
  ·refine ⟨_,zn2 hr (by rw [ho,if_neg h0,if_pos h1];rfl) ha, ?_⟩;rw [if_pos h1,if_neg h0];simpa using hpa
  ·refine ⟨_,lv_none hr (by rw [ho,if_neg h0,if_neg h1];rfl), ?_⟩;rw [if_neg h1,if_neg h0];simp
theorem zm1 {d:List SNode} (hd:ROk d):∀(k:Nat) (i:Int) (n:SNode),i<(k:Int)→at? d i=some n→∀rest,Told d (pm d i) (nw d i) rest ((1,i,0,0)::rest)
 | 0,i,n,hi,hn,_=>by have:=zbq hn;omega
 | k+1,i,n,hi,hn,rest=>by
  have ih:=zm1 hd k;have e:=zk6 hd hn;have ep:pm d i=(PM d d.length i).1:=rfl;have en:nw d i=(PM d d.length i).2:=rfl;rw [ep,en,e];have hk9:=hd.kind _ n hn;have rd0:(n.1≠2∧n.1≠8∧n.1≠9)→rdy d ((1,i,0,0)::rest)=false:=fun h=>by
   simp only [rdy,hn];simp [h.1,h.2.1,h.2.2]
  have op0:opn d ((1,i,0,0)::rest)=(if n.1=1 then [rest] else if n.1=3 then [(3,i,0,0)::rest] else if n.1=4 then [(1,n.2.1,0,0)::(1,n.2.2.1,0,0)::rest] else if n.1=5 then [(1,n.2.1,0,0)::rest,(1,n.2.2.1,0,0)::rest]
    else if n.1=6 then [rest,(1,n.2.1,0,0)::(1,i,0,0)::rest] else [(2,i,n.2.2.2.1,n.2.2.2.2.1)::rest]):=by
   simp only [opn,hn];rw [if_neg (by decide),if_neg (by decide)]
  have z0:∀a:Int,0≤a→a<i→nz d a=false→nw d a=0:=fun a h0 h1 hz=>by
   obtain ⟨m,hm⟩:=zdt hn h0 h1;rcases Nat.eq_zero_or_pos (nw d a) with h | h
   ·exact h
   ·have:=(zj2 hd k a m (by omega) hm).1 (by omega);rw [hz] at this;cases this
  by_cases h1:n.1=1
  ·rw [if_pos h1];intro lr hlr;refine ⟨lr,zn2 (rd0 (by omega)) (by rw [op0,if_pos h1]) (hlr (by simp)),by simp⟩
  ·rw [if_neg h1] at op0 ⊢
   by_cases h3:n.1=3
   ·rw [if_pos h3] at op0 ⊢;intro lr hlr;exact ⟨_,zn2 (rd0 (by omega)) op0 (Lv.ready (by simp [rdy])),by simp⟩
   ·rw [if_neg h3] at op0 ⊢
    by_cases h4:n.1=4
    ·rw [if_pos h4] at op0 ⊢;obtain ⟨⟨a,b⟩,c,e⟩:=hd.two _ n hn (.inl h4);obtain ⟨m1,hm1⟩:=zdt hn a b;obtain ⟨m2,hm2⟩:=zdt hn c e;have:=told_seq (ih _ m1 (by omega) hm1 ((1,n.2.2.1,0,0)::rest)) (ih _ m2 (by omega) hm2 rest);intro lr hlr;obtain ⟨l,k1,k2⟩:=this lr hlr;exact ⟨l,zn2 (rd0 (by omega)) op0 k1,k2⟩
    ·rw [if_neg h4] at op0 ⊢
     by_cases h5:n.1=5
     ·rw [if_pos h5] at op0 ⊢;obtain ⟨⟨a,b⟩,c,e⟩:=hd.two _ n hn (.inr h5);obtain ⟨m1,hm1⟩:=zdt hn a b;obtain ⟨m2,hm2⟩:=zdt hn c e;intro lr hlr;simp only at hlr;obtain ⟨l1,k1,k2⟩:=ih _ m1 (by omega) hm1 rest lr fun h=>hlr (by omega);obtain ⟨l2,k3,k4⟩:=ih _ m2 (by omega) hm2 rest lr fun h=>hlr (by omega);refine ⟨_,lv_two (rd0 (by omega)) op0 k1 k3,(k2.append k4).trans ?_⟩;rw [List.map_append,← List.replicate_append_replicate,List.flatten_append,List.append_assoc,List.append_assoc];refine List.Perm.append_left _ ?_;rw [← List.append_assoc,← List.append_assoc];exact (List.perm_append_comm).append_right _
     ·rw [if_neg h5] at op0 ⊢
      by_cases h6:n.1=6
      ·rw [if_pos h6] at op0 ⊢;obtain ⟨a,b⟩:=hd.one _ n hn (.inl h6);obtain ⟨m1,hm1⟩:=zdt hn a b;have hz:=z0 _ a b (hd.nn _ n hn (.inl h6));intro lr hlr;have hA:=ih _ m1 (by omega) hm1 ((1,i,0,0)::rest) [] (fun h=>absurd hz h);obtain ⟨l1,k1,k2⟩:=hA;refine ⟨_,lv_two (rd0 (by omega)) op0 (hlr (by simp)) k1, ?_⟩;rw [hz] at k2;have e1:(pm d n.2.1).map (·++(1,i,0,0)::rest)=((pm d n.2.1).map (·++[(1,i,0,0)])).map (·++rest):=by
        rw [List.map_map];apply List.map_congr_left;intro p _;simp
       rw [e1] at k2;simp only [List.replicate_zero,List.flatten_nil,List.append_nil] at k2;simp only [List.replicate_one,List.flatten_cons,List.flatten_nil,List.append_nil];exact (List.perm_append_comm).trans (k2.append_right _)
      ·rw [if_neg h6] at op0 ⊢
       by_cases h7:n.1=7
       ·rw [if_pos h7];obtain ⟨a,b⟩:=hd.one _ n hn (.inr (.inl h7));obtain ⟨m1,hm1⟩:=zdt hn a b;have hz:=z0 _ a b (hd.nn _ n hn (.inr h7));have:=told_rep hd hn h7 (fun rest=>by have:=ih _ m1 (by omega) hm1 rest;rw [hz] at this;exact this) n.2.2.2.1 n.2.2.2.2.1 rest;intro lr hlr;obtain ⟨l,k1,k2⟩:=this lr hlr;exact ⟨l,zn2 (rd0 (by omega)) op0 k1,k2⟩
       ·rw [if_neg h7];intro lr hlr;refine ⟨_,Lv.ready ?_,by simp⟩;simp only [rdy,hn];have:n.1=2∨n.1=8∨n.1=9:=by omega
        rcases this with h | h | h <;> simp [h]
theorem told_item {d:List SNode} (hd:ROk d) {x:SItem} (hx:zeo d x=true) (rest:List SItem):Told d (pmI d x) (nwI d x) rest (x::rest):=by
 by_cases h5:x.1=5
 ·have e1:pmI d x=[]:=by simp [pmI,h5]
  have e2:nwI d x=if x.2.2.1=0 then 1 else 0:=by simp [nwI,h5]
  rw [e1,e2];intro lr hlr;have hr:rdy d (x::rest)=false:=by simp [rdy,h5]
  by_cases h0:x.2.2.1=0
  ·rw [if_pos h0] at hlr ⊢;refine ⟨lr,zn2 hr (by simp [opn,h5,h0]) (hlr (by simp)),by simp⟩
  ·rw [if_neg h0];exact ⟨_,lv_none hr (by simp [opn,h5,h0]),by simp⟩
 ·obtain ⟨n,hn,hk⟩:=ze5 hx h5;rcases hk with h1 | ⟨h2,h7⟩ | ⟨h3,_⟩ | ⟨h4,_⟩
  ·have e:x=(1,x.2.1,0,0):=by
    unfold zeo at hx;rw [if_neg h5,hn] at hx;simp [h1] at hx;obtain ⟨a,b,c,e⟩:=x;simp only at h1 hx;rw [h1,hx.1,hx.2]
   have e1:pmI d x=pm d x.2.1:=by simp [pmI,h1]
   have e2:nwI d x=nw d x.2.1:=by simp [nwI,h1]
   have:=zbq hn;rw [e1,e2];have ht:=zm1 hd d.length _ n (by omega) hn rest;rw [← e] at ht;exact ht
  ·have e1:pmI d x=if 0<x.2.2.2 then (pm d n.2.1).map (·++[(2,x.2.1,max (x.2.2.1-1) 0,x.2.2.2-1)]) else []:=by simp [pmI,h2,hn]
   have e2:nwI d x=if x.2.2.1=0 then 1 else 0:=by simp [nwI,h2]
   rw [e1,e2];obtain ⟨a,b⟩:=hd.one _ n hn (.inr (.inl h7));obtain ⟨m1,hm1⟩:=zdt hn a b;have hb:=zbq hn;have hz:nw d n.2.1=0:=by
    rcases Nat.eq_zero_or_pos (nw d n.2.1) with h | h
    ·exact h
    ·have:=(zj2 hd d.length _ m1 (by omega) hm1).1 (by omega);rw [hd.nn _ n hn (.inr h7)] at this;cases this
   have:=told_rep hd hn h7 (fun rest=>by have:=zm1 hd d.length _ m1 (by omega) hm1 rest;rw [hz] at this;exact this) x.2.2.1 x.2.2.2 rest;obtain ⟨xk,xi,xl,xh⟩:=x;simp only at h2;subst h2;exact this
  ·have e1:pmI d x=[[x]]:=by simp [pmI,h3]
   have e2:nwI d x=0:=by simp [nwI,h3]
   rw [e1,e2];intro lr _;exact ⟨_,Lv.ready (by simp [rdy,h3]),by simp⟩
  ·have e1:pmI d x=[[x]]:=by simp [pmI,h4]
   have e2:nwI d x=0:=by simp [nwI,h4]
   rw [e1,e2];intro lr _;exact ⟨_,Lv.ready (by simp [rdy,h4]),by simp⟩
def hds (d:List SNode):List SItem→List (List SItem)
 | []=>[[]]
 | x::rest=>(pmI d x).map (·++rest)++(List.replicate (nwI d x) (hds d rest)).flatten
theorem zpt {d:List SNode} (hd:ROk d):∀(s:List SItem),zds d s=true→∃l,Lv d s l∧l.Perm (hds d s)
 | [],_=>⟨[[]],Lv.ready rfl,.refl _⟩
 | x::rest,hf=>by
  obtain ⟨h1,h2⟩:=zde hf;obtain ⟨lr,k1,k2⟩:=zpt hd rest h2;obtain ⟨l,k3,k4⟩:=told_item hd h1 rest lr fun _=>k1;exact ⟨l,k3,k4.trans (List.Perm.append_left _ (perm_flat k2 _))⟩
theorem exl {ρ:Type} {γ:Sort _} {P:γ→ρ→Prop} (c:γ) (h:∃r,P c r):∃r,∃c,P c r:=let ⟨r,h⟩:=h;⟨r,c,h⟩
theorem zmb {ρ:Type} {A:Prop} {B:ρ→Prop} (a:A) (h:∃r,B r):∃r,A∧B r:=let ⟨r,h⟩:=h;⟨r,a,h⟩
theorem pick {ρ:Type} [Inhabited ρ] {b:Bool} {X Y:ρ→Prop} (h1:b=true→∃r,X r) (h2:b=false→∃r,Y r):∃r,(b=true→X r)∧(b=false→Y r):=by
 cases b
 ·obtain ⟨r,h⟩:=h2 rfl;exact ⟨r,(fun h=>by cases h),fun _=>h⟩
 ·obtain ⟨r,h⟩:=h1 rfl;exact ⟨r,fun _=>h,(fun h=>by cases h)⟩
def sumT (l:List SNode):Nat:=(l.map fun n=>n.2.2.2.2.2.2.length).sum
theorem sumT_le {l:List SNode} (h:∀n∈l,n.2.2.2.2.2.2.length≤140737488351232):sumT l≤l.length*140737488351232:=by
 induction l with
 | nil=>simp [sumT]
 | cons x l ih=>
  have h1:=h x (by simp);have h2:=ih fun n hn=>h n (by simp [hn]);simp only [sumT,List.map_cons,List.sum_cons,List.length_cons] at h2 ⊢;omega
theorem few_ex {d:List SNode} (ht:∀n∈d,n.2.2.2.2.2.2.length≤140737488351232):∃r,zcx d r∧(r=true→d.length≤100):=by
 refine ⟨decide ((d.length:Int)≤100)&&decide (((sumT (d.take (min d.length 200)):Nat):Int)≤2000), ?_,fun h=>?_⟩
 ·refine zha (P:=fun k (s:Int) v=>zcx.l1 d _ k s v) (min d.length 200) (fun i s=>s=((sumT (d.take i):Nat):Int)) ?_ ?_ _ (by simp [sumT])
  ·rintro i s hi rfl;have hd:i<d.length:=by omega
   have h1:=sumT_le (l:=d.take i) fun n hn=>ht n (List.mem_of_mem_take hn);have h2:=ht _ (List.getElem_mem hd);have h3:(d.take i).length=i:=by simp;omega
   rw [h3] at h1;have h4:i*140737488351232≤200*140737488351232:=Nat.mul_le_mul_right _ (by omega);have e:sumT (d.take (i+1))=sumT (d.take i)+d[i].2.2.2.2.2.2.length:=by
    unfold sumT;rw [List.take_succ_eq_append_getElem hd,List.map_append,List.sum_append];simp only [List.map_cons,List.map_nil,List.sum_cons,List.sum_nil,Nat.add_zero]
   refine .inr ⟨_,rfl,fun k h=>⟨true,by simp;omega,fun _=>⟨d[i],by rw [zbv];simp [hd],zi (by omega) (by omega),zi (by omega) (by omega), ?_⟩,(fun h=>by cases h)⟩⟩;rw [e] at h;simpa using h
  ·rintro s rfl k;exact ⟨false,by simp;omega,(fun h=>by cases h),fun _=>⟨_,rfl,rfl⟩⟩
 ·simp only [Bool.and_eq_true,decide_eq_true_eq] at h;omega
theorem byte_in {s:Str} {i:Int} (h0:0≤i) (h1:i<(s.length:Int)):∃c,zd2 s i=some c:=by
 obtain ⟨x,hx,_⟩:=zol h0 h1;exact ⟨_,by unfold zd2;rw [hx];rfl⟩
theorem in_ex (s:Str) {i:Int} (f t:Int) (h0:0≤i):∃r,zfm s i f t r:=by
 by_cases h1:i<(s.length:Int)
 ·obtain ⟨c,hc⟩:=byte_in h0 h1;exact ⟨_,c,fun _=>hc,_,rfl,c,fun _=>hc,rfl⟩
 ·exact ⟨_,0,fun h=>absurd (dt h) h1,_,rfl,0,fun h=>absurd h (by simp [h1]),rfl⟩
theorem utf8_ex {s:Str} (hl:s.length≤140737488351232):∃r,zbk s r:=by
 have key:∀(m:Nat) (i:Int),0≤i→(s.length:Int)+4-i≤m→i≤(s.length:Int)+4→∃q:Bool × Nat,zbk.l1 s q.1 (zbk.j1 q.1) q.2 i:=by
  intro m
  induction m with
  | zero=>
   intro i h0 h1 h2;exact ⟨(true,1),fun h=>absurd (dt h) (by omega),fun _=>rfl⟩
  | succ m ih=>
   intro i h0 h1 h2
   suffices h:∃q:Bool × Nat,zbk.l1 s q.1 (zbk.j1 q.1) (q.2+1) i by
    obtain ⟨q,hq⟩:=h;exact ⟨(q.1,q.2+1),hq⟩
   unfold zbk.l1;refine pick (fun hd=>?_) (fun hd=>⟨(true,0),rfl⟩);have hlt:=dt hd;obtain ⟨c,hc⟩:=byte_in h0 hlt;obtain ⟨r17,h17⟩:=in_ex s (i:=i+1) 128 191 (by omega);obtain ⟨r21,h21⟩:=in_ex s (i:=i+2) 128 191 (by omega);obtain ⟨r25,h25⟩:=in_ex s (i:=i+3) 128 191 (by omega);obtain ⟨r35,h35⟩:=in_ex s (i:=i+1) 160 191 (by omega);obtain ⟨r44,h44⟩:=in_ex s (i:=i+1) 128 159 (by omega);obtain ⟨r49,h49⟩:=in_ex s (i:=i+1) 144 191 (by omega);obtain ⟨r58,h58⟩:=in_ex s (i:=i+1) 128 143 (by omega);have i1:InR .i64 (i+1):=zi (by omega) (by omega);have i2:InR .i64 (i+2):=zi (by omega) (by omega);have i3:InR .i64 (i+3):=zi (by omega) (by omega);have i4:InR .i64 (i+4):=zi (by omega) (by omega);have g1:=ih (i+1) (by omega) (by omega) (by omega);have g2:=ih (i+2) (by omega) (by omega) (by omega);have g3:=ih (i+3) (by omega) (by omega) (by omega);have g4:=ih (i+4) (by omega) (by omega) (by omega);refine exl c (zmb hc (zmb i1 (exl r17 (zmb h17 (zmb i2 (exl r21 (zmb h21 (zmb i3 (exl r25 (zmb h25 (pick (fun _=>zmb i1 g1) (fun _=>?_))))))))))));refine exl _ (zmb rfl (pick (fun _=>zmb i2 g2) (fun _=>?_)));refine zmb (fun _=>i1) (exl r35 (zmb (fun _=>h35) (pick (fun _=>zmb i3 g3) (fun _=>?_))));refine exl _ (zmb rfl (pick (fun _=>zmb i3 g3) (fun _=>?_)));refine zmb (fun _=>i1) (exl r44 (zmb (fun _=>h44) (pick (fun _=>zmb i3 g3) (fun _=>?_))));refine zmb (fun _=>i1) (exl r49 (zmb (fun _=>h49) (pick (fun _=>zmb i4 g4) (fun _=>?_))));refine exl _ (zmb rfl (pick (fun _=>zmb i4 g4) (fun _=>?_)));refine zmb (fun _=>i1) (exl r58 (zmb (fun _=>h58) (pick (fun _=>zmb i4 g4) (fun _=>?_))))
   exact ⟨(false,0),rfl⟩
 obtain ⟨q,hq⟩:=key (s.length+4) 0 (by omega) (by omega) (by omega);exact ⟨q.1,q.2,hq⟩
theorem text_ex {s:Str} (hl:s.length≤140737488351232):∃r,zcd s r∧(r=true→s≠[]):=by
 obtain ⟨u,hu⟩:=utf8_ex hl;have tne:∀u:Bool,(decide (0<(s.length:Int))&&u)=true→s≠[]:=fun u h e=>by subst e;simp at h
 have key:∀(m:Nat) (i:Int),0≤i→(s.length:Int)-i≤m→i≤(s.length:Int)→∃q:Bool × Nat,zcd.l1 s q.1 (zcd.j1 s q.1) q.2 i∧(q.1=true→s≠[]):=by
  intro m
  induction m with
  | zero=>
   intro i h0 h1 h2;exact ⟨(decide (0<(s.length:Int))&&u,1),⟨fun h=>absurd (dt h) (by omega),fun _=>⟨u,fun _=>hu,rfl⟩⟩,tne u⟩
  | succ m ih=>
   intro i h0 h1 h2
   by_cases hlt:i<(s.length:Int)
   ·obtain ⟨c,hc⟩:=byte_in h0 hlt
    by_cases h34:c=34
    ·exact ⟨(false,1),⟨fun _=>⟨c,hc,fun _=>rfl,fun h=>by simp [h34] at h⟩,fun h=>absurd hlt (df h)⟩,(fun h=>by cases h)⟩
    ·obtain ⟨q,hq,hq2⟩:=ih (i+1) (by omega) (by omega) (by omega);exact ⟨(q.1,q.2+1),⟨fun _=>⟨c,hc,fun h=>by simp at h;exact absurd h h34,fun _=>⟨zi (by omega) (by omega),hq⟩⟩,fun h=>absurd hlt (df h)⟩,hq2⟩
   ·exact ⟨(decide (0<(s.length:Int))&&u,1),⟨fun h=>absurd (dt h) hlt,fun _=>⟨u,fun _=>hu,rfl⟩⟩,tne u⟩
 obtain ⟨q,hq,hq2⟩:=key s.length 0 (by omega) (by omega) (by omega);exact ⟨q.1,⟨q.2,hq⟩,hq2⟩
inductive Tr (l:List SNode):Int→Int→Prop
 | leaf {i:Int} {e:SNode} (he:at? l i=some e) (hk:e.1=1∨e.1=2∨e.1=3) (hx:e.1=3→e.2.2.2.2.2.2≠[]) (h0:e.2.1=0∧e.2.2.1=0):Tr l i i
 | one {f i:Int} {e:SNode} (he:at? l i=some e) (hk:e.1=6∨e.1=7∨e.1=8∨e.1=9) (ha:e.2.1=i-1) (hb:e.2.2.1=0) (hr:e.1=7→0≤e.2.2.2.1∧e.2.2.2.1≤e.2.2.2.2.1∧e.2.2.2.2.1≤255) (h:Tr l f (i-1)):Tr l f i
 | two {f p i:Int} {e:SNode} (he:at? l i=some e) (hk:e.1=4∨e.1=5) (ha:e.2.1=p-1) (hb:e.2.2.1=i-1) (h1:Tr l p (i-1)) (h2:Tr l f (p-1)):Tr l f i
theorem Tr.le {l:List SNode} {f i:Int} (h:Tr l f i):0≤f∧f≤i:=by
 induction h with
 | leaf he _ _ _=>exact ⟨(zbq he).1,Int.le_refl _⟩
 | one _ _ _ _ _ _ ih=>omega
 | two _ _ _ _ _ _ i1 i2=>omega
theorem Tr.lt {l:List SNode} {f i:Int} (h:Tr l f i):i<(l.length:Int):=by
 cases h with
 | leaf he _ _ _=>exact (zbq he).2
 | one he _ _ _ _ _=>exact (zbq he).2
 | two he _ _ _ _ _=>exact (zbq he).2
theorem Tr.sub {l:List SNode} {f i:Int} (h:Tr l f i):∀k,f≤k→k≤i→∃g,Tr l g k∧f≤g:=by
 induction h with
 | leaf he hk hx h0=>
  rename_i i e
  intro k h1 h2;obtain rfl:k=i:=by omega
  exact ⟨k,.leaf he hk hx h0,Int.le_refl _⟩
 | one he hk ha hb hr h ih=>
  rename_i f i e
  intro k h1 h2
  by_cases hki:k=i
  ·subst hki;exact ⟨f,.one he hk ha hb hr h,Int.le_refl _⟩
  ·exact ih k h1 (by omega)
 | two he hk ha hb h1 h2 i1 i2=>
  rename_i f p i e
  intro k k1 k2;have l1:=h1.le;have l2:=h2.le
  by_cases hki:k=i
  ·subst hki;exact ⟨f,.two he hk ha hb h1 h2,Int.le_refl _⟩
  ·by_cases hkp:p≤k
   ·obtain ⟨g,g1,g2⟩:=i1 k hkp (by omega);exact ⟨g,g1,by omega⟩
   ·exact i2 k k1 (by omega)
def zlu (l:List SNode) (i r:Int):Prop:=r = -1∨Tr l r i
theorem first_ex {l:List SNode} (hl:l.length≤1000) (ht:∀n∈l,n.2.2.2.2.2.2.length≤140737488351232):∀(m:Nat) (i:Int),i<(m:Int)→-1≤i→i<(l.length:Int)→∃r,zx.n (m+1) l i r∧zlu l i r:=by
 intro m
 induction m with
 | zero=>
  intro i h1 h2 h3;exact ⟨-1,⟨fun _=>rfl,fun h=>absurd (by omega) (df h)⟩,.inl rfl⟩
 | succ m ih=>
  intro i h1 h2 h3
  by_cases h0:i<0
  ·exact ⟨-1,⟨fun _=>rfl,fun h=>absurd h0 (df h)⟩,.inl rfl⟩
  ·obtain ⟨e,he,hm⟩:=zol (xs:=l) (i:=i) (by omega) h3;have i1:InR .i64 (i-1):=zi (by omega) (by omega);obtain ⟨p,hp,hpo⟩:=ih (i-1) (by omega) (by omega) (by omega);have one:∀w:SNode,(e=w→w.2.1=i-1∧(w.1=6∨w.1=7∨w.1=8∨w.1=9)∧(w.1=7→0≤w.2.2.2.1∧w.2.2.2.1≤w.2.2.2.2.1∧w.2.2.2.2.1≤255)∧w.2.2.1=0)→∃r,zx.j1 (zx.n (m+1)) l i r e w∧zlu l i r:=by
    intro w hw
    by_cases hew:e=w
    ·refine ⟨p,⟨i1,p,hp,fun h=>by simp [hew] at h,fun _=>rfl⟩, ?_⟩;rcases hpo with rfl | p0
     ·exact .inl rfl
     ·obtain ⟨w1,w2,w3,w4⟩:=hw hew;exact .inr (.one he (by rw [hew];exact w2) (by rw [hew];exact w1) (by rw [hew];exact w4) (by rw [hew];exact w3) p0)
    ·exact ⟨-1,⟨i1,p,hp,fun _=>rfl,fun h=>by simp at h;exact absurd h hew⟩,.inl rfl⟩
   have two:(e.1=4∨e.1=5)→∃r,zx.j2 (zx.n (m+1)) l i r e true∧zlu l i r:=by
    intro hk
    by_cases hp0:p<0
    ·exact ⟨-1,⟨fun _=>⟨i1,i1,p,hp,fun _=>rfl,fun h=>absurd hp0 (df h)⟩,(fun h=>by cases h)⟩,.inl rfl⟩
    ·have htr:Tr l p (i-1):=by
      rcases hpo with rfl | h
      ·omega
      ·exact h
     have p1:=htr.le;obtain ⟨q,hq,hqo⟩:=ih (p-1) (by omega) (by omega) (by omega);have j1:InR .i64 (p-1):=zi (by omega) (by omega)
     by_cases hew:e=(e.1,p-1,i-1,0,0,(0#256),([]:Str))
     ·refine ⟨q,⟨fun _=>⟨i1,i1,p,hp,fun h=>absurd (dt h) hp0,fun _=>⟨j1,j1,q,hq,false, ?_,(fun h=>by cases h),fun _=>rfl⟩⟩,(fun h=>by cases h)⟩, ?_⟩
      ·have:(e != (e.1,p-1,i-1,0,0,(0#256),([]:Str)))=false:=by rw [← hew];simp
       exact this.symm
      ·rcases hqo with rfl | q0
       ·exact .inl rfl
       ·exact .inr (.two he hk (by rw [hew]) (by rw [hew]) htr q0)
     ·refine ⟨-1,⟨fun _=>⟨i1,i1,p,hp,fun h=>absurd (dt h) hp0,fun _=>⟨j1,j1,q,hq,true, ?_,fun _=>rfl,(fun h=>by cases h)⟩⟩,(fun h=>by cases h)⟩,.inl rfl⟩;exact (bne_iff_ne.2 hew).symm
   have three:(e.1=6∨e.1=7∨e.1=8∨e.1=9)→∃r,zx.j3 (zx.n (m+1)) l i r e true∧zlu l i r:=by
    intro hk
    by_cases h7:e.1=7
    ·by_cases hb:((decide (e.2.2.2.1<0))||(decide (e.2.2.2.2.1<e.2.2.2.1))||(decide (255<e.2.2.2.2.1)))=true
     ·exact ⟨-1,⟨fun _=>⟨i1,fun _=>⟨_,rfl,fun _=>rfl,fun h=>by rw [hb] at h;cases h⟩,fun h=>by simp [h7] at h⟩,(fun h=>by cases h)⟩,.inl rfl⟩
     ·obtain ⟨r,hr1,hr2⟩:=one (e.1,i-1,0,e.2.2.2.1,e.2.2.2.2.1,(0#256),([]:Str)) fun _=>⟨rfl,hk,fun _=>by
       simp only [Bool.or_eq_true,decide_eq_true_eq,not_or] at hb;exact ⟨by show (0:Int)≤e.2.2.2.1;omega,by show e.2.2.2.1≤e.2.2.2.2.1;omega,by show e.2.2.2.2.1≤255;omega⟩,rfl⟩
      exact ⟨r,⟨fun _=>⟨i1,fun _=>⟨_,rfl,fun h=>absurd h hb,fun _=>hr1⟩,fun h=>by simp [h7] at h⟩,(fun h=>by cases h)⟩,hr2⟩
    ·obtain ⟨r,hr1,hr2⟩:=one (e.1,i-1,0,0,0,(0#256),([]:Str)) fun _=>⟨rfl,hk,fun h=>absurd h h7,rfl⟩;exact ⟨r,⟨fun _=>⟨i1,fun h=>by simp at h;exact absurd h h7,fun _=>hr1⟩,(fun h=>by cases h)⟩,hr2⟩
   have ne:∀{a b:Int},a≠b→(a==b)=true→False:=fun h k=>h (eq_of_beq k);have last:∀b:Bool,(b=true↔e.1=9)→e.1≠6→e.1≠7→e.1≠8→∃r,zx.j3 (zx.n (m+1)) l i r e b∧zlu l i r:=by
    intro b hb n6 n7 n8;cases b
    ·have n9:e.1≠9:=fun h=>by have:=hb.2 h;cases this
     by_cases h4:e.1=4
     ·obtain ⟨r,hr1,hr2⟩:=two (.inl h4);exact ⟨r,⟨(fun h=>by cases h),fun _=>⟨fun h=>by rw [h];exact hr1,fun h=>by simp [h4] at h⟩⟩,hr2⟩
     ·by_cases h5:e.1=5
      ·obtain ⟨r,hr1,hr2⟩:=two (.inr h5);have e5:(e.1==5)=true:=by simp [h5]
       exact ⟨r,⟨(fun h=>by cases h),fun _=>⟨fun h=>by simp at h;exact absurd h h4,fun _=>by rw [e5];exact hr1⟩⟩,hr2⟩
      ·have e5:(e.1==5)=false:=by simp [h5]
       exact ⟨-1,⟨(fun h=>by cases h),fun _=>⟨fun h=>by simp at h;exact absurd h h4,fun _=>by rw [e5];exact ⟨(fun h=>by cases h),fun _=>rfl⟩⟩⟩,.inl rfl⟩
    ·exact three (.inr (.inr (.inr (hb.1 rfl))))
   suffices h:∃r,(∃e6:SNode,at? l i=some e6∧_)∧zlu l i r by
    obtain ⟨r,hr,ho⟩:=h;exact ⟨r,⟨fun h=>absurd (dt h) h0,fun _=>hr⟩,ho⟩
   by_cases k1:e.1=1
   ·by_cases hw:e=(e.1,0,0,0,0,(0#256),([]:Str))
    ·exact ⟨i,⟨e,he,fun _=>⟨fun h=>by rw [← hw] at h;simp at h,fun _=>rfl⟩,fun h=>by simp [k1] at h⟩,.inr (.leaf he (.inl k1) (fun h=>by omega) ⟨by rw [hw],by rw [hw]⟩)⟩
    ·exact ⟨-1,⟨e,he,fun _=>⟨fun _=>rfl,fun h=>by simp at h;exact absurd h hw⟩,fun h=>by simp [k1] at h⟩,.inl rfl⟩
   ·by_cases k2:e.1=2
    ·by_cases hw:e=(e.1,0,0,0,0,e.2.2.2.2.2.1,([]:Str))
     ·exact ⟨i,⟨e,he,fun h=>(ne k1 h).elim,fun _=>⟨fun _=>⟨false,by rw [← hw];simp,(fun h=>by cases h),fun _=>rfl⟩,fun h=>by simp [k2] at h⟩⟩,.inr (.leaf he (.inr (.inl k2)) (fun h=>by omega) ⟨by rw [hw],by rw [hw]⟩)⟩
     ·exact ⟨-1,⟨e,he,fun h=>(ne k1 h).elim,fun _=>⟨fun _=>⟨true,(bne_iff_ne.2 hw).symm,fun _=>rfl,(fun h=>by cases h)⟩,fun h=>by simp [k2] at h⟩⟩,.inl rfl⟩
    ·by_cases k3:e.1=3
     ·obtain ⟨t,htx,htn⟩:=text_ex (ht e hm);cases t
      ·exact ⟨-1,⟨e,he,fun h=>(ne k1 h).elim,fun _=>⟨fun h=>(ne k2 h).elim,fun _=>⟨fun _=>⟨false,htx,fun _=>rfl,(fun h=>by cases h)⟩,fun h=>by simp [k3] at h⟩⟩⟩,.inl rfl⟩
      ·by_cases hw:e=(e.1,0,0,0,0,(0#256),e.2.2.2.2.2.2)
       ·exact ⟨i,⟨e,he,fun h=>(ne k1 h).elim,fun _=>⟨fun h=>(ne k2 h).elim,fun _=>⟨fun _=>⟨true,htx,(fun h=>by cases h),fun _=>⟨false,by rw [← hw];simp,(fun h=>by cases h),fun _=>rfl⟩⟩,fun h=>by simp [k3] at h⟩⟩⟩,.inr (.leaf he (.inr (.inr k3)) (fun _=>htn rfl) ⟨by rw [hw],by rw [hw]⟩)⟩
       ·exact ⟨-1,⟨e,he,fun h=>(ne k1 h).elim,fun _=>⟨fun h=>(ne k2 h).elim,fun _=>⟨fun _=>⟨true,htx,(fun h=>by cases h),fun _=>⟨true,(bne_iff_ne.2 hw).symm,fun _=>rfl,(fun h=>by cases h)⟩⟩,fun h=>by simp [k3] at h⟩⟩⟩,.inl rfl⟩
     ·by_cases k6:e.1=6
      ·obtain ⟨r,hr1,hr2⟩:=three (.inl k6);exact ⟨r,⟨e,he,fun h=>(ne k1 h).elim,fun _=>⟨fun h=>(ne k2 h).elim,fun _=>⟨fun h=>(ne k3 h).elim,fun _=>⟨fun h=>by rw [h];exact hr1,fun h=>by simp [k6] at h⟩⟩⟩⟩,hr2⟩
      ·by_cases k7:e.1=7
       ·obtain ⟨r,hr1,hr2⟩:=three (.inr (.inl k7));exact ⟨r,⟨e,he,fun h=>(ne k1 h).elim,fun _=>⟨fun h=>(ne k2 h).elim,fun _=>⟨fun h=>(ne k3 h).elim,fun _=>⟨fun h=>(ne k6 h).elim,fun _=>⟨fun h=>by rw [h];exact hr1,fun h=>by simp [k7] at h⟩⟩⟩⟩⟩,hr2⟩
       ·by_cases k8:e.1=8
        ·obtain ⟨r,hr1,hr2⟩:=three (.inr (.inr (.inl k8)));exact ⟨r,⟨e,he,fun h=>(ne k1 h).elim,fun _=>⟨fun h=>(ne k2 h).elim,fun _=>⟨fun h=>(ne k3 h).elim,fun _=>⟨fun h=>(ne k6 h).elim,fun _=>⟨fun h=>(ne k7 h).elim,fun _=>⟨fun h=>by rw [h];exact hr1,fun h=>by simp [k8] at h⟩⟩⟩⟩⟩⟩,hr2⟩
        ·obtain ⟨r,hr1,hr2⟩:=last (e.1==9) beq_iff_eq k6 k7 k8;exact ⟨r,⟨e,he,fun h=>(ne k1 h).elim,fun _=>⟨fun h=>(ne k2 h).elim,fun _=>⟨fun h=>(ne k3 h).elim,fun _=>⟨fun h=>(ne k6 h).elim,fun _=>⟨fun h=>(ne k7 h).elim,fun _=>⟨fun h=>(ne k8 h).elim,fun _=>hr1⟩⟩⟩⟩⟩⟩,hr2⟩
theorem form_ex {d:List SNode} (hl:d.length≤1000) (ht:∀n∈d,n.2.2.2.2.2.2.length≤140737488351232):∃r,zi5 d r∧(r=true→Tr d 0 ((d.length:Int)-1)):=by
 obtain ⟨r,hr,ho⟩:=first_ex hl ht d.length ((d.length:Int)-1) (by omega) (by omega) (by omega);refine ⟨_,⟨fun _=>zi (by omega) (by omega),r,fun _=>⟨_,hr⟩,rfl⟩,fun h=>?_⟩;simp only [Bool.and_eq_true,decide_eq_true_eq,beq_iff_eq] at h;rcases ho with rfl | h2
 ·omega
 ·rw [h.2] at h2;exact h2
def powW (a:Nat) (t:Nat):Nat:=if t=0 then 1 else if a=0 then 0 else if a=1 then 1 else 2
theorem powW_le (a t:Nat):powW a t≤2:=by
 unfold powW;split
 ·omega
 ·split
  ·omega
  ·split <;> omega
theorem powW_step {a:Nat} (ha:a≤2) (t:Nat):min 2 (powW a t*a)=powW a (t+1):=by
 have:a=0∨a=1∨a=2:=by omega
 unfold powW
 by_cases ht:t=0
 ·subst ht;rcases this with rfl | rfl | rfl <;> simp
 ·rcases this with rfl | rfl | rfl <;> simp [ht]
def sumW (a lo:Nat):Nat→Nat
 | 0=>0
 | m+1=>min 2 (sumW a lo m+powW a (lo+m))
theorem sumW_le (a lo m:Nat):sumW a lo m≤2:=by
 cases m with
 | zero=>simp [sumW]
 | succ m=>simp only [sumW];omega
theorem sumW_zero (a lo:Nat):∀m,sumW a lo m≠0↔∃t,t<m∧powW a (lo+t)≠0
 | 0=>by simp [sumW]
 | m+1=>by
  have ih:=sumW_zero a lo m;simp only [sumW];constructor
  ·intro h
   by_cases h1:sumW a lo m≠0
   ·obtain ⟨t,h2,h3⟩:=ih.1 h1;exact ⟨t,by omega,h3⟩
   ·exact ⟨m,by omega,by omega⟩
  ·rintro ⟨t,h1,h2⟩
   by_cases htm:t=m
   ·subst htm;omega
   ·have:=ih.2 ⟨t,by omega,h2⟩;omega
theorem znn {a t:Nat}:powW a t≠0↔t=0∨a≠0:=by
 unfold powW
 by_cases h1:t=0
 ·simp [h1]
 ·by_cases h2:a=0
  ·simp [h1,h2]
  ·rw [if_neg h1,if_neg h2];split <;> simp [h1,h2]
structure NOk (d:List SNode):Prop where
 two:∀(i:Int) n,at? d i=some n→(n.1=4∨n.1=5)→(0≤n.2.1∧n.2.1<i)∧(0≤n.2.2.1∧n.2.2.1<i)
 one:∀(i:Int) n,at? d i=some n→(n.1=6∨n.1=7∨n.1=8∨n.1=9)→0≤n.2.1∧n.2.1<i
 rep:∀(i:Int) n,at? d i=some n→n.1=7→0≤n.2.2.2.1∧n.2.2.2.1≤n.2.2.2.2.1∧n.2.2.2.2.1≤255
 kind:∀(i:Int) n,at? d i=some n→1≤n.1∧n.1≤9
 ntx:∀(i:Int) n,at? d i=some n→n.1=3→n.2.2.2.2.2.2≠[]
theorem Tr.node {l:List SNode} {f i:Int} (h:Tr l f i) {n:SNode} (hn:at? l i=some n):
  ((n.1=4∨n.1=5)→(0≤n.2.1∧n.2.1<i)∧(0≤n.2.2.1∧n.2.2.1<i))∧((n.1=6∨n.1=7∨n.1=8∨n.1=9)→0≤n.2.1∧n.2.1<i)∧(n.1=7→0≤n.2.2.2.1∧n.2.2.2.1≤n.2.2.2.2.1∧n.2.2.2.2.1≤255)∧(1≤n.1∧n.1≤9)∧(n.1=3→n.2.2.2.2.2.2≠[]):=by
 cases h with
 | leaf he hk hx h0=>
  rw [hn] at he;cases he;exact ⟨fun h=>by omega,fun h=>by omega,fun h=>by omega,by omega,hx⟩
 | one he hk ha hb hr h=>
  rw [hn] at he;cases he;have:=h.le;exact ⟨fun h=>by omega,fun h=>by omega,hr,by omega,fun h=>by omega⟩
 | two he hk ha hb h1 h2=>
  rw [hn] at he;cases he;have:=h1.le;have:=h2.le;exact ⟨fun h=>by omega,fun h=>by omega,fun h=>by omega,by omega,fun h=>by omega⟩
theorem Tr.at {d:List SNode} (h:Tr d 0 ((d.length:Int)-1)) {i:Int} {n:SNode} (hn:at? d i=some n):∃g,Tr d g i:=by
 have hb:=zbq hn;obtain ⟨g,hg,_⟩:=h.sub i hb.1 (by omega);exact ⟨g,hg⟩
theorem Tr.nok {d:List SNode} (h:Tr d 0 ((d.length:Int)-1)):NOk d:=
 ⟨fun i n hn=>let ⟨g,hg⟩:=h.at hn;(hg.node hn).1,fun i n hn=>let ⟨g,hg⟩:=h.at hn;(hg.node hn).2.1,fun i n hn=>let ⟨g,hg⟩:=h.at hn;(hg.node hn).2.2.1,fun i n hn=>let ⟨g,hg⟩:=h.at hn;(hg.node hn).2.2.2.1,fun i n hn=>let ⟨g,hg⟩:=h.at hn;(hg.node hn).2.2.2.2⟩
def WV (d:List SNode):Nat→Int→Nat
 | 0,_=>0
 | k+1,i=>match at? d i with
  | none=>0
  | some n=>
   if n.1=1 then 1
   else if n.1=4 then min 2 (WV d k n.2.1*WV d k n.2.2.1)
   else if n.1=5 then min 2 (WV d k n.2.1+WV d k n.2.2.1)
   else if n.1=6 then (if 0<WV d k n.2.1 then 2 else 1)
   else if n.1=7 then sumW (WV d k n.2.1) n.2.2.2.1.toNat (n.2.2.2.2.1+1-n.2.2.2.1).toNat
   else 0
theorem WV_le (d:List SNode) (k:Nat) (i:Int):WV d k i≤2:=by
 cases k with
 | zero=>simp [WV]
 | succ k=>
  unfold WV;cases at? d i with
  | none=>simp
  | some n=>
   simp only;split
   ·omega
   ·split
    ·omega
    ·split
     ·omega
     ·split
      ·split <;> omega
      ·split
       ·exact sumW_le _ _ _
       ·omega
theorem zlt {d:List SNode} (hd:NOk d):∀(k k':Nat) (i:Int),i<(k:Int)→i<(k':Int)→WV d k i=WV d k' i
 | 0,k',i,h,h'=>by
  have:at? d i=none:=by
   unfold at?;rw [if_neg (by omega)]
  cases k' <;> simp [WV,this]
 | k+1,0,i,h,h'=>by
  have:at? d i=none:=by
   unfold at?;rw [if_neg (by omega)]
  simp [WV,this]
 | k+1,k'+1,i,h,h'=>by
  cases hn:at? d i with
  | none=>simp only [WV,hn]
  | some n=>
   simp only [WV,hn]
   by_cases h4:n.1=4
   ·obtain ⟨⟨a,b⟩,c,e⟩:=hd.two _ n hn (.inl h4);rw [zlt hd k k' n.2.1 (by omega) (by omega),zlt hd k k' n.2.2.1 (by omega) (by omega)]
   ·by_cases h5:n.1=5
    ·obtain ⟨⟨a,b⟩,c,e⟩:=hd.two _ n hn (.inr h5);rw [zlt hd k k' n.2.1 (by omega) (by omega),zlt hd k k' n.2.2.1 (by omega) (by omega)]
    ·by_cases h6:n.1=6∨n.1=7
     ·obtain ⟨a,b⟩:=hd.one _ n hn (by omega);rw [zlt hd k k' n.2.1 (by omega) (by omega)];simp [h4,h5]
     ·simp only [not_or] at h6;simp [h4,h5,h6.1,h6.2]
def wv (d:List SNode) (i:Int):Nat:=WV d d.length i
theorem wv_at {d:List SNode} (hd:NOk d) {i:Int} {n:SNode} (hn:at? d i=some n):wv d i =
  (if n.1=1 then 1
   else if n.1=4 then min 2 (wv d n.2.1*wv d n.2.2.1)
   else if n.1=5 then min 2 (wv d n.2.1+wv d n.2.2.1)
   else if n.1=6 then (if 0<wv d n.2.1 then 2 else 1)
   else if n.1=7 then sumW (wv d n.2.1) n.2.2.2.1.toNat (n.2.2.2.2.1+1-n.2.2.2.1).toNat
   else 0):=by
 obtain ⟨hb0,hb1⟩:=zbq hn;unfold wv;rw [zlt hd d.length (d.length+1) i hb1 (by omega)];simp only [WV,hn]
theorem nz_atN {d:List SNode} (hd:NOk d) {i:Int} {n:SNode} (h:at? d i=some n):nz d i =
  (if n.1=1 then true else if n.1=4 then nz d n.2.1&&nz d n.2.2.1 else if n.1=5 then nz d n.2.1||nz d n.2.2.1 else if n.1=6 then true else if n.1=7 then decide (n.2.2.2.1=0)||nz d n.2.1 else false):=by
 obtain ⟨k,rfl,hk⟩:=zok h;have e:=nzL_at hk;have e2:nz d (k:Int)=nzN ((nzL d).take k) n:=by unfold nz;rw [zbv,e];rfl
 rw [e2];unfold nzN
 by_cases h1:n.1=1
 ·simp [h1]
 ·by_cases h4:n.1=4
  ·obtain ⟨⟨a,b⟩,c,e⟩:=hd.two _ n h (.inl h4);rw [if_neg h1,if_pos h4,if_neg h1,if_pos h4,zg8 a b,zg8 c e];rfl
  ·by_cases h5:n.1=5
   ·obtain ⟨⟨a,b⟩,c,e⟩:=hd.two _ n h (.inr h5);rw [if_neg h1,if_neg h4,if_pos h5,if_neg h1,if_neg h4,if_pos h5,zg8 a b,zg8 c e];rfl
   ·by_cases h6:n.1=6
    ·simp [h6]
    ·by_cases h7:n.1=7
     ·obtain ⟨a,b⟩:=hd.one _ n h (.inr (.inl h7));rw [if_neg h1,if_neg h4,if_neg h5,if_neg h6,if_pos h7,if_neg h1,if_neg h4,if_neg h5,if_neg h6,if_pos h7,zg8 a b];rfl
     ·simp [h1,h4,h5,h6,h7]
theorem wv_nz {d:List SNode} (hd:NOk d):∀(k:Nat) (i:Int) (n:SNode),i<(k:Int)→at? d i=some n→(wv d i≠0↔nz d i=true)
 | 0,i,n,hi,hn=>by have:=zbq hn;omega
 | k+1,i,n,hi,hn=>by
  have ih:=wv_nz hd k;rw [wv_at hd hn,nz_atN hd hn]
  by_cases h1:n.1=1
  ·simp [h1]
  ·by_cases h4:n.1=4
   ·obtain ⟨⟨a,b⟩,c,e⟩:=hd.two _ n hn (.inl h4);obtain ⟨m1,hm1⟩:=zdt hn a b;obtain ⟨m2,hm2⟩:=zdt hn c e;rw [if_neg h1,if_pos h4,if_neg h1,if_pos h4,Bool.and_eq_true,← ih _ m1 (by omega) hm1,← ih _ m2 (by omega) hm2,← Nat.mul_ne_zero_iff];omega
   ·by_cases h5:n.1=5
    ·obtain ⟨⟨a,b⟩,c,e⟩:=hd.two _ n hn (.inr h5);obtain ⟨m1,hm1⟩:=zdt hn a b;obtain ⟨m2,hm2⟩:=zdt hn c e;rw [if_neg h1,if_neg h4,if_pos h5,if_neg h1,if_neg h4,if_pos h5,Bool.or_eq_true,← ih _ m1 (by omega) hm1,← ih _ m2 (by omega) hm2];omega
    ·by_cases h6:n.1=6
     ·simp [h6];split <;> omega
     ·by_cases h7:n.1=7
      ·obtain ⟨a,b⟩:=hd.one _ n hn (.inr (.inl h7));obtain ⟨r0,r1,r2⟩:=hd.rep _ n hn h7;obtain ⟨m1,hm1⟩:=zdt hn a b;rw [if_neg h1,if_neg h4,if_neg h5,if_neg h6,if_pos h7,if_neg h1,if_neg h4,if_neg h5,if_neg h6,if_pos h7,sumW_zero,Bool.or_eq_true,← ih _ m1 (by omega) hm1,decide_eq_true_eq];constructor
       ·rintro ⟨t,h1,h2⟩;rcases znn.1 h2 with h3 | h3
        ·exact .inl (by omega)
        ·exact .inr h3
       ·rintro (h3 | h3)
        ·exact ⟨0,by omega,znn.2 (.inl (by omega))⟩
        ·exact ⟨0,by omega,znn.2 (.inr h3)⟩
      ·simp [h1,h4,h5,h6,h7]
theorem ROk.nok {d:List SNode} (h:ROk d):NOk d:=⟨h.two,h.one,h.rep,h.kind,h.ntx⟩
theorem ways_l3 {l:List Int} {a:Nat} (ha:a≤2) {e:SNode} (h1:at? l e.2.1=some (a:Int)) {t:Nat} (ht:t≤255) {Z:Int→Prop} (hZ:Z (powW a t:Int)):
  ∀(m v:Nat),v+m=t→∃k,zo.l3 l e t Z k (powW a v:Int) v
 | 0,v,hv=>by
  obtain rfl:v=t:=by omega
  exact ⟨1,fun h=>absurd (dt h) (by omega),fun _=>hZ⟩
 | m+1,v,hv=>by
  obtain ⟨k,hk⟩:=ways_l3 ha h1 ht hZ m (v+1) (by omega);have e1:(min 2 ((powW a v:Int)*(a:Int)))=(powW a (v+1):Int):=by
   have:=Int.natCast_mul (powW a v) a;rw [← powW_step ha v];omega
  have hle:=powW_le a v;have hle2:powW a v*a≤4:=by
   have:=Nat.mul_le_mul hle ha;omega
  exact ⟨k+1,fun _=>⟨a,h1,zi (by omega) (by rw [← Int.natCast_mul];omega),zi (by omega) (by omega),by rw [e1];exact hk⟩,fun h=>absurd (by omega) (df h)⟩
theorem ways_l2 {l:List Int} {a:Nat} (ha:a≤2) {e:SNode} (h1:at? l e.2.1=some (a:Int)) {lo hi:Nat} (hlo:e.2.2.2.1=lo) (hhi:e.2.2.2.2.1=hi) (hh:hi≤255) {Z:Int→Prop} (hZ:Z (sumW a lo (hi+1-lo):Int)):
  ∀(m j:Nat),j+m=hi+1-lo→∃k,zo.l2 l e Z k (sumW a lo j:Int) ((lo+j:Nat):Int)
 | 0,j,hj=>by
  obtain rfl:j=hi+1-lo:=by omega
  exact ⟨1,fun h=>absurd (dt h) (by omega),fun _=>hZ⟩
 | m+1,j,hj=>by
  obtain ⟨k,hk⟩:=ways_l2 ha h1 hlo hhi hh hZ m (j+1) (by omega);have hs:=sumW_le a lo j;have hp:=powW_le a (lo+j);have e1:(min 2 ((sumW a lo j:Int)+(powW a (lo+j):Int)))=(sumW a lo (j+1):Int):=by simp only [sumW];omega
  obtain ⟨k3,hk3⟩:=ways_l3 ha h1 (t:=lo+j) (by omega) (Z:=zo.j3 (zo.l2 l e Z k) (sumW a lo j:Int) ((lo+j:Nat):Int)) ⟨zi (by omega) (by omega),zi (by omega) (by omega),by
   rw [e1];have:(((lo+j:Nat):Int)+1)=((lo+(j+1):Nat):Int):=by omega
   rw [this];exact hk⟩ (lo+j) 0 (by omega)
  have e0:(powW a 0:Int)=1:=rfl;rw [e0] at hk3;exact ⟨k+1,fun _=>⟨k3,hk3⟩,fun h=>absurd (by omega) (df h)⟩
theorem zqk {d:List SNode} (hl:d.length≤1000) (hd:NOk d) {i:Nat} (h1:i<d.length):zo d (i:Int) (wv d (i:Int):Int):=by
 have hat:∀(k:Nat) (a:Int),0≤a→a<(k:Int)→at? ((List.range k).map fun (j:Nat)=>(wv d (j:Int):Int)) a=some (wv d a:Int):=fun k a h0 h1=>by
  obtain ⟨j,rfl⟩:∃j:Nat,a=(j:Int):=⟨a.toNat,by omega⟩;rw [zbv,List.getElem?_map,List.getElem?_range (by omega)];rfl
 have key:∀(m:Nat) (k:Nat),k+m=i+1→∃f,zo.l1 d (i:Int) (zo.j1 (i:Int) (wv d (i:Int):Int)) f ((List.range k).map fun (j:Nat)=>(wv d (j:Int):Int)) (k:Int):=by
  intro m
  induction m with
  | zero=>
   intro k hk;exact ⟨1,fun h=>absurd (dt h) (by omega),fun _=>⟨_,hat k _ (by omega) (by omega),rfl⟩⟩
  | succ m ih=>
   intro k hk;obtain ⟨f,hf⟩:=ih (k+1) (by omega);obtain ⟨e,he,_⟩:=zol (xs:=d) (i:=(k:Int)) (by omega) (by omega);have hw:=wv_at hd he;have next:∀w:Nat,min 2 w=wv d (k:Int)→zo.j2 (zo.l1 d (i:Int) (zo.j1 (i:Int) (wv d (i:Int):Int)) f) ((List.range k).map fun (j:Nat)=>(wv d (j:Int):Int)) (k:Int) (w:Int):=fun w hw=>by
    refine ⟨by simp;omega,zi (by omega) (by omega), ?_⟩;have e1:(min 2 (w:Int))=(wv d (k:Int):Int):=by rw [← hw];omega
    rw [e1];have e2:((List.range k).map fun (j:Nat)=>(wv d (j:Int):Int))++[(wv d (k:Int):Int)]=(List.range (k+1)).map fun (j:Nat)=>(wv d (j:Int):Int):=by
     rw [List.range_succ,List.map_append];rfl
    rw [e2];exact hf
   have ne:∀{a b:Int},a≠b→(a==b)=true→False:=fun h k=>h (eq_of_beq k);refine ⟨f+1,fun _=>⟨e,he,fun h=>?_,fun k1=>⟨fun h=>?_,fun k4=>⟨fun h=>?_,fun k5=>⟨fun h=>?_,fun k6=>⟨fun h=>?_,fun k7=>?_⟩⟩⟩⟩⟩,fun h=>absurd (by omega) (df h)⟩
   ·have h1:e.1=1:=eq_of_beq h;exact next 1 (by rw [hw,if_pos h1];rfl)
   ·have h1:e.1≠1:=by simpa using k1
    have h4:e.1=4:=eq_of_beq h;rw [if_neg h1,if_pos h4] at hw;obtain ⟨⟨a0,a1⟩,b0,b1⟩:=hd.two _ e he (.inl h4);have l1:=WV_le d d.length e.2.1;have l2:=WV_le d d.length e.2.2.1;have hm:wv d e.2.1*wv d e.2.2.1≤4:=by have:=Nat.mul_le_mul l1 l2;exact this
    refine ⟨_,hat k _ a0 a1,_,hat k _ b0 b1,zi (by rw [← Int.natCast_mul];omega) (by rw [← Int.natCast_mul];omega), ?_⟩;rw [← Int.natCast_mul];exact next _ hw.symm
   ·have h1:e.1≠1:=by simpa using k1
    have h4:e.1≠4:=by simpa using k4
    have h5:e.1=5:=eq_of_beq h;rw [if_neg h1,if_neg h4,if_pos h5] at hw;obtain ⟨⟨a0,a1⟩,b0,b1⟩:=hd.two _ e he (.inr h5);have l1:=WV_le d d.length e.2.1;have l2:=WV_le d d.length e.2.2.1;unfold wv at *;refine ⟨_,hat k _ a0 a1,_,hat k _ b0 b1,zi (by omega) (by omega), ?_⟩;exact next (WV d d.length e.2.1+WV d d.length e.2.2.1) hw.symm
   ·have h1:e.1≠1:=by simpa using k1
    have h4:e.1≠4:=by simpa using k4
    have h5:e.1≠5:=by simpa using k5
    have h6:e.1=6:=eq_of_beq h;rw [if_neg h1,if_neg h4,if_neg h5,if_pos h6] at hw;obtain ⟨a0,a1⟩:=hd.one _ e he (.inl h6);refine ⟨_,hat k _ a0 a1,fun h=>?_,fun h=>?_⟩
    ·exact next 2 (by rw [hw,if_pos (by have:=dt h;omega)];rfl)
    ·exact next 1 (by rw [hw,if_neg (by have:=df h;omega)];rfl)
   ·have h1:e.1≠1:=by simpa using k1
    have h4:e.1≠4:=by simpa using k4
    have h5:e.1≠5:=by simpa using k5
    have h6:e.1≠6:=by simpa using k6
    have h7:e.1=7:=eq_of_beq h;rw [if_neg h1,if_neg h4,if_neg h5,if_neg h6,if_pos h7] at hw;obtain ⟨a0,a1⟩:=hd.one _ e he (.inr (.inl h7));obtain ⟨r0,r1,r2⟩:=hd.rep _ e he h7;have hs:=sumW_le (wv d e.2.1) e.2.2.2.1.toNat (e.2.2.2.2.1+1-e.2.2.2.1).toNat;have e1:(e.2.2.2.2.1+1-e.2.2.2.1).toNat=e.2.2.2.2.1.toNat+1-e.2.2.2.1.toNat:=by omega
    have:=ways_l2 (l:=(List.range k).map fun (j:Nat)=>(wv d (j:Int):Int)) (WV_le d d.length e.2.1) (e:=e) (hat k _ a0 a1) (lo:=e.2.2.2.1.toNat) (hi:=e.2.2.2.2.1.toNat) (by omega) (by omega) (by omega)
     (Z:=zo.j2 (zo.l1 d (i:Int) (zo.j1 (i:Int) (wv d (i:Int):Int)) f) ((List.range k).map fun (j:Nat)=>(wv d (j:Int):Int)) (k:Int))
     (next _ (by rw [hw,e1];rw [e1] at hs;exact Nat.min_eq_right hs)) (e.2.2.2.2.1.toNat+1-e.2.2.2.1.toNat) 0 (by omega)
    have e2:((e.2.2.2.1.toNat+0:Nat):Int)=e.2.2.2.1:=by omega
    rw [e2] at this;exact this
   ·have h1:e.1≠1:=by simpa using k1
    have h4:e.1≠4:=by simpa using k4
    have h5:e.1≠5:=by simpa using k5
    have h6:e.1≠6:=by simpa using k6
    have h7:e.1≠7:=by simpa using k7
    rw [if_neg h1,if_neg h4,if_neg h5,if_neg h6,if_neg h7] at hw;exact next 0 (by rw [hw];rfl)
 obtain ⟨f,hf⟩:=key (i+1) 0 (by omega);exact ⟨f,by simpa using hf⟩
theorem first8_ok {d:List SNode} (hl:d.length≤1000) (hd:NOk d):∃r,zb5 d r∧(r.2=false→∀(i:Int) n,at? d i=some n→(n.1=6∨n.1=7)→nz d n.2.1=false):=by
 have key:∀(m i:Nat),i+m=d.length→(∀(k:Int) n,k<(i:Int)→at? d k=some n→(n.1=6∨n.1=7)→nz d n.2.1=false)→∃q:(Int × Bool) × Nat,zb5.l1 d q.1 (zb5.j1 q.1) q.2 (i:Int)∧(q.1.2=false→∀(i:Int) n,at? d i=some n→(n.1=6∨n.1=7)→nz d n.2.1=false):=by
  intro m
  induction m with
  | zero=>
   intro i hi hk;exact ⟨((0,false),1),⟨fun h=>absurd (dt h) (by omega),fun _=>rfl⟩,fun _ k n hn=>hk k n (by have:=zbq hn;omega) hn⟩
  | succ m ih=>
   intro i hi hk;obtain ⟨e,he,_⟩:=zol (xs:=d) (i:=(i:Int)) (by omega) (by omega);have hw:∃w,((((e.1==6)||(e.1==7)))=true→zo d e.2.1 w∧(w=0→nz d e.2.1=false)):=by
    by_cases hkk:e.1=6∨e.1=7
    ·obtain ⟨a0,a1⟩:=hd.one _ e he (by omega);obtain ⟨mm,hm⟩:=zdt he a0 a1;obtain ⟨j,hj⟩:∃j:Nat,e.2.1=(j:Int):=⟨e.2.1.toNat,by omega⟩;refine ⟨(wv d e.2.1:Int),fun _=>⟨?_,fun h0=>?_⟩⟩
     ·rw [hj];exact zqk hl hd (by omega)
     ·have:=wv_nz hd (d.length) e.2.1 mm (by omega) hm;cases hz:nz d e.2.1
      ·rfl
      ·have:=this.2 hz;omega
    ·exact ⟨0,fun h=>absurd (by simpa using h) hkk⟩
   obtain ⟨w,hw⟩:=hw;cases hb:(((e.1==6)||(e.1==7))&&(w != 0))
   ·obtain ⟨q,hq,hq2⟩:=ih (i+1) (by omega) (fun k n hki hn hkk=>by
     by_cases hk2:k=(i:Int)
     ·subst hk2;rw [he] at hn;cases hn;have h6:((e.1==6)||(e.1==7))=true:=by simpa using hkk
      rw [h6] at hb;simp at hb;exact (hw h6).2 hb
     ·exact hk k n (by omega) hn hkk)
    exact ⟨(q.1,q.2+1),⟨fun _=>⟨e,he,e,fun _=>he,w,fun h=>(hw h).1,(fun h=>by rw [hb] at h;cases h),fun _=>⟨zi (by omega) (by omega),by simpa using hq⟩⟩,fun h=>absurd (by omega) (df h)⟩,hq2⟩
   ·exact ⟨(((i:Int),true),1),⟨fun _=>⟨e,he,e,fun _=>he,w,fun h=>(hw h).1,fun _=>rfl,fun h=>by rw [hb] at h;cases h⟩,fun h=>absurd (by omega) (df h)⟩,(fun h=>by cases h)⟩
 obtain ⟨q,hq,hq2⟩:=key d.length 0 (by omega) (fun k n hk hn=>by have:=zbq hn;omega);exact ⟨q.1,⟨q.2,hq⟩,hq2⟩
structure Rt (d:List SNode):Prop extends ROk d where
 tr:Tr d 0 ((d.length:Int)-1)
theorem Rt.ne {d:List SNode} (h:Rt d):d≠[]:=fun e=>by
 have:=h.tr.le;subst e;simp at this
theorem right_ok {d:List SNode} (hl:d.length≤1000) (ht:∀n∈d,n.2.2.2.2.2.2.length≤140737488351232):∃r,zgi d r∧(r=true→Rt d):=by
 obtain ⟨f,hf,ho⟩:=form_ex hl ht;cases f
 ·exact ⟨false,⟨false,hf,fun _=>rfl,(fun h=>by cases h)⟩,(fun h=>by cases h)⟩
 ·have hd:=(ho rfl).nok;obtain ⟨w,hw,hw2⟩:=first8_ok hl hd;refine ⟨!w.2,⟨true,hf,(fun h=>by cases h),fun _=>⟨w,hw,rfl⟩⟩,fun h=>?_⟩;have:=hw2 (by simpa using h);exact ⟨⟨hd.two,hd.one,hd.rep,hd.kind,hd.ntx,this⟩,ho rfl⟩
def CV (d:List SNode):Nat→Int→List (List SItem)
 | 0,_=>[]
 | k+1,i=>match at? d i with
  | none=>[]
  | some n=>
   if n.1=1 then []
   else if n.1=3 then [[(3,i,0,0)]]
   else if n.1=4 then (CV d k n.2.1).map (·++[(1,n.2.2.1,0,0)])++CV d k n.2.2.1
   else if n.1=5 then CV d k n.2.1++CV d k n.2.2.1
   else if n.1=6 then (CV d k n.2.1).map (·++[(1,i,0,0)])
   else if n.1=7 then (CV d k n.2.1).map (·++[(2,i,max (n.2.2.2.1-1) 0,n.2.2.2.2.1-1)])
   else [[(1,i,0,0)]]
theorem PM_CV (d:List SNode):∀(k:Nat) (i:Int),∀p∈(PM d k i).1,p∈CV d k i
 | 0,i,p,hp=>by simp [PM] at hp
 | k+1,i,p,hp=>by
  unfold PM at hp;unfold CV;cases hn:at? d i with
  | none=>rw [hn] at hp;simp at hp
  | some n=>
   rw [hn] at hp;have a:=PM_CV d k n.2.1;have b:=PM_CV d k n.2.2.1;simp only at hp ⊢
   by_cases h1:n.1=1
   ·simp [h1] at hp
   ·rw [if_neg h1] at hp ⊢
    by_cases h3:n.1=3
    ·rw [if_pos h3] at hp ⊢;exact hp
    ·rw [if_neg h3] at hp ⊢
     by_cases h4:n.1=4
     ·rw [if_pos h4] at hp ⊢;rcases List.mem_append.1 hp with hp | hp
      ·obtain ⟨q,hq,rfl⟩:=List.mem_map.1 hp;exact List.mem_append.2 (.inl (List.mem_map.2 ⟨q,a q hq,rfl⟩))
      ·obtain ⟨l,hl,hp⟩:=List.mem_flatten.1 hp;rw [List.mem_replicate.1 hl |>.2] at hp;exact List.mem_append.2 (.inr (b p hp))
     ·rw [if_neg h4] at hp ⊢
      by_cases h5:n.1=5
      ·rw [if_pos h5] at hp ⊢;rcases List.mem_append.1 hp with hp | hp
       ·exact List.mem_append.2 (.inl (a p hp))
       ·exact List.mem_append.2 (.inr (b p hp))
      ·rw [if_neg h5] at hp ⊢
       by_cases h6:n.1=6
       ·rw [if_pos h6] at hp ⊢;obtain ⟨q,hq,rfl⟩:=List.mem_map.1 hp;exact List.mem_map.2 ⟨q,a q hq,rfl⟩
       ·rw [if_neg h6] at hp ⊢
        by_cases h7:n.1=7
        ·rw [if_pos h7] at hp ⊢;simp only at hp;split at hp
         ·obtain ⟨q,hq,rfl⟩:=List.mem_map.1 hp;exact List.mem_map.2 ⟨q,a q hq,rfl⟩
         ·cases hp
        ·rw [if_neg h7] at hp ⊢;exact hp
def CI (d:List SNode) (x:SItem):List (List SItem):=
 if x.1=1 then CV d d.length x.2.1
 else if x.1=2 then (match at? d x.2.1 with | some n=>(CV d d.length n.2.1).map (·++[(2,x.2.1,max (x.2.2.1-1) 0,x.2.2.2-1)]) | none=>[])
 else [[x]]
def CS (d:List SNode):List SItem→List (List SItem)
 | []=>[[]]
 | x::rest=>(CI d x).map (·++rest)++CS d rest
theorem pmI_CI (d:List SNode) (x:SItem):∀p∈pmI d x,p∈CI d x:=by
 intro p hp;unfold pmI at hp;unfold CI
 by_cases h1:x.1=1
 ·rw [if_pos h1] at hp ⊢;exact PM_CV d _ _ p hp
 ·rw [if_neg h1] at hp ⊢
  by_cases h2:x.1=2
  ·rw [if_pos h2] at hp ⊢;cases hn:at? d x.2.1 with
   | none=>rw [hn] at hp;cases hp
   | some n=>
    rw [hn] at hp;simp only at hp ⊢;split at hp
    ·obtain ⟨q,hq,rfl⟩:=List.mem_map.1 hp;exact List.mem_map.2 ⟨q,PM_CV d _ _ q hq,rfl⟩
    ·cases hp
  ·rw [if_neg h2] at hp ⊢;split at hp
   ·cases hp
   ·exact hp
theorem hds_CS (d:List SNode):∀(s:List SItem),∀t∈hds d s,t∈CS d s
 | [],t,ht=>ht
 | x::rest,t,ht=>by
  rcases List.mem_append.1 ht with ht | ht
  ·obtain ⟨q,hq,rfl⟩:=List.mem_map.1 ht;exact List.mem_append.2 (.inl (List.mem_map.2 ⟨q,pmI_CI d x q hq,rfl⟩))
  ·obtain ⟨l,hl,hp⟩:=List.mem_flatten.1 ht;rw [List.mem_replicate.1 hl |>.2] at hp;exact List.mem_append.2 (.inr (hds_CS d rest t hp))
structure BrOk (l:List SBranch):Prop where
 many:∀b∈l,0≤b.2∧b.2≤2
 len:∀b∈l,b.1.length≤1000
theorem zji {s:List SItem} {many:Int}:∀(l:List SBranch) (i:Nat),(∀b∈l.take i,¬ zek s b.1=0∧¬ zek s b.1<0)→zmc s many l=l.take i++zmc s many (l.drop i)
 | l,0,_=>rfl
 | [],i+1,_=>by simp
 | b::l,i+1,h=>by
  have hb:=h b (by simp)
  conv=>lhs;unfold zmc
  rw [if_neg hb.1,if_neg hb.2,zji l i fun c hc=>h c (by simp [hc])];rfl
theorem zl3 {l:List SBranch} (hs:l.Pairwise (fun a b=>zek a.1 b.1<0)) (hb:BrOk l) (hl:l.length≤2000000000) {s:List SItem} (hsl:s.length≤1000) {many:Int} (hm:0≤many∧many≤2):zdd l s many (zmc s many l):=by
 refine uptoK (P:=fun k (q:List SBranch × Bool) v=>zdd.l1 l s many _ k q.1 q.2 v) l.length
  (fun i q=>(q.2=false→q.1=l.take i∧∀b∈l.take i,¬ zek s b.1=0∧¬ zek s b.1<0)∧(q.2=true→q.1++l.drop i=zmc s many l∧∀b∈l.drop i,zek s b.1<0)) ?_ ?_ ([],false) ⟨fun _=>⟨by simp,by simp⟩,(fun h=>by cases h)⟩
 ·rintro i ⟨out,done⟩ k hi ⟨h1,h2⟩ hk;have hol:out.length≤l.length+1:=by
   cases done
   ·have k1:=(h1 rfl).1;simp only at k1;rw [k1];simp;omega
   ·have:=congrArg List.length (h2 rfl).1;have h3:=addB_len s many l;simp at this;omega
  have hbm:l[i]∈l:=List.getElem_mem hi;have hmb:=hb.many _ hbm;have hlb:=hb.len _ hbm;have hat:at? l (i:Int)=some l[i]:=by rw [zbv];simp [hi]
  have hdr:l.drop i=l[i]::l.drop (i+1):=(List.getElem_cons_drop hi).symm;have htk:l.take (i+1)=l.take i++[l[i]]:=List.take_succ_eq_append_getElem hi;have hsrt:∀b∈l.drop (i+1),zek l[i].1 b.1<0:=by
   have:=hs.sublist (List.drop_sublist i l);rw [hdr,List.pairwise_cons] at this;exact this.1
  refine ⟨fun _=>⟨l[i],hat,_,zmh hsl hlb,fun h0=>?_,fun h0=>⟨fun hc=>?_,fun hc=>?_⟩⟩,fun h=>absurd (by omega) (df h)⟩
  ·have e0:zek s l[i].1=0:=by simpa using h0
   refine ⟨l[i],hat,zi (by omega) (by omega),by simp;omega,zi (by omega) (by omega),hk (out++[(s,min 2 (l[i].2+many))],true) ⟨(fun h=>by cases h),fun _=>?_⟩⟩;cases done
   ·obtain ⟨k1,k2⟩:=h1 rfl;simp only at k1;refine ⟨?_,fun b hbb=>by rw [zd8.1 e0];exact hsrt b hbb⟩;rw [zji l i k2,hdr,k1]
    conv=>rhs;unfold zmc
    rw [if_pos e0];simp
   ·obtain ⟨k1,k2⟩:=h2 rfl;have:=k2 l[i] (hdr ▸ List.mem_cons_self);omega
  ·simp only [Bool.and_eq_true,decide_eq_true_eq,Bool.not_eq_true'] at hc;obtain ⟨c1,c2⟩:=hc;subst c2;obtain ⟨k1,k2⟩:=h1 rfl;simp only at k1;refine ⟨by simp;omega,l[i],hat,by simp;omega,zi (by omega) (by omega),hk (out++[(s,many)]++[l[i]],true) ⟨(fun h=>by cases h),fun _=>⟨?_,fun b hbb=>zga c1 (hsrt b hbb)⟩⟩⟩;rw [zji l i k2,hdr,k1]
   conv=>rhs;unfold zmc
   rw [if_neg (by omega),if_pos c1];simp
  ·have e0:¬ zek s l[i].1=0:=by simpa using h0
   refine ⟨l[i],hat,by simp;omega,zi (by omega) (by omega),hk (out++[l[i]],done) ⟨fun hd=>?_,fun hd=>?_⟩⟩
   ·simp only at hd;subst hd;obtain ⟨k1,k2⟩:=h1 rfl;simp only at k1;simp only [Bool.not_false,Bool.and_true,decide_eq_false_iff_not] at hc;refine ⟨by rw [htk,k1],fun b hbb=>?_⟩;rw [htk] at hbb;rcases List.mem_append.1 hbb with hbb | hbb
    ·exact k2 b hbb
    ·rw [List.mem_singleton.1 hbb];exact ⟨e0,hc⟩
   ·simp only at hd;subst hd;obtain ⟨k1,k2⟩:=h2 rfl;refine ⟨?_,fun b hbb=>k2 b (hdr ▸ List.mem_cons_of_mem _ hbb)⟩;rw [← k1,hdr];simp
 ·rintro ⟨out,done⟩ ⟨h1,h2⟩ k;refine ⟨fun h=>absurd (dt h) (by omega),fun _=>⟨fun hd=>?_,fun hd=>?_⟩⟩
  ·have hd':done=false:=by simpa using hd
   subst hd';obtain ⟨k1,k2⟩:=h1 rfl;simp only at k1;rw [List.take_length] at k1;refine ⟨by rw [k1];simp;omega, ?_⟩;rw [zji l l.length k2,k1];simp [zmc]
  ·have hd':done=true:=by simpa using hd
   subst hd';obtain ⟨k1,k2⟩:=h2 rfl;rw [← k1];simp
theorem Can.brok {f:List SItem→Nat} {B:List SBranch} (h:Can f B) (hl:∀t,f t≠0→t.length≤1000):BrOk B:=
 ⟨fun b hb=>by have:=(h.many hb).2.2;omega,fun b hb=>hl _ (h.many hb).2.1⟩
theorem into_in {d:List SNode} (hd:ROk d) (hdl:d.length≤400) (hd0:∃n,at? d 0=some n) (U:List (List SItem)) (hU:U.length≤1000000000) (hU1:∀t∈U,t.length≤1000):∀(h:Nat) (s:List SItem) (L:List (List SItem)),lv d h s=some L→Vs d 400 s→∀(f:List SItem→Nat) (B:List SBranch),Can f B→(∀t,f t≠0→t∈U)→(∀t∈L,t∈U)→∃r,zc3.n h d s B r∧Can (fun t=>f t+L.count t) r
 | 0,s,L,hL,_,_,_,_,_,_=>by simp [lv] at hL
 | h+1,s,L,hL,hv,f,B,hB,hf,hLU=>by
  have hlen:=hv.len;have hBl:=zro hB hf;have hBo:=hB.brok fun t ht=>hU1 t (hf t ht);cases hr:rdy d s with
  | true=>
   have e:L=[s]:=by
    unfold lv at hL;rw [if_pos hr] at hL;exact (Option.some.inj hL).symm
   subst e;refine ⟨zmc s 1 B,⟨true,hr ▸ zju hv.form hd0,fun _=>⟨s,zrq (by simp) (by omega),_,zl3 hB.srt hBo (by omega) (by omega) (by omega),rfl⟩,(fun h=>by cases h)⟩, ?_⟩;refine (hB.add s (n:=1) (by omega)).congr fun t=>?_;simp only [List.count_singleton,beq_iff_eq]
   by_cases ht:t=s
   ·subst ht;simp
   ·simp [ht,Ne.symm ht]
  | false=>
   have hopn:=hv.opn hd hr;obtain ⟨ls,hls,hlf⟩:∃ls,(opn d s).mapM (lv d h)=some ls∧ls.flatten=L:=by
    unfold lv at hL;rw [if_neg (by rw [hr];simp)] at hL;exact Option.map_eq_some_iff.1 hL
   have hlsl:ls.length=(opn d s).length:=zmr hls;have hol:=opn_len (d:=d) s;have key:∀(m i:Nat) (B':List SBranch),i+m=(opn d s).length→Can (fun t=>f t+(ls.take i).flatten.count t) B'→∃(r:List SBranch) (k:Nat),zc3.l1 (zc3.n h) d (opn d s) (zc3.j1 r) k B' (i:Int)∧Can (fun t=>f t+L.count t) r:=by
    intro m
    induction m with
    | zero=>
     intro i B' hi hB';refine ⟨B',1,⟨fun h=>absurd (dt h) (by omega),fun _=>rfl⟩, ?_⟩;rw [List.take_of_length_le (by omega),hlf] at hB';exact hB'
    | succ m ih=>
     intro i B' hi hB';have hil:i<(opn d s).length:=by omega
     obtain ⟨li,h1,h2⟩:=zq4 hls hil;have hsub:∀t∈li,t∈L:=fun t ht=>by
      rw [← hlf];exact List.mem_flatten.2 ⟨li,List.mem_of_getElem? h2,ht⟩
     have hsub2:∀t,(ls.take i).flatten.count t≠0→t∈U:=fun t ht=>by
      have hp:t∈(ls.take i).flatten:=List.count_pos_iff.1 (by omega);obtain ⟨l,hl,ht⟩:=List.mem_flatten.1 hp;exact hLU t (by rw [← hlf];exact List.mem_flatten.2 ⟨l,List.mem_of_mem_take hl,ht⟩)
     obtain ⟨r1,hr1,hr2⟩:=into_in hd hdl hd0 U hU hU1 h _ li h1 (hopn _ (List.getElem_mem hil)) _ B' hB' (fun t ht=>by
      by_cases h0:f t=0
      ·exact hsub2 t (by omega)
      ·exact hf t h0) (fun t ht=>hLU t (hsub t ht))
     obtain ⟨r,k,hk1,hk2⟩:=ih (i+1) r1 (by omega) (hr2.congr fun t=>by rw [take_flat h2,List.count_append,Nat.add_assoc]);exact ⟨r,k+1,⟨fun _=>⟨_,by rw [zbv];simp [hil],r1,hr1,zi (by omega) (by omega),by simpa using hk1⟩,fun h=>absurd (by omega) (df h)⟩,hk2⟩
   obtain ⟨r,k,hk1,hk2⟩:=key (opn d s).length 0 B (by omega) (hB.congr fun t=>by simp);exact ⟨r,⟨false,hr ▸ zju hv.form hd0,(fun h=>by cases h),fun _=>⟨_,zqi hd hv.form hr (by omega) hd0,k,hk1⟩⟩,hk2⟩
theorem zpq {α:Type} [BEq α] [LawfulBEq α]:∀(n:Nat) (l:List α),l.length≤n→l.eraseDups.Nodup
 | _,[],_=>by simp
 | 0,x::l,h=>by simp at h
 | n+1,x::l,h=>by
  rw [List.eraseDups_cons,List.nodup_cons];refine ⟨fun hx=>?_,zpq n _ (Nat.le_trans (List.length_filter_le _ _) (by simpa using h))⟩;have:=List.mem_eraseDups.1 hx;simp at this
theorem CV_tr {d:List SNode} {f i:Int} (h:Tr d f i):∀k,((CV d k i).length:Int)≤i-f+1:=by
 induction h with
 | leaf he hk hx h0=>
  rename_i i e
  intro k;cases k with
  | zero=>simp [CV]
  | succ k=>
   unfold CV;rw [he];simp only;rcases hk with h | h | h
   ·simp [h]
   ·simp [h]
   ·simp [h]
 | one he hk ha hb hr t ih=>
  rename_i f i e
  intro k;have hle:=t.le;cases k with
  | zero=>simp [CV];omega
  | succ k=>
   have:=ih k;unfold CV;rw [he];simp only;rw [if_neg (by omega),if_neg (by omega),if_neg (by omega),if_neg (by omega),ha];split
   ·rw [List.length_map];omega
   ·split
    ·rw [List.length_map];omega
    ·simp;omega
 | two he hk ha hb t1 t2 i1 i2=>
  rename_i f p i e
  intro k;have h1:=t1.le;have h2:=t2.le;cases k with
  | zero=>simp [CV];omega
  | succ k=>
   have a1:=i1 k;have a2:=i2 k;unfold CV;rw [he];simp only;rw [if_neg (by omega),if_neg (by omega),ha,hb];split
   ·rw [List.length_append,List.length_map];omega
   ·split
    ·rw [List.length_append];omega
    ·omega
theorem CV_few {d:List SNode} (h:Rt d) (k:Nat) (i:Int):(CV d k i).length≤d.length+1:=by
 cases hn:at? d i with
 | none=>cases k <;> simp [CV,hn]
 | some n=>
  obtain ⟨g,hg⟩:=h.tr.at hn;have h1:=CV_tr hg k;have h2:=hg.le;have h3:=hg.lt;omega
theorem CS_few {d:List SNode} (h:Rt d):∀s:List SItem,(CS d s).length≤s.length*(d.length+1)+1
 | []=>by simp [CS]
 | x::rest=>by
  have h1:=CS_few h rest;have h2:(CI d x).length≤d.length+1:=by
   unfold CI;split
   ·exact CV_few h _ _
   ·split
    ·split
     ·rw [List.length_map];exact CV_few h _ _
     ·simp
    ·simp
  simp only [CS,List.length_append,List.length_map,List.length_cons,Nat.succ_mul];omega
structure Sm (d:List SNode) (s:List SItem):Prop where
 rt:Rt d
 len:d.length≤24
 txt:∀n∈d,n.2.2.2.2.2.2.length≤140737488351232
 form:zds d s=true
 slen:s.length≤400
theorem Sm.dok {d:List SNode} {s:List SItem} (h:Sm d s):DOk d:=⟨by have:=h.len;omega,fun n hn=>by have:=h.txt n hn;omega⟩
theorem Sm.ne {d:List SNode} {s:List SItem} (h:Sm d s):∃n,at? d 0=some n:=by
 have:=h.rt.ne;cases d with
 | nil=>exact absurd rfl this
 | cons n d=>exact ⟨n,rfl⟩
theorem Sm.vs {d:List SNode} {s:List SItem} (h:Sm d s):Vs d 400 s:=Vs.start h.form (by have:=h.slen;omega)
theorem zlq {d:List SNode} {s:List SItem} (h:Sm d s):∃B,zfh d s B∧zhx d s B∧Can (fun t=>(hds d s).count t) B:=by
 have hd:=h.rt.toROk;obtain ⟨L,⟨k,hk⟩,hp⟩:=zpt hd s h.form;have hU:(CS d s).length≤1000000000:=by
  have h1:=CS_few h.rt s;have h4:s.length*(d.length+1)≤400*25:=Nat.mul_le_mul h.slen (by have:=h.len;omega);omega
 have hLU:∀t∈L,t∈CS d s:=fun t ht=>hds_CS d s t (hp.mem_iff.1 ht);have hvs:=lv_vs hd k s L hk h.vs;have hLU2:∀t∈L,t∈L.eraseDups:=fun t ht=>List.mem_eraseDups.2 ht;have hUl:L.eraseDups.length≤1000000000:=Nat.le_trans (zh0 (zpq _ L (Nat.le_refl _)) fun t ht=>hLU t (List.mem_eraseDups.1 ht)) hU;have hU1:∀t∈L.eraseDups,t.length≤1000:=fun t ht=>by
  have:=(hvs t (List.mem_eraseDups.1 ht)).1.len;have:=h.len;omega
 obtain ⟨B,hB1,hB2⟩:=into_in hd (by have:=h.len;omega) h.ne L.eraseDups hUl hU1 k s L hk h.vs (fun _=>0) [] Can.nil (fun t ht=>absurd rfl ht) hLU2;have hB3:Can (fun t=>L.count t) B:=hB2.congr fun t=>by simp
 have hBl:=zro hB3 (U:=L.eraseDups) fun t ht=>hLU2 t (List.count_pos_iff.1 (by omega));exact ⟨B,⟨hd,h.dok,by have:=h.len;omega,h.rt.ne,h.form,by have:=h.slen;omega,by omega,k,L,hk,hB3⟩,⟨B,⟨k,hB1⟩,rfl⟩,hB3.congr fun t=>by rw [hp.count_eq]⟩
theorem zrf {s:List SItem} (hs:s.length≤1000) (hr:∀x∈s,ItR x):zce s (zdu s):=by
 refine ⟨s,clone_in hs, ?_⟩;refine zha (P:=fun k (t:List SItem) v=>zce.l1 s (zdu s) _ k t v) s.length (fun i t=>t=(s.take i).map zig++s.drop i∧(s.take i).any badI=false) ?_ ?_ _ ⟨by simp,by simp⟩
 ·rintro i t hi ⟨rfl,hb⟩;have hl:((s.take i).map zig).length=i:=by simp;omega
  have hat:at? ((s.take i).map zig++s.drop i) (i:Int)=some s[i]:=by
   rw [zbv,List.getElem?_append_right (by omega),hl,Nat.sub_self];simp [hi]
  have hset:∀y,((s.take i).map zig++s.drop i).set i y=(s.take i).map zig++[y]++s.drop (i+1):=fun y=>by
   rw [List.set_append_right _ _ (by omega),hl,Nat.sub_self,List.drop_eq_getElem_cons hi,List.set_cons_zero];simp
  have hnext:(s.take (i+1)).map zig++s.drop (i+1)=(s.take i).map zig++[zig s[i]]++s.drop (i+1):=by
   rw [List.take_succ_eq_append_getElem hi,List.map_append];rfl
  have hri:=(hr _ (List.getElem_mem hi)).2.2.1;rw [zgo] at hri
  by_cases h5:s[i].1=5
  ·by_cases hlo:s[i].2.2.1≤0
   ·have hbad:badI s[i]=true:=by simp [badI,h5,hlo]
    refine .inl fun k=>⟨fun _=>⟨_,hat,fun h=>by simp [h5] at h,fun _=>⟨fun _=>?_,fun h=>absurd hlo (df h)⟩⟩,fun h=>absurd (by omega) (df h)⟩;unfold zdu;rw [if_pos (any_of hi hbad)]
   ·have hbad:badI s[i]=false:=by simp [badI,hlo]
    refine .inr ⟨_,⟨rfl,by rw [zmx hi,hb,hbad];rfl⟩,fun k h=>⟨fun _=>⟨_,hat,fun h=>by simp [h5] at h,fun _=>⟨fun h=>absurd (dt h) hlo,fun _=>⟨_,hat,zi (by omega) (by omega),_,hat,zi (by omega) (by omega), ?_⟩⟩⟩,fun h=>absurd (by omega) (df h)⟩⟩;rw [hnext] at h;rw [Int.toNat_natCast,hset];have e:zig s[i]=(s[i].1,s[i].2.1,s[i].2.2.1-1,s[i].2.2.2):=by unfold zig;rw [if_pos h5]
    rw [← e];exact h
  ·have hbad:badI s[i]=false:=by simp [badI,h5]
   refine .inr ⟨_,⟨rfl,by rw [zmx hi,hb,hbad];rfl⟩,fun k h=>⟨fun _=>⟨_,hat,fun _=>⟨zi (by omega) (by omega), ?_⟩,fun h=>by simp at h;exact absurd h h5⟩,fun h=>absurd (by omega) (df h)⟩⟩;rw [hnext] at h;have e:zig s[i]=s[i]:=by unfold zig;rw [if_neg h5]
   rw [e] at h;rw [List.drop_eq_getElem_cons hi];simpa using h
 ·rintro t ⟨rfl,hb⟩ k;refine ⟨fun h=>absurd (dt h) (by omega),fun _=>?_⟩;rw [List.take_length] at hb;show zdu s=_;unfold zdu;rw [if_neg (by rw [hb];simp)];simp
theorem zov {s:List SItem} (hs:s.length≤1000) (hr:∀x∈s,ItR x):zby s (zdu s):=by
 refine zha (P:=fun k (t:List SItem) v=>zby.l1 s (zdu s) _ k t v) s.length (fun i t=>t=(s.take i).map zig∧(s.take i).any badI=false) ?_ ?_ _ ⟨by simp,by simp⟩
 ·rintro i t hi ⟨rfl,hb⟩;have hl:((s.take i).map zig).length=i:=by simp;omega
  have hat:at? s (i:Int)=some s[i]:=by rw [zbv];simp [hi]
  have hnext:(s.take (i+1)).map zig=(s.take i).map zig++[zig s[i]]:=by
   rw [List.take_succ_eq_append_getElem hi,List.map_append];rfl
  have hri:=(hr _ (List.getElem_mem hi)).2.2.1;rw [zgo] at hri;have hj:∀k,zby.l1 s (zdu s) (zby.j1 (zdu s)) k ((s.take (i+1)).map zig) ((i:Int)+1)→zby.j2 (zby.l1 s (zdu s) (zby.j1 (zdu s)) k) ((s.take i).map zig) (i:Int) (zig s[i]):=fun k h=>by
   refine ⟨by rw [hl];simp only [List.length_cons,List.length_nil];omega,zi (by omega) (by omega), ?_⟩;rw [hnext] at h;exact h
  by_cases h5:s[i].1=5
  ·by_cases hlo:s[i].2.2.1≤0
   ·have hbad:badI s[i]=true:=by simp [badI,h5,hlo]
    refine .inl fun k=>⟨fun _=>⟨_,hat,fun _=>⟨fun _=>?_,fun h=>absurd hlo (df h)⟩,fun h=>by simp [h5] at h⟩,fun h=>absurd (by omega) (df h)⟩;unfold zdu;rw [if_pos (any_of hi hbad)]
   ·have hbad:badI s[i]=false:=by simp [badI,hlo]
    refine .inr ⟨_,⟨rfl,by rw [zmx hi,hb,hbad];rfl⟩,fun k h=>⟨fun _=>⟨_,hat,fun _=>⟨fun h=>absurd (dt h) hlo,fun _=>⟨zi (by omega) (by omega), ?_⟩⟩,fun h=>by simp [h5] at h⟩,fun h=>absurd (by omega) (df h)⟩⟩;have:=hj k h;unfold zig at this;rw [if_pos h5] at this;exact this
  ·have hbad:badI s[i]=false:=by simp [badI,h5]
   refine .inr ⟨_,⟨rfl,by rw [zmx hi,hb,hbad];rfl⟩,fun k h=>⟨fun _=>⟨_,hat,fun h=>by simp at h;exact absurd h h5,fun _=>?_⟩,fun h=>absurd (by omega) (df h)⟩⟩;have:=hj k h;unfold zig at this;rw [if_neg h5] at this;exact this
 ·rintro t ⟨rfl,hb⟩ k;refine ⟨fun h=>absurd (dt h) (by omega),fun _=>?_⟩;rw [List.take_length] at hb;show zdu s=_;unfold zdu;rw [if_neg (by rw [hb];simp),List.take_length]
theorem zma {a:Cl} {n:Nat} (hn:n<256):zfz a (n:Int) (a.has n):=by
 refine ⟨⟨by omega,by omega⟩,_,rfl, ?_⟩;rw [show ((n:Int) / 64)=((n / 64:Nat):Int) by omega,show ((n:Int) % 64)=((n % 64:Nat):Int) by omega];show _=(andI (zpj (((a.word ((n / 64:Nat):Int).toNat):Nat):Int) _) 1==1);rw [Int.toNat_natCast,shr_bit (Nat.mod_lt _ (by omega)),has_w hn]
theorem zl9 {a:Cl} {c:Int} (hc:InR .u8 c):zfz a c (a.has c.toNat):=by
 obtain ⟨n,hn,rfl⟩:=u8_of hc;simpa using zma (a:=a) hn
theorem zh5 {a:Cl} {i:Nat} (hi:i<256):zfz a ((i:Int) % 256) (a.has i):=by
 rw [show ((i:Int) % 256)=(i:Int) by omega];exact zma hi
theorem class_Add_in {a:Cl} {l:List Int} (hl:∀x∈l,InR .u8 x) (hn:l.length<9223372036854775807):zcz a l (a.addL l):=by
 refine zha (P:=fun k (s:Cl) v=>zcz.l1 l _ k s v) l.length (fun i s=>s=a.addL (l.take i)) ?_ ?_ a (by simp [Cl.addL])
 ·rintro i s hi rfl;refine .inr ⟨a.addL (l.take (i+1)),rfl,fun k h=>?_⟩;refine ⟨fun _=>?_,fun h=>absurd (by omega) (df h)⟩;obtain ⟨n,hn,he⟩:=u8_of (hl l[i] (List.getElem_mem hi));refine ⟨l[i],by rw [zbv];simp [hi], ?_, ?_,zi (by omega) (by omega), ?_⟩
  ·rw [he];omega
  ·rw [he];omega
  ·rw [he,show ((n:Int) / 64)=((n / 64:Nat):Int) by omega,show ((n:Int) % 64)=((n % 64:Nat):Int) by omega,put_words hn];have:(a.addL (l.take i)).put n=a.addL (l.take (i+1)):=by
    rw [List.take_succ_eq_append_getElem hi];simp [Cl.addL,he]
   rw [this];exact h
 ·rintro s rfl k;exact ⟨fun h=>absurd (dt h) (by omega),fun _=>by simp [zcz.j1]⟩
theorem zof {f t:Int}:zdg f t (Cl.row f t):=by
 refine zha (P:=fun k (s:Cl) v=>zdg.l1 f t _ k s v) 256 (fun i s=>∀n,n<256→s.has n=(decide (n<i)&&(Cl.row f t).has n)) ?_ ?_ _ (by intro n _;simp [has_zero])
 ·intro i s hi hs;refine .inr ⟨if (decide (f≤(i:Int))&&decide ((i:Int)≤t))=true then s.put i else s, ?_,fun k h=>?_⟩
  ·intro n hn;split
   ·rename_i hc
    rw [has_put hi,hs n hn,zj5 hn]
    by_cases e:i=n
    ·subst e;simp [hc]
    ·simp only [e,decide_false,Bool.or_false]
     congr 1
     apply decide_eq_decide.2;omega
   ·rename_i hc
    rw [hs n hn,zj5 hn]
    by_cases e:i=n
    ·subst e;simp [hc]
    ·congr 1
     apply decide_eq_decide.2;omega
  ·refine ⟨fun _=>?_,fun h=>absurd (by omega) (df h)⟩;rw [show ((i:Int) % 256)=i by omega];refine ⟨_,rfl,fun hc=>?_,fun hc=>?_⟩
   ·rw [if_pos hc] at h;refine ⟨s.put i, ?_,zi (by omega) (by omega),h⟩;have:=class_Add_in (a:=s) (l:=[(i:Int)]) (by simpa using u8_nat hi) (by simp);simpa [Cl.addL] using this
   ·rw [if_neg (by simp [hc])] at h;exact ⟨zi (by omega) (by omega),h⟩
 ·intro s hs k;refine ⟨fun h=>absurd (dt h) (by omega),fun _=>?_⟩;show Cl.row f t=s;apply Cl.ext;intro c hc;rw [hs c hc];simp [hc]
theorem words_up {P:Nat→Cl→Int→Prop} {a r:Cl} (g:Nat→Nat→Nat)
  (hr:∀i,i<4→r.word i=g i (a.word i))
  (hs:∀k (i:Nat) (s:Cl) (v:Int),i<4→s.word i=a.word i→v=((g i (a.word i):Nat):Int)→P k (s.setw (i:Int) v) ((i:Int)+1)→P (k+1) s (i:Int))
  (hx:∀k,P (k+1) r 4):∃k,P k a 0:=by
 refine zha (P:=P) 4 (fun i s=>∀j,j<4→s.word j=if j<i then r.word j else a.word j) ?_ ?_ a (by intro j hj;simp)
 ·intro i s hi h;have hv:((g i (a.word i):Nat):Int).toNat<2 ^ 64:=by rw [Int.toNat_natCast,← hr i hi];exact r.word_lt i
  refine .inr ⟨s.setw (i:Int) ((g i (a.word i):Nat):Int),fun j hj=>?_,fun k hk=>hs k i s _ hi (by rw [h i hi];simp) rfl hk⟩;rw [znc hv j hj,h j hj]
  by_cases e:j=i
  ·subst e;simp [hr j hj]
  ·rw [if_neg e]
   by_cases e2:j<i
   ·rw [if_pos e2,if_pos (by omega)]
   ·rw [if_neg e2,if_neg (by omega)]
 ·intro s h k;have:s=r:=Cl.ext_words fun i hi=>by rw [h i hi,if_pos hi]
  subst this;exact hx k
theorem zii {r:Cl} {i v:Nat} (hi:i<4) (hv:v<2 ^ 64) (h:∀j,j<64→r.has (64*i+j)=v.testBit j):r.word i=v:=by
 apply Nat.eq_of_testBit_eq;intro j;rw [Cl.word_bit]
 by_cases hj:j<64
 ·simp [hj,h j hj]
 ·have:v<2 ^ j:=Nat.lt_of_lt_of_le hv (Nat.pow_le_pow_right (by omega) (by omega));simp [hj,Nat.testBit_lt_two_pow this]
theorem ref01_Has_in {a:Cl} {n:Nat} (hn:n<256):ze1 a (n:Int) (a.has n):=by
 refine ⟨by omega,⟨by omega,by omega⟩, ?_⟩;have hw:Cl.w a ((n:Int) / 64)=((a.word (n / 64):Nat):Int):=by
  rw [show ((n:Int) / 64)=((n / 64:Nat):Int) by omega];rfl
 rw [hw];refine zha (P:=fun k (s:Int) v=>ze1.l1 (n:Int) _ k s v) (n % 64) (fun i s=>s=((a.word (n / 64) / 2 ^ i:Nat):Int)) ?_ ?_ _ (by simp)
 ·rintro i s hi rfl;refine .inr ⟨_,rfl,fun k h=>⟨by omega,fun _=>⟨zi (by omega) (by omega), ?_⟩,fun h=>absurd (by omega) (df h)⟩⟩;rw [Nat.pow_succ,← Nat.div_div_eq_div_mul,Int.natCast_ediv] at h;exact h
 ·rintro s rfl k;refine ⟨by omega,fun h=>absurd (dt h) (by omega),fun _=>?_⟩;show a.has n=_;rw [has_w hn,Nat.testBit_eq_decide_div_mod_eq];rcases Nat.mod_two_eq_zero_or_one (a.word (n / 64) / 2 ^ (n % 64)) with h | h
  ·rw [h,show (((a.word (n / 64) / 2 ^ (n % 64):Nat):Int) % 2)=0 by omega];rfl
  ·rw [h,show (((a.word (n / 64) / 2 ^ (n % 64):Nat):Int) % 2)=1 by omega];rfl
theorem ref01_Has_u8 {a:Cl} {c:Int} (hc:InR .u8 c):ze1 a c (a.has c.toNat):=by
 obtain ⟨n,hn,rfl⟩:=u8_of hc;simpa using ref01_Has_in (a:=a) hn
theorem ref01_Of_l2 {l:List Bool} (hl:l.length=256) {w:Nat} (hw:w<4) {X:Cl→Prop} {s:Cl} (h0:s.word w=0) (hX:∀t:Cl,(∀j,j<4→t.word j=if j=w then zef (fun j=>l.getD (64*w+j) false) 64 else s.word j)→X t):
  ∃k,zdk.l2 l (w:Int) X k s 1 0:=by
 refine zha (P:=fun k (s:Cl × Int) v=>zdk.l2 l (w:Int) X k s.1 s.2 v) 64
  (fun i t=>(∀j,j<4→t.1.word j=if j=w then zef (fun j=>l.getD (64*w+j) false) i else s.word j)∧t.2=((2 ^ i % 2 ^ 64:Nat):Int)) ?_ ?_ (s,1) ?_
 ·rintro i ⟨t,b⟩ hi ⟨h1,h2⟩;simp only at h1 h2;subst h2;have hb:=zoj (fun j=>l.getD (64*w+j) false) (i+1);have hp:2 ^ (i+1)≤2 ^ 64:=Nat.pow_le_pow_right (by omega) (by omega);have hp2:2 ^ i<2 ^ 64:=Nat.pow_lt_pow_right (by omega) hi;have hbit:IntKind.wrap .u64 (((2 ^ i % 2 ^ 64:Nat):Int)*2)=((2 ^ (i+1) % 2 ^ 64:Nat):Int):=by
   rw [zmk,Nat.mod_eq_of_lt hp2,Nat.pow_succ];omega
  have hat:at? l (64*(w:Int)+(i:Int))=some (l.getD (64*w+i) false):=by
   rw [show (64*(w:Int)+(i:Int))=((64*w+i:Nat):Int) by omega,zbv,List.getElem?_eq_getElem (by omega)];simp [List.getD,List.getElem?_eq_getElem (show 64*w+i<l.length by omega)]
  cases he:l.getD (64*w+i) false
  ·refine .inr ⟨(t,((2 ^ (i+1) % 2 ^ 64:Nat):Int)),⟨fun j hj=>?_,rfl⟩,fun k h=>⟨fun _=>⟨zi (by omega) (by omega),zi (by omega) (by omega),_,hat,fun hc=>(by rw [he] at hc;cases hc),fun _=>⟨zi (by omega) (by omega), ?_⟩⟩,fun h=>absurd (by omega) (df h)⟩⟩
   ·simp only;rw [h1 j hj];split
    ·simp only [zef,he,cond_false]
    ·rfl
   ·rw [hbit];exact h
  ·refine .inr ⟨(t.setw (w:Int) ((zef (fun j=>l.getD (64*w+j) false) (i+1):Nat):Int),((2 ^ (i+1) % 2 ^ 64:Nat):Int)),⟨fun j hj=>?_,rfl⟩,fun k h=>⟨fun _=>⟨zi (by omega) (by omega),zi (by omega) (by omega),_,hat,fun _=>⟨⟨by omega,by omega⟩,⟨by omega,by omega⟩,zi (by omega) (by omega), ?_⟩,fun hc=>(by rw [he] at hc;cases hc)⟩,fun h=>absurd (by omega) (df h)⟩⟩
   ·simp only;rw [znc (by rw [Int.toNat_natCast];omega) j hj,Int.toNat_natCast];split
    ·rfl
    ·rename_i e;rw [h1 j hj,if_neg e]
   ·have hww:(Cl.w t (w:Int))=((zef (fun j=>l.getD (64*w+j) false) i:Nat):Int):=by
     show ((t.word ((w:Int).toNat):Nat):Int)=_;rw [Int.toNat_natCast,h1 w hw,if_pos rfl]
    have hsum:IntKind.wrap .u64 (Cl.w t (w:Int)+((2 ^ i % 2 ^ 64:Nat):Int))=((zef (fun j=>l.getD (64*w+j) false) (i+1):Nat):Int):=by
     have e2:zef (fun j=>l.getD (64*w+j) false) (i+1)=2 ^ i+zef (fun j=>l.getD (64*w+j) false) i:=by simp only [zef,he,cond_true]
     rw [hww,zmk,Nat.mod_eq_of_lt hp2];omega
    rw [hbit,hsum];exact h
 ·rintro ⟨t,b⟩ ⟨h1,_⟩ k;exact ⟨fun h=>absurd (dt h) (by omega),fun _=>hX t h1⟩
 ·refine ⟨fun j hj=>?_,by rfl⟩;split
  ·rename_i e;subst e;simpa [zef] using h0
  ·rfl
theorem ofL_word {l:List Bool} {w:Nat} (hw:w<4):(Cl.ofL l).word w=zef (fun j=>l.getD (64*w+j) false) 64:=by
 refine zii hw (zoj _ 64) fun j hj=>?_;rw [has_ofL (by omega),zpy];simp [hj]
theorem ref01_Of_in {l:List Bool} (hl:l.length=256):zdk l (Cl.ofL l):=by
 refine zha (P:=fun k (s:Cl) v=>zdk.l1 l _ k s v) 4 (fun i s=>∀j,j<4→s.word j=if j<i then (Cl.ofL l).word j else 0) ?_ ?_ _ ?_
 ·intro i s hi h;refine .inr ⟨Cl.ofWords (if 0<i+1 then (Cl.ofL l).word 0 else 0) (if 1<i+1 then (Cl.ofL l).word 1 else 0) (if 2<i+1 then (Cl.ofL l).word 2 else 0) (if 3<i+1 then (Cl.ofL l).word 3 else 0), ?_,fun k hk=>⟨fun _=>?_,fun h=>absurd (by omega) (df h)⟩⟩
  ·have hb:∀(c:Prop) [Decidable c] (k:Nat),(if c then (Cl.ofL l).word k else 0)<2 ^ 64:=fun c _ k=>by
    split
    ·exact Cl.word_lt _ _
    ·omega
   obtain ⟨e0,e1,e2,e3⟩:=Cl.ofWords_word (hb (0<i+1) 0) (hb (1<i+1) 1) (hb (2<i+1) 2) (hb (3<i+1) 3);intro j hj
   match j,hj with
   | 0,_=>exact e0
   | 1,_=>exact e1
   | 2,_=>exact e2
   | 3,_=>exact e3
  ·refine ref01_Of_l2 hl hi (by rw [h i hi,if_neg (by omega)]) fun t ht=>?_;refine ⟨zi (by omega) (by omega), ?_⟩;have hb:∀(c:Prop) [Decidable c] (k:Nat),(if c then (Cl.ofL l).word k else 0)<2 ^ 64:=fun c _ k=>by
    split
    ·exact Cl.word_lt _ _
    ·omega
   obtain ⟨e0,e1,e2,e3⟩:=Cl.ofWords_word (hb (0<i+1) 0) (hb (1<i+1) 1) (hb (2<i+1) 2) (hb (3<i+1) 3);have key:∀j,j<4→t.word j=if j<i+1 then (Cl.ofL l).word j else 0:=fun j hj=>by
    rw [ht j hj]
    by_cases e:j=i
    ·subst e;rw [if_pos rfl,if_pos (by omega),ofL_word hj]
    ·rw [if_neg e,h j hj]
     by_cases e2:j<i
     ·rw [if_pos e2,if_pos (by omega)]
     ·rw [if_neg e2,if_neg (by omega)]
   have:t=_:=Cl.ext_words (x:=t) (y:=Cl.ofWords (if 0<i+1 then (Cl.ofL l).word 0 else 0) (if 1<i+1 then (Cl.ofL l).word 1 else 0) (if 2<i+1 then (Cl.ofL l).word 2 else 0) (if 3<i+1 then (Cl.ofL l).word 3 else 0)) fun j hj=>by
    rw [key j hj]
    match j,hj with
    | 0,_=>exact e0.symm
    | 1,_=>exact e1.symm
    | 2,_=>exact e2.symm
    | 3,_=>exact e3.symm
   rw [this];exact hk
 ·intro s h k;refine ⟨fun h=>absurd (dt h) (by omega),fun _=>?_⟩;show Cl.ofL l=s;exact Cl.ext_words fun j hj=>by rw [h j hj,if_pos hj]
 ·intro j hj;simp [Cl.word]
theorem ofL_set {l:List Bool} {f:Nat→Bool} (h:∀n,n<256→l[n]?=some (f n)):Cl.ofL l=Cl.of f:=by
 apply Cl.ext;intro c hc;rw [has_ofL hc,Cl.of_has _ hc];simp [List.getD,h c hc]
theorem zl4 {f t:Int} (hf:InR .u8 f) (ht:InR .u8 t):ze0 f t (Cl.row f t):=by
 obtain ⟨f,hf1,rfl⟩:=u8_of hf;obtain ⟨t,ht1,rfl⟩:=u8_of ht;refine run (P:=fun k (s:List Bool × Int)=>ze0.l1 (t:Int) _ k s.1 s.2)
  (fun s=>s.1.length=256∧∃i:Nat,s.2=i∧f≤i∧(i≤t+1∨i=f)∧∀n,n<256→s.1[n]?=some (decide (f≤n)&&decide (n<i))) (fun s=>257-s.2.toNat) ?_ (List.replicate 256 false,(f:Int)) ?_
 ·rintro ⟨l,i'⟩ ⟨hl,i,hi,h1,h2,h3⟩;simp only at hl hi h3;subst hi
  by_cases hc:i≤t
  ·refine .inr ⟨(l.set i true,((i+1:Nat):Int)),⟨by simpa using hl,i+1,rfl,by omega,by omega,fun n hn=>?_⟩, ?_,fun k h=>⟨fun _=>⟨l[i]'(by omega),by rw [zbv];exact List.getElem?_eq_getElem (by show i<l.length;omega),zi (by simp only;omega) (by simp only;omega), ?_⟩,fun h=>absurd (by show (i:Int)≤(t:Int);omega) (df h)⟩⟩
   ·simp only [List.getElem?_set];split
    ·rename_i e;subst e;simp [show i<l.length by omega,h1]
    ·rename_i e
     rw [h3 n hn];congr 2;apply decide_eq_decide.2;omega
   ·simp only [Int.toNat_natCast];omega
   ·simpa using h
  ·refine .inl fun k=>⟨fun h=>absurd (dt h) (by simp only;omega),fun _=>⟨Cl.ofL l,ref01_Of_in hl, ?_⟩⟩;rw [ofL_set h3];apply Cl.ext;intro c hc2;rw [zj5 hc2,Cl.of_has _ hc2]
   by_cases e:f≤c
   ·have e3:(decide (c<i):Bool)=decide (c≤t):=decide_eq_decide.2 (by omega);rw [e3]
    congr 1
    ·apply decide_eq_decide.2;omega
    ·apply decide_eq_decide.2;omega
   ·rw [decide_eq_false (show ¬ (f:Int)≤(c:Int) by omega),decide_eq_false e];simp
 ·refine ⟨List.length_replicate,f,rfl,Nat.le_refl _,by omega,fun n hn=>?_⟩;show (List.replicate 256 false)[n]?=_;rw [List.getElem?_replicate,if_pos hn]
  by_cases e:f≤n
  ·simp [show ¬ n<f by omega]
  ·simp [e]
def zbc (d:List SNode) (s:List SItem) (c:Int):List SItem × Bool:=
 match s with
 | []=>([],false)
 | x::rest=>
  if (zdu rest).2=false then ([],false)
  else match at? d x.2.1 with
   | none=>([],false)
   | some n=>
    if x.1=3 then (if zd2 n.2.2.2.2.2.2 x.2.2.1=some c then ((if x.2.2.1+1<(n.2.2.2.2.2.2.length:Int) then [(3,x.2.1,x.2.2.1+1,0)] else [])++(zdu rest).1,true) else ([],false))
    else if x.1=4 then ([(1,n.2.1,0,0),(5,0,256*x.2.2.1+c,0)]++(zdu rest).1,true)
    else if n.1=8 then ([(1,n.2.1,0,0),(5,0,c,0)]++(zdu rest).1,true)
    else if n.1=9 then ([(4,x.2.1,c,0)]++(zdu rest).1,true)
    else if n.2.2.2.2.2.1.has c.toNat=true then ((zdu rest).1,true) else ([],false)
theorem zq5 (s:List SItem):(zdu s).1.length≤s.length:=by unfold zdu;split <;> simp
theorem zkg (d:List SNode) (s:List SItem) (c:Int):(zbc d s c).1.length≤s.length+1:=by
 cases s with
 | nil=>simp [zbc]
 | cons x rest=>
  have:=zq5 rest;unfold zbc;simp only;split
  ·simp
  ·cases at? d x.2.1 with
   | none=>simp
   | some n=>
    simp only [List.length_cons];split
    ·split
     ·split <;> simp <;> omega
     ·simp
    ·split
     ·simp;omega
     ·split
      ·simp;omega
      ·split
       ·simp;omega
       ·split <;> simp;omega
theorem itR_form {d:List SNode} (hd:ROk d) (hl:d.length≤1000) (ht:∀n∈d,n.2.2.2.2.2.2.length≤140737488351232) {x:SItem} (hx:zeo d x=true):ItR x:=by
 unfold zeo at hx;split at hx
 ·rename_i h5
  simp only [Bool.and_eq_true,beq_iff_eq,decide_eq_true_eq] at hx;exact ⟨zi (by omega) (by omega),zi (by omega) (by omega),zi (by omega) (by omega),zi (by omega) (by omega)⟩
 ·cases hn:at? d x.2.1 with
  | none=>rw [hn] at hx;cases hx
  | some n=>
   rw [hn] at hx;have hb:=zbq hn;have hm:n∈d:=by
    obtain ⟨k,_,hk⟩:=zok hn;exact List.mem_of_getElem? hk
   have htn:=ht n hm;simp only at hx;split at hx
   ·rename_i h1
    simp only [Bool.and_eq_true,beq_iff_eq] at hx;exact ⟨zi (by omega) (by omega),zi (by omega) (by omega),zi (by omega) (by omega),zi (by omega) (by omega)⟩
   ·split at hx
    ·rename_i h2
     simp only [Bool.and_eq_true,beq_iff_eq,decide_eq_true_eq] at hx;have:=hd.rep _ n hn hx.1.1.1;exact ⟨zi (by omega) (by omega),zi (by omega) (by omega),zi (by omega) (by omega),zi (by omega) (by omega)⟩
    ·split at hx
     ·rename_i h3
      simp only [Bool.and_eq_true,beq_iff_eq,decide_eq_true_eq] at hx;exact ⟨zi (by omega) (by omega),zi (by omega) (by omega),zi (by omega) (by omega),zi (by omega) (by omega)⟩
     ·split at hx
      ·rename_i h4
       simp only [Bool.and_eq_true,beq_iff_eq,decide_eq_true_eq] at hx;exact ⟨zi (by omega) (by omega),zi (by omega) (by omega),zi (by omega) (by omega),zi (by omega) (by omega)⟩
      ·cases hx
theorem itR_all {d:List SNode} (hd:ROk d) (hl:d.length≤1000) (ht:∀n∈d,n.2.2.2.2.2.2.length≤140737488351232) {s:List SItem} (hs:zds d s=true):∀x∈s,ItR x:=by
 intro x hx;unfold zds at hs;rw [List.all_eq_true] at hs;exact itR_form hd hl ht (hs x hx)
theorem zhy {d:List SNode} {x:SItem} {rest:List SItem} (hf:zds d (x::rest)=true) (hr:rdy d (x::rest)=true):∃n,at? d x.2.1=some n∧n∈d∧((x.1=1∧(n.1=2∨n.1=8∨n.1=9))∨(x.1=3∧n.1=3∧x.2.2.2=0∧0≤x.2.2.1∧x.2.2.1<(n.2.2.2.2.2.2.length:Int))∨(x.1=4∧n.1=9∧0≤x.2.2.1∧x.2.2.1≤255)):=by
 have hx:=(zde hf).1;have h5:x.1≠5:=fun h=>by simp [rdy,h] at hr
 obtain ⟨n,hn,_⟩:=ze5 hx h5;have hm:n∈d:=by
  obtain ⟨k,_,hk⟩:=zok hn;exact List.mem_of_getElem? hk
 refine ⟨n,hn,hm, ?_⟩;unfold zeo at hx;rw [if_neg h5,hn] at hx;simp only [rdy,hn,Bool.or_eq_true,beq_iff_eq,Bool.and_eq_true] at hr;simp only at hx;rcases hr with (h3 | h4) | ⟨h1,h2⟩
 ·rw [if_neg (by omega),if_neg (by omega),if_pos h3] at hx;simp only [Bool.and_eq_true,beq_iff_eq,decide_eq_true_eq] at hx;exact .inr (.inl ⟨h3,hx.1.1.1,hx.1.1.2,hx.1.2,hx.2⟩)
 ·rw [if_neg (by omega),if_neg (by omega),if_neg (by omega),if_pos h4] at hx;simp only [Bool.and_eq_true,beq_iff_eq,decide_eq_true_eq] at hx;exact .inr (.inr ⟨h4,hx.1.1.1,hx.1.2,hx.2⟩)
 ·exact .inl ⟨h1,by omega⟩
theorem zoh {s:Str} {i:Int} (h0:0≤i) (h1:i<(s.length:Int)):∃c,zd2 s i=some c∧InR .u8 c:=by
 obtain ⟨x,hx,_⟩:=zol h0 h1;refine ⟨(x.toNat:Int),by unfold zd2;rw [hx];rfl,zgy.2 ⟨by omega, ?_⟩⟩;have:=x.toNat_lt;omega
theorem next_Read_in {d:List SNode} (hd:ROk d) (hl:d.length≤1000) (ht:∀n∈d,n.2.2.2.2.2.2.length≤140737488351232) {s:List SItem} (hs:s.length≤1000) (hf:zds d s=true) (hr:rdy d s=true) {c:Int} (hc:InR .u8 c):zkm d s c (zbc d s c):=by
 cases s with
 | nil=>exact ⟨fun _=>rfl,fun h=>by simp at h⟩
 | cons x rest=>
  have hls:rest.length≤1000:=by simp at hs;omega
  have hcr:=zgy.1 hc;obtain ⟨n,hn,hm,hk⟩:=zhy hf hr;have htn:=ht n hm;have hlow:=zrf hls (itR_all hd hl ht (zde hf).2);have hlen:=zq5 rest;refine ⟨fun h=>by simp at h;omega,fun _=>⟨⟨by omega,by simp;omega⟩,zdu rest,hlow,x,rfl,fun hb=>?_,fun hb=>⟨x,rfl,n,hn,x,rfl, ?_⟩⟩⟩
  ·have hmh:zhh gfmS x.1=true:=by rcases hk with ⟨h,_⟩ | ⟨h,_⟩ | ⟨h,_⟩ <;> rw [h] <;> rfl
   rw [hmh] at hb;simp only [Bool.not_true,Bool.or_false,Bool.not_eq_true'] at hb;unfold zbc;simp only;rw [if_pos hb]
  ·simp only [Bool.or_eq_false_iff,Bool.not_eq_false'] at hb;have hb1:¬ (zdu rest).2=false:=by rw [hb.1];simp
   have cat:∀l:List SItem,l.length≤2→zg [l,(zdu rest).1] (l++(zdu rest).1):=fun l h=>zpw (by omega) (by omega);rcases hk with ⟨h1,h2⟩ | ⟨h3,h4,h5,h6,h7⟩ | ⟨h4,h9,h6,h7⟩
   ·-- a node
    have e1:zd6 gfmS x.1 none=zd6 gfmS 1 none:=by rw [h1]
    rw [e1];rcases h2 with h2 | h2 | h2
    ·by_cases hh:n.2.2.2.2.2.1.has c.toNat=true
     ·have hrd:zbc d (x::rest) c=([]++(zdu rest).1,true):=by
       unfold zbc;simp only [hn];rw [if_neg hb1,if_neg (by omega),if_neg (by omega),if_neg (by omega),if_neg (by omega),if_pos hh];rfl
      rw [hrd];refine ⟨([],true),.inl ⟨rfl,fun h=>by simp [h2] at h,fun _=>⟨fun h=>by simp [h2] at h,fun _=>⟨_,zl9 hc,by rw [hh]⟩⟩⟩,fun h=>by simp at h,fun _=>⟨_,cat [] (by simp),rfl⟩⟩
     ·have hh':n.2.2.2.2.2.1.has c.toNat=false:=by simpa using hh
      have hrd:zbc d (x::rest) c=([],false):=by
       unfold zbc;simp only [hn];rw [if_neg hb1,if_neg (by omega),if_neg (by omega),if_neg (by omega),if_neg (by omega),if_neg hh]
      rw [hrd];exact ⟨([],false),.inl ⟨rfl,fun h=>by simp [h2] at h,fun _=>⟨fun h=>by simp [h2] at h,fun _=>⟨_,zl9 hc,by rw [hh']⟩⟩⟩,fun _=>rfl,fun h=>by simp at h⟩
    ·have hrd:zbc d (x::rest) c=([(1,n.2.1,0,0),(5,0,c,0)]++(zdu rest).1,true):=by
      unfold zbc;simp only [hn];rw [if_neg hb1,if_neg (by omega),if_neg (by omega),if_pos h2]
     rw [hrd];exact ⟨([(1,n.2.1,0,0),(5,0,c,0)],true),.inl ⟨rfl,fun _=>⟨_,rfl,rfl⟩,fun h=>by simp [h2] at h⟩,fun h=>by simp at h,fun _=>⟨_,cat _ (by simp),rfl⟩⟩
    ·have hrd:zbc d (x::rest) c=([(4,x.2.1,c,0)]++(zdu rest).1,true):=by
      unfold zbc;simp only [hn];rw [if_neg hb1,if_neg (by omega),if_neg (by omega),if_neg (by omega),if_pos h2]
     rw [hrd];exact ⟨([(4,x.2.1,c,0)],true),.inl ⟨rfl,fun h=>by simp [h2] at h,fun _=>⟨fun _=>rfl,fun h=>by simp [h2] at h⟩⟩,fun h=>by simp at h,fun _=>⟨_,cat _ (by simp),rfl⟩⟩
   ·-- a text
    have e1:zd6 gfmS x.1 none=zd6 gfmS 3 none:=by rw [h3]
    rw [e1];obtain ⟨b,hb2,_⟩:=zoh h6 h7;obtain ⟨xk,xi,xl,xh⟩:=x;simp only at h3 h5 h6 h7 hb2 hn;subst h3;subst h5
    by_cases hbc:b=c
    ·subst hbc
     by_cases hlast:xl+1<(n.2.2.2.2.2.2.length:Int)
     ·have hrd:zbc d ((3,xi,xl,0)::rest) b=([(3,xi,xl+1,0)]++(zdu rest).1,true):=by
       unfold zbc;simp only [hn];rw [if_neg hb1,if_pos trivial,if_pos hb2,if_pos hlast]
      rw [hrd];refine ⟨([(3,xi,xl+1,0)],true),.inr (.inl ⟨rfl,zi (by show _≤xl+1;omega) (by show xl+1≤_;omega),_,rfl,fun h=>?_,fun _=>⟨b,hb2,by simp⟩⟩),fun h=>by simp at h,fun _=>⟨_,cat _ (by simp),rfl⟩⟩;simp at h;omega
     ·have hrd:zbc d ((3,xi,xl,0)::rest) b=([]++(zdu rest).1,true):=by
       unfold zbc;simp only [hn];rw [if_neg hb1,if_pos trivial,if_pos hb2,if_neg hlast]
      rw [hrd];refine ⟨([],true),.inr (.inl ⟨rfl,zi (by show _≤xl+1;omega) (by show xl+1≤_;omega),_,rfl,fun _=>⟨b,hb2,by simp⟩,fun h=>?_⟩),fun h=>by simp at h,fun _=>⟨_,cat _ (by simp),rfl⟩⟩;simp at h;omega
    ·have hne:¬ zd2 n.2.2.2.2.2.2 xl=some c:=by rw [hb2];simpa using hbc
     have hrd:zbc d ((3,xi,xl,0)::rest) c=([],false):=by
      unfold zbc;simp only [hn];rw [if_neg hb1,if_pos trivial,if_neg hne]
     rw [hrd];have hbeq:(b==c)=false:=by simpa using hbc
     by_cases hlast:xl+1=(n.2.2.2.2.2.2.length:Int)
     ·refine ⟨([],false),.inr (.inl ⟨rfl,zi (by show _≤xl+1;omega) (by show xl+1≤_;omega),_,rfl,fun _=>⟨b,hb2,by rw [hbeq]⟩,fun h=>?_⟩),fun _=>rfl,fun h=>by simp at h⟩;simp at h;omega
     ·refine ⟨([(3,xi,xl+1,0)],false),.inr (.inl ⟨rfl,zi (by show _≤xl+1;omega) (by show xl+1≤_;omega),_,rfl,fun h=>?_,fun _=>⟨b,hb2,by rw [hbeq]⟩⟩),fun _=>rfl,fun h=>by simp at h⟩;simp at h;omega
   ·-- half a number
    have e1:zd6 gfmS x.1 none=zd6 gfmS 4 none:=by rw [h4]
    rw [e1];have hrd:zbc d (x::rest) c=([(1,n.2.1,0,0),(5,0,256*x.2.2.1+c,0)]++(zdu rest).1,true):=by
     unfold zbc;simp only [hn];rw [if_neg hb1,if_neg (by omega),if_pos h4]
    rw [hrd];exact ⟨([(1,n.2.1,0,0),(5,0,256*x.2.2.1+c,0)],true),.inr (.inr ⟨rfl,zi (by show _≤256*x.2.2.1;omega) (by show 256*x.2.2.1≤_;omega),zi (by show _≤256*x.2.2.1+c;omega) (by show 256*x.2.2.1+c≤_;omega),_,rfl,rfl⟩),fun h=>by simp at h,fun _=>⟨_,cat _ (by simp),rfl⟩⟩
theorem zqh {d:List SNode} (hd:ROk d) (hl:d.length≤1000) (ht:∀n∈d,n.2.2.2.2.2.2.length≤140737488351232) {s:List SItem} (hs:s.length≤1000) (hf:zds d s=true) (hr:rdy d s=true) {c:Int} (hc:InR .u8 c):zpl d s c (zbc d s c):=by
 cases s with
 | nil=>exact ⟨fun _=>rfl,fun h=>by simp at h⟩
 | cons x rest=>
  have hls:rest.length≤1000:=by simp at hs;omega
  have hcr:=zgy.1 hc;obtain ⟨n,hn,hm,hk⟩:=zhy hf hr;have htn:=ht n hm;have hlow:=zov hls (itR_all hd hl ht (zde hf).2);have hlen:=zq5 rest;refine ⟨fun h=>by simp at h;omega,fun _=>⟨⟨by omega,by simp;omega⟩,zdu rest,hlow,fun hb=>?_,fun hb=>⟨x,rfl,n,hn, ?_⟩⟩⟩
  ·simp only [Bool.not_eq_true'] at hb;unfold zbc;simp only;rw [if_pos hb]
  ·simp only [Bool.not_eq_false'] at hb;have hb1:¬ (zdu rest).2=false:=by rw [hb];simp
   rcases hk with ⟨h1,h2⟩ | ⟨h3,h4,h5,h6,h7⟩ | ⟨h4,h9,h6,h7⟩
   ·refine ⟨fun h=>by simp [h1] at h,fun _=>⟨fun h=>by simp [h1] at h,fun _=>?_⟩⟩;rcases h2 with h2 | h2 | h2
    ·refine ⟨fun h=>by simp [h2] at h,fun _=>⟨fun h=>by simp [h2] at h,fun _=>⟨_,ref01_Has_u8 hc,fun hh=>?_,fun hh=>⟨by simp;omega, ?_⟩⟩⟩⟩
     ·have hh':¬ n.2.2.2.2.2.1.has c.toNat=true:=by simpa using hh
      unfold zbc;simp only [hn];rw [if_neg hb1,if_neg (by omega),if_neg (by omega),if_neg (by omega),if_neg (by omega),if_neg hh']
     ·have hh':n.2.2.2.2.2.1.has c.toNat=true:=by simpa using hh
      unfold zbc;simp only [hn];rw [if_neg hb1,if_neg (by omega),if_neg (by omega),if_neg (by omega),if_neg (by omega),if_pos hh'];rfl
    ·refine ⟨fun _=>⟨by simp;omega, ?_⟩,fun h=>by simp [h2] at h⟩;unfold zbc;simp only [hn];rw [if_neg hb1,if_neg (by omega),if_neg (by omega),if_pos h2]
    ·refine ⟨fun h=>by simp [h2] at h,fun _=>⟨fun _=>⟨by simp;omega, ?_⟩,fun h=>by simp [h2] at h⟩⟩;unfold zbc;simp only [hn];rw [if_neg hb1,if_neg (by omega),if_neg (by omega),if_neg (by omega),if_pos h2]
   ·obtain ⟨b,hb2,_⟩:=zoh h6 h7;refine ⟨fun _=>⟨b,hb2,fun hbc=>?_,fun hbc=>⟨zi (by omega) (by omega),_,rfl,fun hl2=>⟨zi (by omega) (by omega),by simp;omega, ?_⟩,fun hl2=>⟨by simp;omega, ?_⟩⟩⟩,fun h=>by simp [h3] at h⟩
    ·have hne:¬ zd2 n.2.2.2.2.2.2 x.2.2.1=some c:=by rw [hb2];simpa using hbc
     unfold zbc;simp only [hn];rw [if_neg hb1,if_pos h3,if_neg hne]
    ·have he:zd2 n.2.2.2.2.2.2 x.2.2.1=some c:=by rw [hb2];simpa using hbc
     unfold zbc;simp only [hn];rw [if_neg hb1,if_pos h3,if_pos he,if_pos (dt hl2)]
    ·have he:zd2 n.2.2.2.2.2.2 x.2.2.1=some c:=by rw [hb2];simpa using hbc
     unfold zbc;simp only [hn];rw [if_neg hb1,if_pos h3,if_pos he,if_neg (df hl2)]
   ·refine ⟨fun h=>by simp [h4] at h,fun _=>⟨fun _=>⟨zi (by omega) (by omega),zi (by omega) (by omega),by simp;omega, ?_⟩,fun h=>by simp [h4] at h⟩⟩;unfold zbc;simp only [hn];rw [if_neg hb1,if_neg (by omega),if_pos h4]
def zk7 (c:Int) (n:SNode):SNode:=(n.1,if 4≤n.1 then n.2.1+c else n.2.1,if n.1=4∨n.1=5 then n.2.2.1+c else n.2.2.1,n.2.2.2.1,n.2.2.2.2.1,n.2.2.2.2.2.1,n.2.2.2.2.2.2)
def zny (c:Int) (l:List SNode):List SNode:=l.map (zk7 c)
theorem zhz (c:Int) (l:List SNode):(zny c l).length=l.length:=List.length_map ..
theorem moved_in {l:List SNode} {c:Int} (hl:l.length≤1000) (hr:∀n∈l,InR .i64 (n.2.1+c)∧InR .i64 (n.2.2.1+c)):z6 l c (zny c l):=by
 refine zha (P:=fun k (o:List SNode) v=>z6.l1 l c _ k o v) l.length (fun i o=>o=zny c (l.take i)) ?_ ?_ [] (by simp [zny])
 ·rintro i o hi rfl;have hat:at? l (i:Int)=some l[i]:=by rw [zbv];simp [hi]
  obtain ⟨r1,r2⟩:=hr _ (List.getElem_mem hi);have e:zny c (l.take (i+1))=zny c (l.take i)++[zk7 c l[i]]:=by
   unfold zny;rw [List.take_succ_eq_append_getElem hi,List.map_append];rfl
  have hll:(zny c (l.take i)).length=i:=by rw [zhz];simp;omega
  refine .inr ⟨_,rfl,fun k hk=>⟨fun _=>⟨l[i],hat, ?_⟩,fun h=>absurd (by omega) (df h)⟩⟩;rw [e] at hk;have last:∀w:SNode,w=zk7 c l[i]→z6.j2 (z6.l1 l c (z6.j1 (zny c l)) k) (zny c (l.take i)) (i:Int) w:=by
   rintro w rfl;exact ⟨by rw [hll];simp;omega,zi (by omega) (by omega),hk⟩
  generalize l[i]=n at *;obtain ⟨k0,a,b,lo,hi2,cl,tx⟩:=n;simp only at r1 r2;refine ⟨fun h4=>⟨r1,fun h5=>⟨r2,last _ ?_⟩,fun h5=>last _ ?_⟩,fun h4=>⟨fun h5=>?_,fun h5=>last _ ?_⟩⟩
  ·have:=dt h4;simp only at this;simp only [Bool.or_eq_true,beq_iff_eq] at h5;simp only [zk7,if_pos this,if_pos h5]
  ·have:=dt h4;simp only at this;simp only [Bool.or_eq_false_iff,beq_eq_false_iff_ne] at h5;have h5':¬ (k0=4∨k0=5):=by omega
   simp only [zk7,if_pos this,if_neg h5']
  ·exfalso;have:=df h4;simp only at this;simp only [Bool.or_eq_true,beq_iff_eq] at h5;omega
  ·have:=df h4;simp only at this;have h5':¬ (k0=4∨k0=5):=by omega
   simp only [zk7,if_neg this,if_neg h5']
 ·rintro o rfl k;refine ⟨fun h=>absurd (dt h) (by omega),fun _=>?_⟩;show zny c l=zny c (l.take l.length);rw [List.take_length]
theorem movN_zero (n:SNode):zk7 0 n=n:=by
 obtain ⟨k,a,b,r⟩:=n;simp [zk7]
theorem movL_zero (l:List SNode):zny 0 l=l:=by
 unfold zny;rw [show zk7 0=id from funext movN_zero,List.map_id]
def zda (k:Int) (a b:List SNode):List SNode:=(a++zny (a.length:Int) b)++[(k,(a.length:Int)-1,((a.length:Int)+(b.length:Int))-1,0,0,(0#256),([]:Str))]
structure Sma (d:List SNode):Prop where
 a:∀n∈d,0≤n.2.1∧n.2.1≤(d.length:Int)
 b:∀n∈d,0≤n.2.2.1∧n.2.2.1≤(d.length:Int)
theorem Tr.parts {l:List SNode} {f i:Int} (h:Tr l f i) {n:SNode} (hn:at? l i=some n):(0≤n.2.1∧n.2.1≤i)∧(0≤n.2.2.1∧n.2.2.1≤i):=by
 have hb:=zbq hn;cases h with
 | leaf he hk hx h0=>rw [hn] at he;cases he;omega
 | one he hk ha hb hr h=>rw [hn] at he;cases he;have:=h.le;omega
 | two he hk ha hb h1 h2=>rw [hn] at he;cases he;have:=h1.le;have:=h2.le;omega
theorem mem_at {α:Type} {l:List α} {x:α} (h:x∈l):∃i:Int,at? l i=some x:=by
 obtain ⟨i,hi,e⟩:=List.mem_iff_getElem.1 h;exact ⟨(i:Int),by rw [zbv];simp [hi,e]⟩
theorem Tr.sma {d:List SNode} (h:Tr d 0 ((d.length:Int)-1)):Sma d:=by
 constructor
 all_goals
  intro n hn;obtain ⟨i,hi⟩:=mem_at hn;obtain ⟨g,hg⟩:=h.at hi;have:=hg.parts hi;have:=zbq hi;omega
theorem moved_ok {d:List SNode} (h:Tr d 0 ((d.length:Int)-1)) (hl:d.length≤1000) {c:Int} (h0:0≤c) (h1:c≤1000):z6 d c (zny c d):=
 moved_in hl fun n hn=>by
  have:=h.sma.a n hn;have:=h.sma.b n hn;exact ⟨zi (by omega) (by omega),zi (by omega) (by omega)⟩
theorem Pair_in {k:Int} {a b:List SNode} (ha:Tr a 0 ((a.length:Int)-1)) (hb:Tr b 0 ((b.length:Int)-1)) (la:a.length≤1000) (lb:b.length≤1000):zhf k a b (zda k a b):=by
 refine ⟨_,moved_ok ha la (Int.le_refl 0) (by omega),_,moved_ok hb lb (c:=(a.length:Int)) (by omega) (by omega),by rw [zhz,zhz];omega,zi (by omega) (by omega),zi (by omega) (by omega),zi (by omega) (by omega),by rw [List.length_append,zhz,zhz];simp;omega, ?_⟩;rw [movL_zero];rfl
structure Emb (l l':List SNode) (c:Int):Prop where
 nn:0≤c
 at':∀i n,at? l i=some n→at? l' (i+c)=some (zk7 c n)
theorem Tr.emb {l l':List SNode} {c:Int} (h:Emb l l' c) {f i:Int} (t:Tr l f i):Tr l' (f+c) (i+c):=by
 induction t with
 | leaf he hk hx h0=>
  rename_i i e
  have e1:zk7 c e=e:=by
   obtain ⟨k,a,b,r⟩:=e;simp only at hk;simp only [zk7,if_neg (show ¬ 4≤k by omega),if_neg (show ¬ (k=4∨k=5) by omega)]
  exact .leaf (e1 ▸ h.at' _ _ he) hk hx h0
 | one he hk ha hb hr t ih=>
  rename_i f i e
  refine .one (h.at' _ _ he) hk ?_ ?_ hr (by have e:i-1+c=i+c-1:=by omega
                                             rw [← e];exact ih)
  ·simp only [zk7];rw [if_pos (by omega)];omega
  ·simp only [zk7];rw [if_neg (by omega)];exact hb
 | two he hk ha hb t1 t2 i1 i2=>
  rename_i f p i e
  refine .two (p:=p+c) (h.at' _ _ he) hk ?_ ?_ (by have e:i-1+c=i+c-1:=by omega
                                                   rw [← e];exact i1) (by have e:p-1+c=p+c-1:=by omega
                                                                          rw [← e];exact i2)
  ·simp only [zk7];rw [if_pos (by omega)];omega
  ·simp only [zk7];rw [if_pos (by omega)];omega
theorem Emb.get {l l':List SNode} {c:Int} (h:Emb l l' c) {i:Int} {n:SNode} (hn:at? l i=some n):∃m,at? l' (i+c)=some m∧m.1=n.1∧(4≤n.1→m.2.1=n.2.1+c)∧(n.1=4∨n.1=5→m.2.2.1=n.2.2.1+c)∧m.2.2.2.1=n.2.2.2.1∧m.2.2.2.2.1=n.2.2.2.2.1:=
 ⟨zk7 c n,h.at' _ _ hn,rfl,fun h=>if_pos h,fun h=>if_pos h,rfl,rfl⟩
theorem nz_emb {l l':List SNode} {c:Int} (h:Emb l l' c) (hl:NOk l) (hl':NOk l'):∀(k:Nat) (i:Int) (n:SNode),i<(k:Int)→at? l i=some n→nz l' (i+c)=nz l i
 | 0,i,n,hi,hn=>by have:=zbq hn;omega
 | k+1,i,n,hi,hn=>by
  have ih:=nz_emb h hl hl' k;obtain ⟨m,hm,f1,f2,f3,f4,f5⟩:=h.get hn;rw [nz_atN hl hn,nz_atN hl' hm,f1,f4]
  by_cases h1:n.1=1
  ·rw [if_pos h1,if_pos h1]
  ·rw [if_neg h1,if_neg h1]
   by_cases h4:n.1=4
   ·obtain ⟨⟨a,b⟩,c',e⟩:=hl.two _ n hn (.inl h4);obtain ⟨m1,hm1⟩:=zdt hn a b;obtain ⟨m2,hm2⟩:=zdt hn c' e;rw [if_pos h4,if_pos h4,f2 (by omega),f3 (.inl h4),ih _ m1 (by omega) hm1,ih _ m2 (by omega) hm2]
   ·rw [if_neg h4,if_neg h4]
    by_cases h5:n.1=5
    ·obtain ⟨⟨a,b⟩,c',e⟩:=hl.two _ n hn (.inr h5);obtain ⟨m1,hm1⟩:=zdt hn a b;obtain ⟨m2,hm2⟩:=zdt hn c' e;rw [if_pos h5,if_pos h5,f2 (by omega),f3 (.inr h5),ih _ m1 (by omega) hm1,ih _ m2 (by omega) hm2]
    ·rw [if_neg h5,if_neg h5]
     by_cases h6:n.1=6
     ·rw [if_pos h6,if_pos h6]
     ·rw [if_neg h6,if_neg h6]
      by_cases h7:n.1=7
      ·obtain ⟨a,b⟩:=hl.one _ n hn (.inr (.inl h7));obtain ⟨m1,hm1⟩:=zdt hn a b;rw [if_pos h7,if_pos h7,f2 (by omega),ih _ m1 (by omega) hm1]
      ·rw [if_neg h7,if_neg h7]
def shI (c:Int) (x:SItem):SItem:=(x.1,x.2.1+c,x.2.2.1,x.2.2.2)
def shS (c:Int) (s:List SItem):List SItem:=s.map (shI c)
theorem zlo (c:Int) (L:List (List SItem)) (x:SItem):(L.map (shS c)).map (·++[shI c x])=(L.map (·++[x])).map (shS c):=by
 rw [List.map_map,List.map_map];exact List.map_congr_left fun s _=>by simp [shS]
theorem rep_sh (c:Int) (m:Nat) (L:List (List SItem)):(List.replicate m (L.map (shS c))).flatten=((List.replicate m L).flatten).map (shS c):=(rep_map _ _ _).symm
theorem PM_emb {l l':List SNode} {c:Int} (h:Emb l l' c) (hl:ROk l) (hl':ROk l'):∀(k:Nat) (i:Int) (n:SNode),i<(k:Int)→at? l i=some n→pm l' (i+c)=(pm l i).map (shS c)∧nw l' (i+c)=nw l i
 | 0,i,n,hi,hn=>by have:=zbq hn;omega
 | k+1,i,n,hi,hn=>by
  have ih:=PM_emb h hl hl' k;have e1:pm l i=(PM l l.length i).1:=rfl;have e2:nw l i=(PM l l.length i).2:=rfl;have e3:pm l' (i+c)=(PM l' l'.length (i+c)).1:=rfl;have e4:nw l' (i+c)=(PM l' l'.length (i+c)).2:=rfl;obtain ⟨m,hm,f1,f2,f3,f4,f5⟩:=h.get hn;rw [e1,e2,e3,e4,zk6 hl hn,zk6 hl' hm,f1,f4,f5]
  by_cases h1:n.1=1
  ·rw [if_pos h1,if_pos h1];exact ⟨rfl,rfl⟩
  ·by_cases h3:n.1=3
   ·rw [if_neg h1,if_neg h1,if_pos h3,if_pos h3];exact ⟨rfl,rfl⟩
   ·by_cases h4:n.1=4
    ·obtain ⟨⟨a,b⟩,c',e⟩:=hl.two _ n hn (.inl h4);obtain ⟨m1,hm1⟩:=zdt hn a b;obtain ⟨m2,hm2⟩:=zdt hn c' e;obtain ⟨p1,q1⟩:=ih _ m1 (by omega) hm1;obtain ⟨p2,q2⟩:=ih _ m2 (by omega) hm2;have hx:((1:Int),n.2.2.1+c,(0:Int),(0:Int))=shI c (1,n.2.2.1,0,0):=rfl;rw [f2 (by omega),f3 (.inl h4)];rw [if_neg h1,if_neg h3,if_pos h4,if_neg h1,if_neg h3,if_pos h4];refine ⟨?_,by simp only;rw [q1,q2]⟩;simp only;rw [p1,p2,q1,hx,zlo,rep_sh,List.map_append]
    ·by_cases h5:n.1=5
     ·obtain ⟨⟨a,b⟩,c',e⟩:=hl.two _ n hn (.inr h5);obtain ⟨m1,hm1⟩:=zdt hn a b;obtain ⟨m2,hm2⟩:=zdt hn c' e;obtain ⟨p1,q1⟩:=ih _ m1 (by omega) hm1;obtain ⟨p2,q2⟩:=ih _ m2 (by omega) hm2;rw [f2 (by omega),f3 (.inr h5)];rw [if_neg h1,if_neg h3,if_neg h4,if_pos h5,if_neg h1,if_neg h3,if_neg h4,if_pos h5];refine ⟨?_,by simp only;rw [q1,q2]⟩;simp only;rw [p1,p2,List.map_append]
     ·by_cases h6:n.1=6
      ·obtain ⟨a,b⟩:=hl.one _ n hn (.inl h6);obtain ⟨m1,hm1⟩:=zdt hn a b;obtain ⟨p1,q1⟩:=ih _ m1 (by omega) hm1;have hx:((1:Int),i+c,(0:Int),(0:Int))=shI c (1,i,0,0):=rfl;rw [f2 (by omega)];rw [if_neg h1,if_neg h3,if_neg h4,if_neg h5,if_pos h6,if_neg h1,if_neg h3,if_neg h4,if_neg h5,if_pos h6];refine ⟨?_,rfl⟩;simp only;rw [p1,hx,zlo]
      ·by_cases h7:n.1=7
       ·obtain ⟨a,b⟩:=hl.one _ n hn (.inr (.inl h7));obtain ⟨m1,hm1⟩:=zdt hn a b;obtain ⟨p1,q1⟩:=ih _ m1 (by omega) hm1;have hx:((2:Int),i+c,max (n.2.2.2.1-1) 0,n.2.2.2.2.1-1)=shI c (2,i,max (n.2.2.2.1-1) 0,n.2.2.2.2.1-1):=rfl;rw [f2 (by omega)];rw [if_neg h1,if_neg h3,if_neg h4,if_neg h5,if_neg h6,if_pos h7,if_neg h1,if_neg h3,if_neg h4,if_neg h5,if_neg h6,if_pos h7];refine ⟨?_,rfl⟩;simp only;split
        ·rw [p1,hx,zlo]
        ·rfl
       ·rw [if_neg h1,if_neg h3,if_neg h4,if_neg h5,if_neg h6,if_neg h7,if_neg h1,if_neg h3,if_neg h4,if_neg h5,if_neg h6,if_neg h7];exact ⟨rfl,rfl⟩
theorem PM_rng {d:List SNode} (hd:ROk d):∀(k:Nat) (i:Int),i<(k:Int)→∀p∈pm d i,∃x q,p=x::q∧0≤x.2.1∧x.2.1<(d.length:Int)
 | 0,i,hi,p,hp=>by
  have:at? d i=none:=at_none (.inl (by omega));unfold pm at hp;rw [zh6 hd d.length 0 i] at hp
  ·simp [PM] at hp
  ·omega
  ·omega
 | k+1,i,hi,p,hp=>by
  have ih:=PM_rng hd k;cases hn:at? d i with
  | none=>
   exfalso;unfold pm at hp;cases hdl:d.length with
   | zero=>rw [hdl] at hp;simp [PM] at hp
   | succ m=>rw [hdl] at hp;simp [PM,hn] at hp
  | some n=>
   have hb:=zbq hn;have e1:pm d i=(PM d d.length i).1:=rfl;rw [e1,zk6 hd hn] at hp;have app:∀(a:Int) (y:SItem),a<i→p∈(pm d a).map (·++[y])→∃x q,p=x::q∧0≤x.2.1∧x.2.1<(d.length:Int):=by
    intro a y ha h;obtain ⟨q,hq,rfl⟩:=List.mem_map.1 h;obtain ⟨x,q',rfl,h1,h2⟩:=ih a (by omega) q hq;exact ⟨x,q'++[y],rfl,h1,h2⟩
   by_cases h1:n.1=1
   ·simp [h1] at hp
   ·by_cases h3:n.1=3
    ·simp [h3] at hp;subst hp;exact ⟨_,_,rfl,hb⟩
    ·by_cases h4:n.1=4
     ·obtain ⟨⟨a,b⟩,c',e⟩:=hd.two _ n hn (.inl h4);rw [if_neg h1,if_neg h3,if_pos h4] at hp;rcases List.mem_append.1 hp with hp | hp
      ·exact app _ _ b hp
      ·obtain ⟨l,hl,hp⟩:=List.mem_flatten.1 hp;rw [List.mem_replicate.1 hl |>.2] at hp;exact ih _ (by omega) p hp
     ·by_cases h5:n.1=5
      ·obtain ⟨⟨a,b⟩,c',e⟩:=hd.two _ n hn (.inr h5);rw [if_neg h1,if_neg h3,if_neg h4,if_pos h5] at hp;rcases List.mem_append.1 hp with hp | hp
       ·exact ih _ (by omega) p hp
       ·exact ih _ (by omega) p hp
      ·by_cases h6:n.1=6
       ·obtain ⟨a,b⟩:=hd.one _ n hn (.inl h6);rw [if_neg h1,if_neg h3,if_neg h4,if_neg h5,if_pos h6] at hp;exact app _ _ b hp
       ·by_cases h7:n.1=7
        ·obtain ⟨a,b⟩:=hd.one _ n hn (.inr (.inl h7));rw [if_neg h1,if_neg h3,if_neg h4,if_neg h5,if_neg h6,if_pos h7] at hp;simp only at hp;split at hp
         ·exact app _ _ b hp
         ·cases hp
        ·rw [if_neg h1,if_neg h3,if_neg h4,if_neg h5,if_neg h6,if_neg h7] at hp;rw [List.mem_singleton] at hp;subst hp;exact ⟨_,_,rfl,hb⟩
theorem at_left {α:Type} {a b:List α} {i:Int} {x:α} (h:at? a i=some x):at? (a++b) i=some x:=by
 obtain ⟨k,rfl,hk⟩:=zok h;rw [zbv,List.getElem?_append_left (List.getElem?_eq_some_iff.1 hk).1];exact hk
theorem at_right {α:Type} {a b:List α} {i:Int} {x:α} (h:at? b i=some x):at? (a++b) (i+(a.length:Int))=some x:=by
 obtain ⟨k,rfl,hk⟩:=zok h;have e:(k:Int)+(a.length:Int)=((k+a.length:Nat):Int):=by omega
 rw [e,zbv,List.getElem?_append_right (by omega),Nat.add_sub_cancel];exact hk
theorem at_app {α:Type} {a b:List α} {i:Int} {x:α} (h:at? (a++b) i=some x):at? a i=some x∨at? b (i-(a.length:Int))=some x:=by
 obtain ⟨k,rfl,hk⟩:=zok h;rcases Nat.lt_or_ge k a.length with hlt | hge
 ·rw [List.getElem?_append_left hlt] at hk;exact .inl (by rw [zbv];exact hk)
 ·rw [List.getElem?_append_right hge] at hk;have e:(k:Int)-(a.length:Int)=((k-a.length:Nat):Int):=by omega
  exact .inr (by rw [e,zbv];exact hk)
theorem at_one {α:Type} {x y:α} {i:Int} (h:at? [x] i=some y):i=0∧y=x:=by
 have hb:=zbq h;simp at hb;obtain rfl:i=0:=by omega
 cases h;exact ⟨rfl,rfl⟩
theorem at_movL {c:Int} {l:List SNode} {i:Int} {n:SNode} (h:at? l i=some n):at? (zny c l) i=some (zk7 c n):=by
 obtain ⟨k,rfl,hk⟩:=zok h;rw [zbv];unfold zny;rw [List.getElem?_map,hk];rfl
theorem at_movL_inv {c:Int} {l:List SNode} {i:Int} {n:SNode} (h:at? (zny c l) i=some n):∃m,at? l i=some m∧n=zk7 c m:=by
 obtain ⟨k,rfl,hk⟩:=zok h;unfold zny at hk;rw [List.getElem?_map] at hk;obtain ⟨m,h1,h2⟩:=Option.map_eq_some_iff.1 hk;exact ⟨m,by rw [zbv];exact h1,h2.symm⟩
theorem emb_left {a:List SNode} (r:List SNode):Emb a (a++r) 0:=⟨Int.le_refl _,fun i n h=>by rw [movN_zero,Int.add_zero];exact at_left h⟩
theorem emb_mid {a b r:List SNode}:Emb b ((a++zny (a.length:Int) b)++r) (a.length:Int):=⟨by omega,fun i n h=>at_left (at_right (at_movL h))⟩
theorem zi8 (k:Int) (a b:List SNode):(zda k a b).length=a.length+b.length+1:=by simp [zda,zhz];omega
theorem znq (k:Int) (a b:List SNode):at? (zda k a b) ((a.length:Int)+(b.length:Int))=some (k,(a.length:Int)-1,((a.length:Int)+(b.length:Int))-1,0,0,(0#256),([]:Str)):=by
 have:=at_right (a:=a++zny (a.length:Int) b) (b:=[(k,(a.length:Int)-1,((a.length:Int)+(b.length:Int))-1,0,0,(0#256),([]:Str))]) (i:=0) rfl;rw [List.length_append,zhz] at this;have e:(0:Int)+((a.length+b.length:Nat):Int)=(a.length:Int)+(b.length:Int):=by omega
 rw [e] at this;exact this
theorem znp {k:Int} {a b:List SNode} (ha:Rt a) (hb:Rt b) (hk:k=4∨k=5):Rt (zda k a b):=by
 have ea:Emb a (zda k a b) 0:=by unfold zda;rw [List.append_assoc];exact emb_left _
 have eb:Emb b (zda k a b) (a.length:Int):=emb_mid;have ta:=ha.tr.emb ea;have tb:=hb.tr.emb eb;have tr:Tr (zda k a b) 0 (((zda k a b).length:Int)-1):=by
  have e:(((zda k a b).length:Int)-1)=(a.length:Int)+(b.length:Int):=by rw [zi8];omega
  rw [e];refine .two (p:=(a.length:Int)) (znq k a b) hk rfl rfl ?_ ?_
  ·have e1:(b.length:Int)-1+(a.length:Int)=(a.length:Int)+(b.length:Int)-1:=by omega
   rw [e1,Int.zero_add] at tb;exact tb
  ·rw [Int.add_zero,Int.add_zero] at ta;exact ta
 have nk:=tr.nok;refine ⟨⟨nk.two,nk.one,nk.rep,nk.kind,nk.ntx,fun i n hn h67=>?_⟩,tr⟩;unfold zda at hn;rcases at_app hn with hn | hn
 ·rcases at_app hn with hn | hn
  ·obtain ⟨p,q⟩:=ha.one _ n hn (by omega);obtain ⟨m,hm⟩:=zdt hn p q;have:=nz_emb ea ha.nok nk a.length _ m (by have:=zbq hm;omega) hm;rw [Int.add_zero] at this;rw [this];exact ha.nn _ n hn h67
  ·obtain ⟨m0,hm0,rfl⟩:=at_movL_inv hn;have hk0:m0.1=6∨m0.1=7:=h67;obtain ⟨p,q⟩:=hb.one _ m0 hm0 (by omega);obtain ⟨m,hm⟩:=zdt hm0 p q;have:=nz_emb eb hb.nok nk b.length _ m (by have:=zbq hm;omega) hm;simp only [zk7];rw [if_pos (by omega),this];exact hb.nn _ m0 hm0 hk0
 ·obtain ⟨_,rfl⟩:=at_one hn;simp only at h67;omega
def zc5 (F:List SItem→Nat) (L:List (List SItem)):Nat:=(L.map F).sum
theorem zfj (F:List SItem→Nat) (A B:List (List SItem)):zc5 F (A++B)=zc5 F A+zc5 F B:=by unfold zc5;rw [List.map_append,List.sum_append]
theorem zi1 (F:List SItem→Nat) (m:Nat) (L:List (List SItem)):zc5 F (List.replicate m L).flatten=m*zc5 F L:=by
 induction m with
 | zero=>simp [zc5]
 | succ m ih=>rw [List.replicate_succ,List.flatten_cons,zfj,ih,Nat.succ_mul,Nat.add_comm]
theorem zfi (F:List SItem→Nat) (g:List SItem→List SItem) (L:List (List SItem)):zc5 F (L.map g)=zc5 (fun t=>F (g t)) L:=by unfold zc5;rw [List.map_map];rfl
theorem zi2 {F G:List SItem→Nat} {L:List (List SItem)} (h:∀t∈L,F t=G t):zc5 F L=zc5 G L:=by unfold zc5;rw [List.map_congr_left h]
theorem zhb (L:List (List SItem)):L.count []=zc5 (fun t=>if t=[] then 1 else 0) L:=by
 induction L with
 | nil=>rfl
 | cons t L ih=>
  rw [List.count_cons,ih];unfold zc5;rw [List.map_cons,List.sum_cons]
  by_cases h:t=[]
  ·simp [h];omega
  ·simp [h]
theorem pmI_ne {d:List SNode} (hd:ROk d) (x:SItem):∀p∈pmI d x,p≠[]:=by
 intro p hp e;subst e;have k1:∀i,[] ∉ pm d i:=fun i h=>by
  obtain ⟨y,q,e,_⟩:=PM_rng hd (i.toNat+1) i (by omega) _ h;cases e
 unfold pmI at hp;split at hp
 ·exact k1 _ hp
 ·split at hp
  ·split at hp
   ·split at hp
    ·obtain ⟨q,_,e⟩:=List.mem_map.1 hp;simp at e
    ·cases hp
   ·cases hp
  ·split at hp
   ·cases hp
   ·simp at hp
theorem hds_app {d:List SNode} (hd:ROk d) (F:List SItem→Nat) (r:List SItem):∀s,zc5 F (hds d (s++r))=zc5 (fun t=>if t=[] then zc5 F (hds d r) else F (t++r)) (hds d s)
 | []=>by simp [hds,zc5]
 | x::s=>by
  have ih:=hds_app hd F r s;simp only [List.cons_append,hds];rw [zfj,zfj,zi1,zi1,zfi,zfi,ih]
  congr 1
  refine zi2 fun p hp=>?_;rw [if_neg (by have:=pmI_ne hd x p hp;simp [this]),List.append_assoc]
theorem lowF_app (s r:List SItem):zdu (s++r)=if (zdu s).2=true∧(zdu r).2=true then ((zdu s).1++(zdu r).1,true) else ([],false):=by
 unfold zdu;rw [List.any_append,List.map_append];cases s.any badI <;> cases r.any badI <;> simp
theorem readF_app {d:List SNode} {t:List SItem} (ht:t≠[]) (r:List SItem) (c:Int):zbc d (t++r) c=if (zbc d t c).2=true∧(zdu r).2=true then ((zbc d t c).1++(zdu r).1,true) else ([],false):=by
 cases t with
 | nil=>exact absurd rfl ht
 | cons x rest=>
  have hl:=lowF_app rest r;cases h1:(zdu rest).2
  ·have e1:zbc d (x::rest) c=([],false):=by unfold zbc;simp only;rw [if_pos h1]
   have e2:(zdu (rest++r)).2=false:=by rw [hl,h1];simp
   rw [e1];rw [List.cons_append];unfold zbc;simp only;rw [if_pos e2];simp
  ·cases h2:(zdu r).2
   ·have e2:(zdu (rest++r)).2=false:=by rw [hl,h2];simp
    rw [List.cons_append];have e3:zbc d (x::(rest++r)) c=([],false):=by unfold zbc;simp only;rw [if_pos e2]
    rw [e3,if_neg (by simp)]
   ·have e2:zdu (rest++r)=((zdu rest).1++(zdu r).1,true):=by rw [hl,h1,h2];simp
    rw [List.cons_append];unfold zbc;simp only [e2];rw [if_neg (show ¬ true=false by simp),if_neg (show ¬ (zdu rest).2=false by rw [h1];simp)];cases hn:at? d x.2.1 with
    | none=>simp
    | some n=>
     simp only
     by_cases h3:x.1=3
     ·rw [if_pos h3,if_pos h3];split
      ·simp
      ·simp
     ·rw [if_neg h3,if_neg h3]
      by_cases h4:x.1=4
      ·rw [if_pos h4,if_pos h4];simp
      ·rw [if_neg h4,if_neg h4]
       by_cases h8:n.1=8
       ·rw [if_pos h8,if_pos h8];simp
       ·rw [if_neg h8,if_neg h8]
        by_cases h9:n.1=9
        ·rw [if_pos h9,if_pos h9];simp
        ·rw [if_neg h9,if_neg h9]
         by_cases hh:n.2.2.2.2.2.1.has c.toNat=true
         ·rw [if_pos hh,if_pos hh];simp
         ·rw [if_neg hh,if_neg hh];simp
def wyn (d:List SNode):List Int→List SItem→Nat
 | [],s=>(hds d s).count []
 | c::w,s=>zc5 (fun t=>if (zbc d t c).2=true then wyn d w (zbc d t c).1 else 0) (hds d s)
def lows:Nat→List SItem→Option (List SItem)
 | 0,s=>some s
 | p+1,s=>if (zdu s).2=true then lows p (zdu s).1 else none
def znt (d:List SNode) (i:Int) (w:List Int):Nat:=wyn d w [(1,i,0,0)]
theorem wyn_two {d:List SNode} {s s1 s2:List SItem} (h:∀F,zc5 F (hds d s)=zc5 F (hds d s1)+zc5 F (hds d s2)) (w:List Int):wyn d w s=wyn d w s1+wyn d w s2:=by
 cases w with
 | nil=>simp only [wyn];rw [zhb,zhb,zhb,h]
 | cons c w=>simp only [wyn];rw [h]
theorem zps (d:List SNode) (r:Int):hds d [(1,r,0,0)]=pm d r++(List.replicate (nw d r) [[]]).flatten:=by
 have e1:pmI d (1,r,0,0)=pm d r:=rfl;have e2:nwI d (1,r,0,0)=nw d r:=rfl;simp only [hds,e1,e2,List.append_nil];rw [List.map_id']
theorem zes (d:List SNode) (F:List SItem→Nat) (i:Int):zc5 F (hds d [(1,i,0,0)])=zc5 F (pm d i)+nw d i*F []:=by
 have e1:pmI d (1,i,0,0)=pm d i:=rfl;have e2:nwI d (1,i,0,0)=nw d i:=rfl;simp only [hds,e1,e2,List.append_nil];rw [List.map_id',zfj,zi1];simp [zc5]
theorem zm5 (d:List SNode) (F:List SItem→Nat) (i:Int) (r:List SItem):zc5 F (hds d ((1,i,0,0)::r))=zc5 (fun p=>F (p++r)) (pm d i)+nw d i*zc5 F (hds d r):=by
 have e1:pmI d (1,i,0,0)=pm d i:=rfl;have e2:nwI d (1,i,0,0)=nw d i:=rfl;simp only [hds,e1,e2];rw [zfj,zi1,zfi]
theorem zq0 {d:List SNode} (hd:ROk d) {i:Int} {n:SNode} (hn:at? d i=some n) (h:n.1=6∨n.1=7):nw d n.2.1=0:=by
 obtain ⟨p,q⟩:=hd.one _ n hn (by omega);obtain ⟨m,hm⟩:=zdt hn p q;have:=zj2 hd (n.2.1.toNat+1) _ m (by omega) hm;rw [hd.nn _ n hn h] at this;rcases Nat.eq_zero_or_pos (nw d n.2.1) with h0 | h0
 ·exact h0
 ·have:=this.1 (by omega);cases this
def zru (s:List SItem):Prop:=∀x∈s,x.1≠5
theorem lowF_plain {s:List SItem} (h:zru s):zdu s=(s,true):=by
 unfold zdu;have h1:s.any badI=false:=by
  rw [List.any_eq_false];intro x hx;simp [badI,h x hx]
 rw [h1];simp only [Bool.false_eq_true,if_false,Prod.mk.injEq,and_true];have:∀x∈s,zig x=id x:=fun x hx=>by unfold zig;rw [if_neg (h x hx)];rfl
 rw [List.map_congr_left this,List.map_id]
theorem zfg {s:List SItem} (h:zru s):∀p,lows p s=some s
 | 0=>rfl
 | p+1=>by
  unfold lows;rw [lowF_plain h];simp only [if_true];exact zfg h p
section
variable {d : List SNode} (hd : ROk d) {i : Int} {n : SNode} (hn : at? d i = some n)
include hd hn
theorem node_or (h:n.1=5) (w:List Int):znt d i w=znt d n.2.1 w+znt d n.2.2.1 w:=by
 have e:=zk6 hd hn;rw [if_neg (by omega),if_neg (by omega),if_neg (by omega),if_pos h] at e;have e1:pm d i=pm d n.2.1++pm d n.2.2.1:=by
  have:pm d i=(PM d d.length i).1:=rfl;rw [this,e]
 have e2:nw d i=nw d n.2.1+nw d n.2.2.1:=by
  have:nw d i=(PM d d.length i).2:=rfl;rw [this,e]
 unfold znt;refine wyn_two (fun F=>?_) w;rw [zes,zes,zes,e1,e2,zfj,Nat.add_mul];omega
theorem zqt (h:n.1=2∨n.1=8∨n.1=9):pm d i=[[(1,i,0,0)]]∧nw d i=0:=by
 have e:=zk6 hd hn;rw [if_neg (by omega),if_neg (by omega),if_neg (by omega),if_neg (by omega),if_neg (by omega),if_neg (by omega)] at e;have h1:pm d i=(PM d d.length i).1:=rfl;have h2:nw d i=(PM d d.length i).2:=rfl;rw [h1,h2,e];exact ⟨rfl,rfl⟩
end
end Go.Proofs.YtkbboemafklkkaaGreatDoor.V
namespace Go.Proofs.YtkbboemafklkkaaGreatDoor.V
open Go
set_option linter.unusedVariables false
theorem lows_end (m:Int) (hm:0≤m):∀p:Nat,lows p [(5,0,m,0)]=if (p:Int)≤m then some [(5,0,m-p,0)] else none:=by
 intro p
 induction p generalizing m with
 | zero=>simp [lows,hm]
 | succ p ih=>
  unfold lows
  by_cases h0:m≤0
  ·have e:zdu [(5,0,m,0)]=([],false):=by simp [zdu,badI,h0]
   rw [e,if_neg (by simp),if_neg (by omega)]
  ·have e:zdu [(5,0,m,0)]=([(5,0,m-1,0)],true):=by simp [zdu,badI,zig,h0]
   rw [e];simp only [if_true];rw [ih (m-1) (by omega)]
   by_cases h1:((p+1:Nat):Int)≤m
   ·rw [if_pos (by omega),if_pos h1]
    congr 3
    simp;omega
   ·rw [if_neg (by omega),if_neg h1]
section
variable {d : List SNode} (hd : ROk d)
include hd
variable {i : Int} {n : SNode} (hn : at? d i = some n)
include hn
end
end Go.Proofs.YtkbboemafklkkaaGreatDoor.V
namespace Go.Proofs.YtkbboemafklkkaaGreatDoor.V
open Go
set_option linter.unusedVariables false
theorem heads_few {d:List SNode} {s:List SItem} (h:Sm d s) {B:List SBranch} (hB:Can (fun t=>(hds d s).count t) B):B.length≤10001:=by
 have h0:=zro hB (U:=CS d s) fun t ht=>hds_CS d s t (List.count_pos_iff.1 (by omega));have h1:=CS_few h.rt s;have h3:=h.slen;have h4:s.length*(d.length+1)≤400*25:=Nat.mul_le_mul h3 (by have:=h.len;omega);omega
theorem heads_ok {d:List SNode} {s:List SItem} (h:Sm d s) {t:List SItem} (ht:(hds d s).count t≠0):t.length≤424∧rdy d t=true∧zds d t=true:=by
 obtain ⟨L,⟨k,hk⟩,hp⟩:=zpt h.rt.toROk s h.form;have hm:t∈L:=hp.mem_iff.2 (List.count_pos_iff.1 (by omega));obtain ⟨h1,h2⟩:=lv_vs h.rt.toROk (n0:=400) k s L hk (Vs.start h.form h.slen) t hm;have:=h1.len;have:=h.len;exact ⟨by omega,h2,h1.form⟩
def fB (d:List SNode) (c:Int) (B:List SBranch) (u:List SItem):Nat:=(B.map fun b=>if (zbc d b.1 c).2=true∧(zbc d b.1 c).1=u then b.2.toNat else 0).sum
theorem fB_snoc (d:List SNode) (c:Int) (B:List SBranch) (b:SBranch) (u:List SItem):fB d c (B++[b]) u=fB d c B u+if (zbc d b.1 c).2=true∧(zbc d b.1 c).1=u then b.2.toNat else 0:=by
 simp [fB]
theorem fB_pos {d:List SNode} {c:Int} {B:List SBranch} {u:List SItem} (h:fB d c B u≠0):∃b∈B,(zbc d b.1 c).2=true∧(zbc d b.1 c).1=u:=by
 induction B with
 | nil=>simp [fB] at h
 | cons b B ih=>
  by_cases hb:(zbc d b.1 c).2=true∧(zbc d b.1 c).1=u
  ·exact ⟨b,by simp,hb⟩
  ·have e:fB d c (b::B) u=fB d c B u:=by
    unfold fB;rw [List.map_cons,List.sum_cons,if_neg hb,Nat.zero_add]
   rw [e] at h;obtain ⟨b',h1,h2⟩:=ih h;exact ⟨b',by simp [h1],h2⟩
structure HOk (d:List SNode) (B:List SBranch):Prop where
 few:B.length≤10001
 ok:∀b∈B,b.1.length≤424∧rdy d b.1=true∧zds d b.1=true
 many:∀b∈B,1≤b.2∧b.2≤2
theorem Sm.hok {d:List SNode} {s:List SItem} (h:Sm d s) {B:List SBranch} (hB:Can (fun t=>(hds d s).count t) B):HOk d B:=
 ⟨heads_few h hB,fun b hb=>heads_ok h (hB.many hb).2.1,fun b hb=>(hB.many hb).2.2⟩
theorem fB_read {d:List SNode} {c:Int} {B:List SBranch} (h:HOk d B) {u:List SItem} (hu:fB d c B u≠0):u.length≤425:=by
 obtain ⟨b,hb,_,rfl⟩:=fB_pos hu;have:=zkg d b.1 c;have:=(h.ok b hb).1;omega
theorem onB_len {d:List SNode} {c:Int} {B:List SBranch} {R:List SBranch} (hR:Can (fB d c B) R):R.length≤B.length:=by
 have:=zro hR (U:=B.map fun b=>(zbc d b.1 c).1) fun u hu=>by
  obtain ⟨b,hb,_,e⟩:=fB_pos hu;exact List.mem_map.2 ⟨b,hb,e⟩
 simpa using this
theorem HOk.take {d:List SNode} {B:List SBranch} (h:HOk d B) (i:Nat):HOk d (B.take i):=
 ⟨by have:=h.few;rw [List.length_take];omega,fun b hb=>h.ok b (List.mem_of_mem_take hb),fun b hb=>h.many b (List.mem_of_mem_take hb)⟩
section
variable {d : List SNode} (hd : ROk d) (hl : d.length ≤ 1000) (ht : ∀ n ∈ d,n.2.2.2.2.2.2.length ≤ 140737488351232) {c : Int} (hc : InR .u8 c) {B : List SBranch} (hB : HOk d B)
include hd hl ht hc hB
theorem ref15_On_l:∃R,(∃k,zem.l1 d c B (zem.j1 R) k [] 0)∧Can (fB d c B) R:=by
 have key:∀(m i:Nat) (out:List SBranch),i+m=B.length→Can (fB d c (B.take i)) out→∃(R:List SBranch) (k:Nat),zem.l1 d c B (zem.j1 R) k out (i:Int)∧Can (fB d c B) R:=by
  intro m
  induction m with
  | zero=>
   intro i out hi ho;rw [List.take_of_length_le (by omega)] at ho;exact ⟨out,1,⟨fun h=>absurd (dt h) (by omega),fun _=>rfl⟩,ho⟩
  | succ m ih=>
   intro i out hi ho;have hil:i<B.length:=by omega
   have hat:at? B (i:Int)=some B[i]:=by rw [zbv];simp [hil]
   have hbm:=List.getElem_mem hil;obtain ⟨b1,b2,b3⟩:=hB.ok _ hbm;obtain ⟨m1,m2⟩:=hB.many _ hbm;have hrd:=zqh hd hl ht (by omega) b3 b2 hc;have e:=fB_snoc d c (B.take i) B[i];rw [← List.take_succ_eq_append_getElem hil] at e;have hfew:=hB.few;cases hr:(zbc d B[i].1 c).2
   ·obtain ⟨R,k,hk1,hk2⟩:=ih (i+1) out (by omega) (ho.congr fun t=>by rw [e,hr];simp);exact ⟨R,k+1,⟨fun _=>⟨_,hat,_,hrd,(fun h=>by rw [hr] at h;cases h),fun _=>⟨zi (by omega) (by omega),hk1⟩⟩,fun h=>absurd (by omega) (df h)⟩,hk2⟩
   ·have hn:(B[i].2.toNat:Nat)≠0:=by omega
    have hsat:sat B[i].2.toNat=B[i].2:=by unfold sat;omega
    have hadd:=ho.add (zbc d B[i].1 c).1 hn;rw [hsat] at hadd;have hol:=onB_len ho;have hbo:BrOk out:=ho.brok fun t ht=>by have:=fB_read (hB.take i) ht;omega
    have hrl:=zkg d B[i].1 c;obtain ⟨R,k,hk1,hk2⟩:=ih (i+1) (zmc (zbc d B[i].1 c).1 B[i].2 out) (by omega) (hadd.congr fun t=>by
     rw [e,hr];simp only [true_and,eq_comm])
    exact ⟨R,k+1,⟨fun _=>⟨_,hat,_,hrd,fun _=>⟨_,hat,_,zl3 ho.srt hbo (by rw [List.length_take] at hol;omega) (by omega) ⟨by omega,by omega⟩,zi (by omega) (by omega),hk1⟩,(fun h=>by rw [hr] at h;cases h)⟩,fun h=>absurd (by omega) (df h)⟩,hk2⟩
 obtain ⟨R,k,h1,h2⟩:=key B.length 0 [] (by omega) (Can.nil.congr fun t=>by simp [fB]);exact ⟨R,⟨k,h1⟩,h2⟩
structure MapN (f:List SItem→Nat) (m:List (Str × Int)):Prop where
 kn:KN m
 mem:∀k v,(k,v)∈m↔∃u,k=keyS u∧f u≠0∧v=sat (f u)
omit hd hl ht hc hB in
theorem MapN.get {f:List SItem→Nat} {m} (h:MapN f m) (u:List SItem):zd6 m (keyS u) (0:Int)=sat (f u):=by
 by_cases hu:f u=0
 ·rw [zhi fun p hp e=>?_]
  ·rw [hu];rfl
  ·obtain ⟨k,v⟩:=p
   obtain ⟨w,h1,h2,_⟩:=(h.mem k v).1 hp
   simp only at e
   rw [e] at h1
   rw [zf4.1 h1] at hu
   exact h2 hu
 ·have hm:=(h.mem (keyS u) (sat (f u))).2 ⟨u,rfl,hu,rfl⟩
  exact zmq h.kn hm (0:Int)
omit hd hl ht hc hB in
theorem MapN.put {f:List SItem→Nat} {m} (h:MapN f m) (u:List SItem) {n:Nat} (hn:n≠0) {v:Int} (hv:v=sat (f u+n)):MapN (fun t=>f t+if t=u then n else 0) (zfv m (keyS u) v):=by
 refine ⟨mput_kn h.kn _ _,fun k w=>?_⟩
 rw [zq2,h.mem,Prod.mk.injEq]
 constructor
 ·rintro (⟨h1,h2⟩ | ⟨h1,u',h2,h3,h4⟩)
  ·exact ⟨u,h1,by simp;omega,by rw [h2,hv];simp⟩
  ·have hne:u'≠u:=fun e=>h1 (by rw [h2,e])
   exact ⟨u',h2,by simp [hne,h3],by rw [h4];simp [hne]⟩
 ·rintro ⟨u',h1,h2,h3⟩
  by_cases e:u'=u
  ·subst e;exact .inl ⟨h1,by rw [h3,hv];simp⟩
  ·refine .inr ⟨fun e'=>e (zf4.1 (h1.symm.trans e')),u',h1, ?_, ?_⟩
   ·simpa [e] using h2
   ·rw [h3];simp [e]
theorem next_On_l:∃R,(∃k,zbn.l2 d c B (zbn.j2 R) k [] [] 0)∧Can (fB d c B) R:=by
 have hfew:=hB.few;have last:∀(many:List (Str × Int)) (out:List SBranch),MapN (fB d c B) many→(out.map (·.1)).Nodup→(∀u,u∈out.map (·.1)↔fB d c B u≠0)→out.length≤10001→∃R,zbn.j2 R many out∧Can (fB d c B) R:=by
  intro many out hm hn ho hlen;have hlo:∀b∈out,b.1.length≤1000:=fun b hb=>by
   have:=fB_read hB ((ho b.1).1 (List.mem_map.2 ⟨b,hb,rfl⟩));omega
  let out':=out.map fun b=>(b.1,sat (fB d c B b.1))
  have e1:out'.map (·.1)=out.map (·.1):=by simp [out',Function.comp_def]
  have hn':(out'.map (·.1)).Nodup:=by rw [e1];exact hn
  have hcan:Can (fB d c B) (srtB out'):=by
   refine ⟨zmn hn',fun t m=>?_⟩;rw [(zgc out').mem_iff];constructor
   ·intro h;obtain ⟨b,hb,e⟩:=List.mem_map.1 h;simp only [Prod.mk.injEq] at e;obtain ⟨rfl,rfl⟩:=e;exact ⟨(ho _).1 (List.mem_map.2 ⟨b,hb,rfl⟩),rfl⟩
   ·rintro ⟨h1,h2⟩;obtain ⟨b,hb,e⟩:=List.mem_map.1 ((ho t).2 h1);exact List.mem_map.2 ⟨b,hb,by rw [e,h2]⟩
  refine ⟨srtB out', ?_,hcan⟩;refine zha (P:=fun k (o:List SBranch) v=>zbn.l1 many out (zbn.j1 (srtB out')) k o v) out.length (fun i o=>o=out'.take i++out.drop i) ?_ ?_ out (by simp)
  ·rintro i o hi rfl;have hl1:(out'.take i).length=i:=by simp [out'];omega
   have hat:at? (out'.take i++out.drop i) (i:Int)=some out[i]:=by
    rw [zbv,List.getElem?_append_right (by omega),hl1,Nat.sub_self];simp [hi]
   have hset:(out'.take i++out.drop i).set i (out[i].1,sat (fB d c B out[i].1))=out'.take (i+1)++out.drop (i+1):=by
    rw [List.set_append_right _ _ (by omega),hl1,Nat.sub_self,List.drop_eq_getElem_cons hi,List.set_cons_zero,List.take_succ_eq_append_getElem (show i<out'.length by simp [out'];exact hi)];simp [out']
   refine .inr ⟨_,rfl,fun k hk=>⟨fun _=>⟨_,hat,_,⟨hlo _ (List.getElem_mem hi),rfl⟩,_,hat,zi (by omega) (by omega), ?_⟩,fun h=>absurd (by omega) (df h)⟩⟩;rw [hm.get,Int.toNat_natCast,hset];exact hk
  ·rintro o rfl k;refine ⟨fun h=>absurd (dt h) (by omega),fun _=>?_⟩;have hl2:out'.length=out.length:=by simp [out']
   rw [List.take_of_length_le (by omega),List.drop_length,List.append_nil];exact ⟨_,⟨hn',fun b hb=>by
    obtain ⟨b',hb',rfl⟩:=List.mem_map.1 hb;exact hlo b' hb',by omega,rfl⟩,rfl⟩
 have key:∀(m i:Nat) (many:List (Str × Int)) (out:List SBranch),i+m=B.length→MapN (fB d c (B.take i)) many→(out.map (·.1)).Nodup→(∀u,u∈out.map (·.1)↔fB d c (B.take i) u≠0)→out.length≤i→∃(R:List SBranch) (k:Nat),zbn.l2 d c B (zbn.j2 R) k many out (i:Int)∧Can (fB d c B) R:=by
  intro m
  induction m with
  | zero=>
   intro i many out hi hm hn ho hlen;rw [List.take_of_length_le (by omega)] at hm ho;obtain ⟨R,h1,h2⟩:=last many out hm hn ho (by omega);exact ⟨R,1,⟨fun h=>absurd (dt h) (by omega),fun _=>h1⟩,h2⟩
  | succ m ih=>
   intro i many out hi hm hn ho hlen;have hil:i<B.length:=by omega
   have hat:at? B (i:Int)=some B[i]:=by rw [zbv];simp [hil]
   have hbm:=List.getElem_mem hil;obtain ⟨b1,b2,b3⟩:=hB.ok _ hbm;obtain ⟨m1,m2⟩:=hB.many _ hbm;have hrd:=next_Read_in hd hl ht (by omega) b3 b2 hc;have hrl:=zkg d B[i].1 c;have e:=fB_snoc d c (B.take i) B[i];rw [← List.take_succ_eq_append_getElem hil] at e;cases hr:(zbc d B[i].1 c).2
   ·have e0:∀u,fB d c (B.take (i+1)) u=fB d c (B.take i) u:=fun u=>by rw [e,hr];simp
    have e0':fB d c (B.take (i+1))=fB d c (B.take i):=funext e0;obtain ⟨R,k,hk1,hk2⟩:=ih (i+1) many out (by omega) (by rw [e0'];exact hm) hn (by rw [e0'];exact ho) (by omega);exact ⟨R,k+1,⟨fun _=>⟨_,hat,_,hrd,fun _=>⟨zi (by omega) (by omega),hk1⟩,(fun h=>by rw [hr] at h;cases h)⟩,fun h=>absurd (by omega) (df h)⟩,hk2⟩
   ·have hn0:B[i].2.toNat≠0:=by omega
    have hg:=hm.get (zbc d B[i].1 c).1;have hv:min (zd6 many (keyS (zbc d B[i].1 c).1) 0+B[i].2) 2=sat (fB d c (B.take i) (zbc d B[i].1 c).1+B[i].2.toNat):=by
     rw [hg];unfold sat;omega
    have e0':fB d c (B.take (i+1))=fun t=>fB d c (B.take i) t+if t=(zbc d B[i].1 c).1 then B[i].2.toNat else 0:=funext fun u=>by
     rw [e,hr];simp only [true_and,eq_comm]
    have hput:=hm.put (zbc d B[i].1 c).1 hn0 hv;rw [← e0'] at hput;have hin:InR .i64 (zd6 many (keyS (zbc d B[i].1 c).1) 0+B[i].2):=by rw [hg];unfold sat;exact zi (by omega) (by omega)
    by_cases h0:fB d c (B.take i) (zbc d B[i].1 c).1=0
    ·obtain ⟨R,k,hk1,hk2⟩:=ih (i+1) _ (out++[((zbc d B[i].1 c).1,0)]) (by omega) hput (by
      rw [List.map_append,List.nodup_append];refine ⟨hn,by simp,fun a ha b hb e=>?_⟩;simp at hb;subst hb;subst e;exact (ho _).1 ha h0) (fun u=>by
      rw [e0',List.map_append,List.mem_append,ho]
      by_cases hu:u=(zbc d B[i].1 c).1
      ·subst hu;simp;omega
      ·simp [hu]) (by simp;omega)
     refine ⟨R,k+1,⟨fun _=>⟨_,hat,_,hrd,fun h=>by rw [hr] at h;simp at h,fun _=>⟨_,⟨by omega,rfl⟩,fun _=>⟨by simp;omega,hin,zi (by omega) (by omega),hk1⟩,fun h=>?_⟩⟩,fun h=>absurd (by omega) (df h)⟩,hk2⟩;rw [hg,h0] at h;simp [sat] at h
    ·obtain ⟨R,k,hk1,hk2⟩:=ih (i+1) _ out (by omega) hput hn (fun u=>by
      rw [e0',ho]
      by_cases hu:u=(zbc d B[i].1 c).1
      ·subst hu;simp [h0]
      ·simp [hu]) (by omega)
     refine ⟨R,k+1,⟨fun _=>⟨_,hat,_,hrd,fun h=>by rw [hr] at h;simp at h,fun _=>⟨_,⟨by omega,rfl⟩,fun h=>?_,fun _=>⟨hin,zi (by omega) (by omega),hk1⟩⟩⟩,fun h=>absurd (by omega) (df h)⟩,hk2⟩;exfalso;rw [hg] at h;have:=eq_of_beq h;unfold sat at this;omega
 obtain ⟨R,k,h1,h2⟩:=key B.length 0 [] [] (by omega) ⟨List.nodup_nil,fun k v=>by simp [fB]⟩ (by simp) (by simp [fB]) (by simp);exact ⟨R,⟨k,h1⟩,h2⟩
end
theorem on_both {d:List SNode} {s:List SItem} (h:Sm d s) {c:Int} (hc:InR .u8 c):∃B R,zfh d s B∧Can (fun t=>(hds d s).count t) B∧zbn d s c R∧zem d s c R∧Can (fB d c B) R:=by
 obtain ⟨B,b1,b2,b3⟩:=zlq h;have hB:=h.hok b3;have hl:d.length≤1000:=by have:=h.len;omega
 obtain ⟨R,⟨k,h1⟩,h2⟩:=next_On_l h.rt.toROk hl h.txt hc hB;obtain ⟨R',⟨k',h1'⟩,h2'⟩:=ref15_On_l h.rt.toROk hl h.txt hc hB;have e:=h2'.uniq h2;subst e;exact ⟨B,R',b1,b3,⟨B,b1,k,h1⟩,⟨B,b2,k',h1'⟩,h2⟩
end Go.Proofs.YtkbboemafklkkaaGreatDoor.V
namespace Go.Proofs.YtkbboemafklkkaaGreatDoor.V
open Go
set_option linter.unusedVariables false
def zd1 (d:List SNode) (c:Int) (s:List SItem):List (List SItem):=(hds d s).filterMap fun t=>if (zbc d t c).2=true then some (zbc d t c).1 else none
def zcu (d:List SNode):List Int→List SItem→List (List SItem)
 | [],s=>[s]
 | c::w,s=>(zd1 d c s).flatMap (zcu d w)
theorem zpu (d:List SNode) (c:Int):∀(w:List Int) (s:List SItem),zcu d (w++[c]) s=(zcu d w s).flatMap (zd1 d c)
 | [],s=>by
  show (zd1 d c s).flatMap (zcu d [])=_;have:zcu d []=fun t=>[t]:=by funext t;rfl
  rw [this];simp
 | e::w,s=>by
  show (zd1 d e s).flatMap (zcu d (w++[c]))=((zd1 d e s).flatMap (zcu d w)).flatMap (zd1 d c);rw [List.flatMap_assoc]
  congr 1
  funext t;exact zpu d c w t
theorem sumF_flat (F:List SItem→Nat) (g:List SItem→List (List SItem)) (L:List (List SItem)):zc5 F (L.flatMap g)=zc5 (fun t=>zc5 F (g t)) L:=by
 induction L with
 | nil=>rfl
 | cons t L ih=>
  rw [List.flatMap_cons,zfj,ih];simp [zc5]
theorem sumF_step (d:List SNode) (c:Int) (G:List SItem→Nat) (s:List SItem):zc5 G (zd1 d c s)=zc5 (fun t=>if (zbc d t c).2=true then G (zbc d t c).1 else 0) (hds d s):=by
 unfold zd1
 induction hds d s with
 | nil=>rfl
 | cons t L ih=>
  rw [List.filterMap_cons]
  by_cases h:(zbc d t c).2=true
  ·simp only [h,if_true];have:∀x (M:List (List SItem)),zc5 G (x::M)=G x+zc5 G M:=fun x M=>by simp [zc5]
   rw [this,ih];simp [zc5,h]
  ·simp only [h];rw [show zc5 (fun t=>if (zbc d t c).2=true then G (zbc d t c).1 else 0) (t::L)=zc5 (fun t=>if (zbc d t c).2=true then G (zbc d t c).1 else 0) L by simp [zc5,h]];exact ih
theorem wyn_ends (d:List SNode):∀(w:List Int) (s:List SItem),wyn d w s=zc5 (fun u=>(hds d u).count []) (zcu d w s)
 | [],s=>by simp [wyn,zcu,zc5]
 | c::w,s=>by
  show zc5 (fun t=>if (zbc d t c).2=true then wyn d w (zbc d t c).1 else 0) (hds d s)=zc5 _ ((zd1 d c s).flatMap (zcu d w));rw [sumF_flat,← sumF_step d c (fun t=>wyn d w t) s];exact zi2 fun t _=>wyn_ends d w t
theorem zpd {α:Type} (K:List α):(K.map fun _=>(0:Nat)).sum=0:=by
 induction K with
 | nil=>rfl
 | cons a K ih=>rw [List.map_cons,List.sum_cons,ih]
theorem zpc {g:List SItem→Nat} {t:List SItem}:∀{K:List (List SItem)},K.Nodup→t∈K→(K.map fun k=>(if k=t then 1 else 0)*g k).sum=g t
 | [],_,h=>by cases h
 | k::K,hn,h=>by
  rw [List.nodup_cons] at hn;rw [List.map_cons,List.sum_cons]
  by_cases e:k=t
  ·subst e;have z:(K.map fun k'=>(if k'=k then 1 else 0)*g k').sum=0:=by
    have:∀k'∈K,(if k'=k then 1 else 0)*g k'=0:=fun k' hk=>by
     have hne:k'≠k:=fun e'=>hn.1 (by rw [← e'];exact hk);rw [if_neg hne,Nat.zero_mul]
    rw [List.map_congr_left this,zpd]
   rw [z];simp
  ·rw [if_neg e,Nat.zero_mul,Nat.zero_add];exact zpc hn.2 ((List.mem_cons.1 h).resolve_left fun h'=>e h'.symm)
theorem sum_by {g:List SItem→Nat} {K:List (List SItem)} (hn:K.Nodup):∀(L:List (List SItem)),(∀t∈L,t∈K)→zc5 g L=(K.map fun k=>L.count k*g k).sum
 | [],_=>by
  have:∀k∈K,([]:List (List SItem)).count k*g k=0:=fun k _=>by simp
  rw [List.map_congr_left this,zpd];rfl
 | t::L,h=>by
  have ih:=sum_by hn (g:=g) L fun u hu=>h u (by simp [hu]);have e1:zc5 g (t::L)=g t+zc5 g L:=by simp [zc5]
  have e2:(K.map fun k=>(t::L).count k*g k).sum=(K.map fun k=>L.count k*g k).sum+(K.map fun k=>(if k=t then 1 else 0)*g k).sum:=by
   clear h ih e1 hn
   induction K with
   | nil=>rfl
   | cons a K ih=>
    simp only [List.map_cons,List.sum_cons];rw [ih,List.count_cons,Nat.add_mul];have:(if (t==a)=true then 1 else 0)=(if a=t then 1 else 0):=by
     by_cases h:a=t
     ·subst h;simp
     ·rw [if_neg (by simpa using fun e=>h e.symm),if_neg h]
    rw [this];omega
  rw [e1,ih,e2,zpc hn (h t (by simp))];omega
theorem fB_step {d:List SNode} {s:List SItem} {B:List SBranch} (hB:Can (fun t=>(hds d s).count t) B) (c:Int) (u:List SItem):sat (fB d c B u)=sat ((zd1 d c s).count u):=by
 have e1:(zd1 d c s).count u=zc5 (fun t=>if t=u then 1 else 0) (zd1 d c s):=by
  induction zd1 d c s with
  | nil=>rfl
  | cons t L ih=>
   rw [List.count_cons,ih];unfold zc5;rw [List.map_cons,List.sum_cons]
   by_cases h:t=u
   ·simp [h];omega
   ·simp [h]
 rw [e1,sumF_step,sum_by hB.nodup (hds d s) fun t ht=>(hB.keys t).2 (by have:=List.count_pos_iff.2 ht;omega),List.map_map];unfold fB;have key:∀b∈B,sat (if (zbc d b.1 c).2=true∧(zbc d b.1 c).1=u then b.2.toNat else 0)=sat ((hds d s).count b.1*if (zbc d b.1 c).2=true then (if (zbc d b.1 c).1=u then 1 else 0) else 0):=fun b hb=>by
  have h1:=(hB.many hb).1
  by_cases h2:(zbc d b.1 c).2=true
  ·by_cases h3:(zbc d b.1 c).1=u
   ·rw [if_pos ⟨h2,h3⟩,if_pos h2,if_pos h3,Nat.mul_one,h1];unfold sat;omega
   ·rw [if_neg fun e=>h3 e.2,if_pos h2,if_neg h3];rfl
  ·rw [if_neg fun e=>h2 e.1,if_neg h2];rfl
 clear hB e1
 induction B with
 | nil=>rfl
 | cons b B ih=>
  have k1:=key b (by simp);have k2:=ih fun b' hb'=>key b' (by simp [hb']);simp only [List.map_cons,List.sum_cons,Function.comp] at k2 ⊢;unfold sat at *;omega
theorem next_Ends_l {B:List SBranch} {f:List SItem→Nat} (hB:Can f B) (hl:B.length≤10001):∃k,zcr.l1 B (sat (f [])) (zcr.j1 (sat (f []))) k 0:=by
 refine zha (P:=fun k (_:Unit) v=>zcr.l1 B (sat (f [])) _ k v) B.length (fun i _=>∀b∈B.take i,b.1≠[]) ?_ ?_ () (by simp)
 ·intro i _ hi hn;have hat:at? B (i:Int)=some B[i]:=by rw [zbv];simp [hi]
  by_cases h0:B[i].1=[]
  ·refine .inl fun k=>⟨fun _=>⟨_,hat,fun _=>?_,fun h=>by rw [h0] at h;simp at h⟩,fun h=>absurd (by omega) (df h)⟩;have:=(hB.many (List.getElem_mem hi)).1;rw [h0] at this;exact this.symm
  ·refine .inr ⟨(),fun b hb=>?_,fun k hk=>⟨fun _=>⟨_,hat,fun h=>absurd (by simpa using h) h0,fun _=>⟨zi (by omega) (by omega),hk⟩⟩,fun h=>absurd (by omega) (df h)⟩⟩;rw [List.take_succ_eq_append_getElem hi] at hb;rcases List.mem_append.1 hb with hb | hb
   ·exact hn b hb
   ·rw [List.mem_singleton.1 hb];exact h0
 ·intro _ hn k;refine ⟨fun h=>absurd (dt h) (by omega),fun _=>?_⟩;show sat (f [])=0;rw [List.take_length] at hn;have:f []=0:=by
   rcases Nat.eq_zero_or_pos (f []) with h | h
   ·exact h
   ·obtain ⟨b,hb,e⟩:=List.mem_map.1 ((hB.keys []).2 (by omega));exact absurd e (hn b hb)
  rw [this];rfl
theorem ref15_Ends_l {B:List SBranch} {f:List SItem→Nat} (hB:Can f B) (hl:B.length≤10001):∃k,zd9.l1 B (sat (f [])) (zd9.j1 (sat (f []))) k 0:=by
 refine zha (P:=fun k (_:Unit) v=>zd9.l1 B (sat (f [])) _ k v) B.length (fun i _=>∀b∈B.take i,b.1≠[]) ?_ ?_ () (by simp)
 ·intro i _ hi hn;have hat:at? B (i:Int)=some B[i]:=by rw [zbv];simp [hi]
  by_cases h0:B[i].1=[]
  ·refine .inl fun k=>⟨fun _=>⟨_,hat,fun _=>⟨_,hat, ?_⟩,fun h=>by rw [h0] at h;simp at h⟩,fun h=>absurd (by omega) (df h)⟩;have:=(hB.many (List.getElem_mem hi)).1;rw [h0] at this;exact this.symm
  ·refine .inr ⟨(),fun b hb=>?_,fun k hk=>⟨fun _=>⟨_,hat,fun h=>absurd (by simpa using h) h0,fun _=>⟨zi (by omega) (by omega),hk⟩⟩,fun h=>absurd (by omega) (df h)⟩⟩;rw [List.take_succ_eq_append_getElem hi] at hb;rcases List.mem_append.1 hb with hb | hb
   ·exact hn b hb
   ·rw [List.mem_singleton.1 hb];exact h0
 ·intro _ hn k;refine ⟨fun h=>absurd (dt h) (by omega),fun _=>?_⟩;show sat (f [])=0;rw [List.take_length] at hn;have:f []=0:=by
   rcases Nat.eq_zero_or_pos (f []) with h | h
   ·exact h
   ·obtain ⟨b,hb,e⟩:=List.mem_map.1 ((hB.keys []).2 (by omega));exact absurd e (hn b hb)
  rw [this];rfl
theorem ends_both {d:List SNode} {s:List SItem} (h:Sm d s):zcr d s (sat ((hds d s).count []))∧zd9 d s (sat ((hds d s).count [])):=by
 obtain ⟨B,b1,b2,b3⟩:=zlq h;have hl:=heads_few h b3;exact ⟨⟨B,b1,next_Ends_l b3 hl⟩,⟨B,b2,ref15_Ends_l b3 hl⟩⟩
def sing:List Cl:=(List.range 256).map fun (c:Nat)=>Cl.row ((c:Int) % 256) ((c:Int) % 256)
def clsF (d:List SNode) (t:List SItem):List Cl:=
 match t with
 | []=>[]
 | x::_=>match at? d x.2.1 with
  | none=>[]
  | some n=>if x.1=3 then [Cl.row ((zd2 n.2.2.2.2.2.2 x.2.2.1).getD 0) ((zd2 n.2.2.2.2.2.2 x.2.2.1).getD 0)] else if n.1=2 then [n.2.2.2.2.2.1] else sing
def zj8 (d:List SNode) (B:List SBranch):List Cl:=B.flatMap fun b=>clsF d b.1
theorem zgu:sing.length=256:=by simp [sing]
theorem clsF_len (d:List SNode) (t:List SItem):(clsF d t).length≤256:=by
 unfold clsF;cases t with
 | nil=>simp
 | cons x t=>
  simp only;cases at? d x.2.1 with
  | none=>simp
  | some n=>
   simp only;split
   ·simp
   ·split
    ·simp
    ·rw [zgu];exact Nat.le_refl _
theorem zkt (d:List SNode):∀B:List SBranch,(zj8 d B).length≤256*B.length
 | []=>by simp [zj8]
 | b::B=>by
  have h1:=clsF_len d b.1;have h2:=zkt d B;unfold zj8 at *;simp only [List.flatMap_cons,List.length_append,List.length_cons];omega
theorem clsB_snoc (d:List SNode) (B:List SBranch) (b:SBranch):zj8 d (B++[b])=zj8 d B++clsF d b.1:=by simp [zj8]
theorem znw:zbs sing:=by
 refine zha (P:=fun k (o:List Cl) v=>zbs.l1 (zbs.j1 sing) k o v) 256 (fun i o=>o=sing.take i) ?_ ?_ [] (by simp)
 ·rintro i o hi rfl;have e:sing.take (i+1)=sing.take i++[Cl.row ((i:Int) % 256) ((i:Int) % 256)]:=by
   rw [List.take_succ_eq_append_getElem (by rw [zgu];exact hi)];simp [sing]
  refine .inr ⟨_,rfl,fun k hk=>⟨fun _=>⟨_,zof,by rw [List.length_take];simp;omega,zi (by omega) (by omega), ?_⟩,fun h=>absurd (by omega) (df h)⟩⟩;rw [e] at hk;exact hk
 ·rintro o rfl k;refine ⟨fun h=>absurd (dt h) (by omega),fun _=>?_⟩;show sing=sing.take 256;rw [List.take_of_length_le (by rw [zgu];exact Nat.le_refl _)]
theorem zoz {d:List SNode} {B:List SBranch} (hB:HOk d B):∃k,zbh.l1 d B (zbh.j1 (zj8 d B)) k [] 0:=by
 have hfew:=hB.few;refine zha (P:=fun k (o:List Cl) v=>zbh.l1 d B (zbh.j1 (zj8 d B)) k o v) B.length (fun i o=>o=zj8 d (B.take i)) ?_ ?_ [] (by simp [zj8])
 ·rintro i o hi rfl;have hat:at? B (i:Int)=some B[i]:=by rw [zbv];simp [hi]
  obtain ⟨b1,b2,b3⟩:=hB.ok _ (List.getElem_mem hi);have hlen:=zkt d (B.take i);rw [List.length_take] at hlen;have e:zj8 d (B.take (i+1))=zj8 d (B.take i)++clsF d B[i].1:=by rw [List.take_succ_eq_append_getElem hi,clsB_snoc]
  refine .inr ⟨_,rfl,fun k hk=>⟨fun _=>⟨_,hat,fun h0=>?_,fun h0=>?_⟩,fun h=>absurd (by omega) (df h)⟩⟩
  ·have h1:B[i].1=[]:=by simpa using h0
   rw [e,h1] at hk;simp only [clsF,List.append_nil] at hk;exact ⟨zi (by omega) (by omega),hk⟩
  ·rw [e] at hk;generalize B[i].1=t at *;cases t with
   | nil=>simp at h0
   | cons x rest=>
    obtain ⟨n,hn,hm,hkk⟩:=zhy b3 b2;simp only [clsF,hn] at hk;refine ⟨x,rfl,n,hn,fun h3=>?_,fun h3=>⟨fun h2=>?_,fun h2=>?_⟩⟩
    ·have h3':=eq_of_beq h3;rw [if_pos h3'] at hk;obtain ⟨_,_,h6,h7⟩:n.1=3∧x.2.2.2=0∧0≤x.2.2.1∧x.2.2.1<(n.2.2.2.2.2.2.length:Int):=by
      rcases hkk with ⟨h,_⟩ | ⟨_,h⟩ | ⟨h,_⟩
      ·omega
      ·exact h
      ·omega
     obtain ⟨b,hb2,_⟩:=zoh h6 h7;rw [hb2] at hk;exact ⟨b,hb2,b,hb2,_,zof,by simp;omega,zi (by omega) (by omega),hk⟩
    ·have h3':=ne_of_beq_false h3;rw [if_neg h3',if_pos (eq_of_beq h2)] at hk;exact ⟨by simp;omega,zi (by omega) (by omega),hk⟩
    ·have h3':=ne_of_beq_false h3;rw [if_neg h3',if_neg (ne_of_beq_false h2)] at hk;exact ⟨_,znw,by rw [zgu];omega,zi (by omega) (by omega),hk⟩
 ·rintro o rfl k;refine ⟨fun h=>absurd (dt h) (by omega),fun _=>?_⟩;show zj8 d B=_;rw [List.take_length]
theorem zng {d:List SNode} {B:List SBranch} (hB:HOk d B):∃k,zbb.l1 d B (zbb.j1 (zj8 d B)) k [] 0:=by
 have hfew:=hB.few;refine zha (P:=fun k (o:List Cl) v=>zbb.l1 d B (zbb.j1 (zj8 d B)) k o v) B.length (fun i o=>o=zj8 d (B.take i)) ?_ ?_ [] (by simp [zj8])
 ·rintro i o hi rfl;have hat:at? B (i:Int)=some B[i]:=by rw [zbv];simp [hi]
  obtain ⟨b1,b2,b3⟩:=hB.ok _ (List.getElem_mem hi);have hlen:=zkt d (B.take i);rw [List.length_take] at hlen;have e:zj8 d (B.take (i+1))=zj8 d (B.take i)++clsF d B[i].1:=by rw [List.take_succ_eq_append_getElem hi,clsB_snoc]
  refine .inr ⟨_,rfl,fun k hk=>⟨fun _=>⟨_,hat,fun h0=>?_,fun h0=>?_⟩,fun h=>absurd (by omega) (df h)⟩⟩
  ·have h1:B[i].1=[]:=by simpa using h0
   rw [e,h1] at hk;simp only [clsF,List.append_nil] at hk;exact ⟨zi (by omega) (by omega),hk⟩
  ·rw [e] at hk;refine ⟨_,hat, ?_⟩;generalize B[i].1=t at *;cases t with
   | nil=>simp at h0
   | cons x rest=>
    obtain ⟨n,hn,hm,hkk⟩:=zhy b3 b2;simp only [clsF,hn] at hk;refine ⟨x,rfl,n,hn,fun h3=>?_,fun h3=>⟨fun h2=>?_,fun h2=>?_⟩⟩
    ·have h3':=eq_of_beq h3;rw [if_pos h3'] at hk;obtain ⟨_,_,h6,h7⟩:n.1=3∧x.2.2.2=0∧0≤x.2.2.1∧x.2.2.1<(n.2.2.2.2.2.2.length:Int):=by
      rcases hkk with ⟨h,_⟩ | ⟨_,h⟩ | ⟨h,_⟩
      ·omega
      ·exact h
      ·omega
     obtain ⟨b,hb2,hb3⟩:=zoh h6 h7;rw [hb2] at hk;exact ⟨b,hb2,b,hb2,_,zl4 hb3 hb3,by simp;omega,zi (by omega) (by omega),hk⟩
    ·have h3':=ne_of_beq_false h3;simp only [Bool.and_eq_true,beq_iff_eq] at h2;rw [if_neg h3',if_pos h2.2] at hk;exact ⟨by simp;omega,zi (by omega) (by omega),hk⟩
    ·have h3':=ne_of_beq_false h3;have h2':¬ n.1=2:=by
      intro e2;rcases hkk with ⟨h,_⟩ | ⟨h,_⟩ | ⟨h,h',_⟩
      ·simp [h,e2] at h2
      ·exact h3' h
      ·omega
     rw [if_neg h3',if_neg h2'] at hk;refine zha (P:=fun k' (o:List Cl) v=>zbb.l2 (zbb.j2 (zbb.l1 d B (zbb.j1 (zj8 d B)) k) (i:Int)) k' o v) 256 (fun j o=>o=zj8 d (B.take i)++sing.take j) ?_ ?_ (zj8 d (B.take i)) (by simp)
     ·rintro j o hj rfl;have e:sing.take (j+1)=sing.take j++[Cl.row ((j:Int) % 256) ((j:Int) % 256)]:=by
       rw [List.take_succ_eq_append_getElem (by rw [zgu];exact hj)];simp [sing]
      have hu8:InR .u8 ((j:Int) % 256):=zgy.2 ⟨by omega,by omega⟩;refine .inr ⟨_,rfl,fun k' hk'=>⟨fun _=>⟨_,zl4 hu8 hu8,by rw [List.length_append,List.length_take];simp;omega,zi (by omega) (by omega), ?_⟩,fun h=>absurd (by omega) (df h)⟩⟩;rw [e,← List.append_assoc] at hk';exact hk'
     ·rintro o rfl k';refine ⟨fun h=>absurd (dt h) (by omega),fun _=>⟨zi (by omega) (by omega), ?_⟩⟩;rw [List.take_of_length_le (l:=sing) (by rw [zgu];exact Nat.le_refl _)];exact hk
 ·rintro o rfl k;refine ⟨fun h=>absurd (dt h) (by omega),fun _=>?_⟩;show zj8 d B=_;rw [List.take_length]
theorem classes_both {d:List SNode} {s:List SItem} (h:Sm d s):∃B,Can (fun t=>(hds d s).count t) B∧zbh d s (zj8 d B)∧zbb d s (zj8 d B):=by
 obtain ⟨B,b1,b2,b3⟩:=zlq h;have hB:=h.hok b3;exact ⟨B,b3,⟨B,b1,zoz hB⟩,⟨B,b2,zng hB⟩⟩
def d5:List SNode:=[(2,0,0,0,0,Cl.row 5 6,([]:Str))]
abbrev Txt (d:List SNode):Prop:=∀n∈d,n.2.2.2.2.2.2.length≤140737488351232
theorem byte_u8 {s:Str} {i:Int} {c:Int} (h:zd2 s i=some c):0≤c∧c≤255:=by
 unfold zd2 at h;obtain ⟨x,_,rfl⟩:=Option.map_eq_some_iff.1 h;have:=x.toNat_lt;omega
theorem read_same {d:List SNode} {t:List SItem} (hf:zds d t=true) (hr:rdy d t=true) {a b:Int} (ha:InR .u8 a) (hb:InR .u8 b) (h:∀x∈clsF d t,x.has a.toNat=x.has b.toNat):zbc d t a=zbc d t b:=by
 have ha':=zgy.1 ha;have hb':=zgy.1 hb;cases t with
 | nil=>rfl
 | cons x rest=>
  obtain ⟨n,hn,hm,hk⟩:=zhy hf hr;simp only [clsF,hn] at h;unfold zbc;simp only [hn]
  by_cases hl:(zdu rest).2=false
  ·rw [if_pos hl,if_pos hl]
  ·rw [if_neg hl,if_neg hl]
   by_cases h3:x.1=3
   ·rw [if_pos h3] at h;rw [if_pos h3,if_pos h3];obtain ⟨h6,h7⟩:0≤x.2.2.1∧x.2.2.1<(n.2.2.2.2.2.2.length:Int):=by
     rcases hk with ⟨h,_⟩ | ⟨_,_,_,h⟩ | ⟨h,_⟩
     ·omega
     ·exact h
     ·omega
    obtain ⟨c,hc,_⟩:=zoh h6 h7;have hcr:=byte_u8 hc;have hh:=h _ (List.mem_singleton.2 rfl);rw [hc] at hh ⊢;simp only [Option.getD_some] at hh;rw [zj5 (by omega),zj5 (by omega)] at hh;have e:(some c=some a)↔(some c=some b):=by
     simp only [Option.some.injEq];have e1:(decide (c≤((a.toNat:Nat):Int))&&decide (((a.toNat:Nat):Int)≤c))=true↔c=a:=by simp only [Bool.and_eq_true,decide_eq_true_eq];omega
     have e2:(decide (c≤((b.toNat:Nat):Int))&&decide (((b.toNat:Nat):Int)≤c))=true↔c=b:=by simp only [Bool.and_eq_true,decide_eq_true_eq];omega
     rw [← e1,← e2,hh]
    by_cases hca:(some c=some a)
    ·rw [if_pos hca,if_pos (e.1 hca)]
    ·rw [if_neg hca,if_neg fun hcb=>hca (e.2 hcb)]
   ·rw [if_neg h3] at h
    by_cases h2:n.1=2
    ·rw [if_pos h2] at h;have h1:x.1=1:=by
      rcases hk with ⟨h,_⟩ | ⟨h,_⟩ | ⟨_,h,_⟩
      ·exact h
      ·exact absurd h h3
      ·omega
     have hh:=h _ (List.mem_singleton.2 rfl);rw [if_neg h3,if_neg (show ¬ x.1=4 by omega),if_neg (show ¬ n.1=8 by omega),if_neg (show ¬ n.1=9 by omega),if_neg h3,if_neg (show ¬ x.1=4 by omega),if_neg (show ¬ n.1=8 by omega),if_neg (show ¬ n.1=9 by omega),hh]
    ·rw [if_neg h2] at h;have hm:Cl.row a a∈sing:=by
      refine List.mem_map.2 ⟨a.toNat,by simp;omega, ?_⟩;have e:((a.toNat:Nat):Int) % 256=a:=by omega
      rw [e]
     have hh:=h _ hm;rw [zj5 (by omega),zj5 (by omega)] at hh;have e1:(decide (a≤((a.toNat:Nat):Int))&&decide (((a.toNat:Nat):Int)≤a))=true:=by simp only [Bool.and_eq_true,decide_eq_true_eq];omega
     rw [e1] at hh;have hh:=hh.symm;simp only [Bool.and_eq_true,decide_eq_true_eq] at hh;have:a=b:=by omega
     rw [this]
theorem form_low1 {d:List SNode} {x:SItem} (h:zeo d x=true) (hb:badI x=false):zeo d (zig x)=true:=by
 unfold zig;split
 ·rename_i h5
  unfold zeo at h ⊢;rw [if_pos h5] at h;rw [if_pos (show (x.1,x.2.1,x.2.2.1-1,x.2.2.2).1=5 from h5)];simp only [badI,h5] at hb;simp at hb;simp only [Bool.and_eq_true,decide_eq_true_eq,beq_iff_eq] at h ⊢;omega
 ·exact h
theorem form_lowF {d:List SNode} {s:List SItem} (h:zds d s=true):zds d (zdu s).1=true:=by
 unfold zdu;split
 ·rfl
 ·rename_i hb
  have hb:s.any badI=false:=by simpa using hb
  unfold zds at *;rw [List.all_eq_true] at *;intro y hy;obtain ⟨x,hx,rfl⟩:=List.mem_map.1 hy;rw [List.any_eq_false] at hb;exact form_low1 (h x hx) (by simpa using hb x hx)
theorem form_read {d:List SNode} (hd:ROk d) {t:List SItem} (hf:zds d t=true) (hr:rdy d t=true) {c:Int} (hc:InR .u8 c):zds d (zbc d t c).1=true:=by
 have hc':=zgy.1 hc;cases t with
 | nil=>rfl
 | cons x rest=>
  obtain ⟨n,hn,hm,hk⟩:=zhy hf hr;have hlow:=form_lowF (zde hf).2;have five:∀v:Int,0≤v→v≤65535→zeo d (5,0,v,0)=true:=fun v h0 h1=>by
   unfold zeo;simp;omega
  unfold zbc;simp only [hn];split
  ·rfl
  ·split
   ·rename_i h3
    split
    ·split
     ·rename_i hlt
      refine ze6 ?_ hlow;obtain ⟨h4,h6⟩:n.1=3∧0≤x.2.2.1:=by
       rcases hk with ⟨h,_⟩ | ⟨_,h,_,h',_⟩ | ⟨h,_⟩
       ·omega
       ·exact ⟨h,h'⟩
       ·omega
      unfold zeo;simp [hn,h4];omega
     ·exact hlow
    ·rfl
   ·split
    ·rename_i h3 h4
     obtain ⟨h9,h6,h7⟩:n.1=9∧0≤x.2.2.1∧x.2.2.1≤255:=by
      rcases hk with ⟨h,_⟩ | ⟨h,_⟩ | ⟨_,h⟩
      ·omega
      ·omega
      ·exact h
     obtain ⟨p,q⟩:=hd.one _ n hn (by omega);exact ze6 (zgz (zdt hn p q)) (ze6 (five _ (by omega) (by omega)) hlow)
    ·split
     ·rename_i h8
      obtain ⟨p,q⟩:=hd.one _ n hn (by omega);exact ze6 (zgz (zdt hn p q)) (ze6 (five _ (by omega) (by omega)) hlow)
     ·split
      ·rename_i h9
       refine ze6 ?_ hlow;unfold zeo;simp [hn,h9];omega
      ·split
       ·exact hlow
       ·rfl
theorem step_ok {d:List SNode} (hd:ROk d) {s:List SItem} (hf:zds d s=true) {c:Int} (hc:InR .u8 c):∀u∈zd1 d c s,zds d u=true∧u.length≤s.length+d.length+1:=by
 intro u hu;obtain ⟨t,h1,h2⟩:=List.mem_filterMap.1 hu;obtain ⟨L,⟨k,hk⟩,hp⟩:=zpt hd s hf;obtain ⟨h3,h4⟩:=lv_vs hd (n0:=s.length) k s L hk (Vs.start hf (Nat.le_refl _)) t (hp.mem_iff.2 h1);split at h2
 ·cases h2;have:=h3.len;have:=zkg d t c;exact ⟨form_read hd h3.form h4 hc,by omega⟩
 ·cases h2
theorem ends_ok {d:List SNode} (hd:ROk d):∀(w:List Int) (s:List SItem),(∀c∈w,InR .u8 c)→zds d s=true→∀u∈zcu d w s,zds d u=true∧u.length≤s.length+w.length*(d.length+1)
 | [],s,_,hf,u,hu=>by
  rw [zcu,List.mem_singleton] at hu;subst hu;exact ⟨hf,by simp⟩
 | c::w,s,hw,hf,u,hu=>by
  obtain ⟨t,h1,h2⟩:=List.mem_flatMap.1 hu;obtain ⟨h3,h4⟩:=step_ok hd hf (hw c (by simp)) t h1;obtain ⟨h5,h6⟩:=ends_ok hd w t (fun e he=>hw e (by simp [he])) h3 u h2;refine ⟨h5, ?_⟩;rw [List.length_cons,Nat.succ_mul];omega
theorem hds_mem {d:List SNode} (hd:ROk d) (r:List SItem) (t:List SItem):∀s,t∈hds d (s++r)↔(∃t',t'∈hds d s∧t'≠[]∧t=t'++r)∨([]∈hds d s∧t∈hds d r):=by
 intro s;have h:=hds_app hd (fun u=>if u=t then 1 else 0) r s;have cnt1:∀L:List (List SItem),zc5 (fun u=>if u=t then 1 else 0) L≠0↔t∈L:=fun L=>by
  induction L with
  | nil=>simp [zc5]
  | cons u L ih=>
   have e:zc5 (fun u=>if u=t then 1 else 0) (u::L)=(if u=t then 1 else 0)+zc5 (fun u=>if u=t then 1 else 0) L:=by simp [zc5]
   rw [e,List.mem_cons]
   by_cases hu:u=t
   ·subst hu;simp
   ·rw [if_neg hu,Nat.zero_add,ih];constructor
    ·exact .inr
    ·rintro (e | e)
     ·exact absurd e.symm hu
     ·exact e
 have cnt2:∀(G:List SItem→Nat) (L:List (List SItem)),zc5 G L≠0↔∃u∈L,G u≠0:=fun G L=>by
  induction L with
  | nil=>simp [zc5]
  | cons u L ih=>
   have e:zc5 G (u::L)=G u+zc5 G L:=by simp [zc5]
   rw [e];constructor
   ·intro h0
    by_cases hu:G u=0
    ·obtain ⟨v,h1,h2⟩:=ih.1 (by omega);exact ⟨v,by simp [h1],h2⟩
    ·exact ⟨u,by simp,hu⟩
   ·rintro ⟨v,h1,h2⟩;rcases List.mem_cons.1 h1 with rfl | h1
    ·omega
    ·have:=ih.2 ⟨v,h1,h2⟩;omega
 rw [← cnt1,h,cnt2];constructor
 ·rintro ⟨u,h1,h2⟩
  by_cases hu:u=[]
  ·subst hu;simp only [if_true] at h2;exact .inr ⟨h1,(cnt1 _).1 h2⟩
  ·simp only [if_neg hu] at h2
   by_cases he:u++r=t
   ·exact .inl ⟨u,h1,hu,he.symm⟩
   ·rw [if_neg he] at h2;exact absurd rfl h2
 ·rintro (⟨u,h1,hu,rfl⟩ | ⟨h1,h2⟩)
  ·exact ⟨u,h1,by simp only [if_neg hu];simp⟩
  ·exact ⟨[],h1,by simp only [if_true];exact (cnt1 _).2 h2⟩
theorem zdj {d:List SNode} {c:Int} {s u:List SItem}:u∈zd1 d c s↔∃t∈hds d s,(zbc d t c).2=true∧(zbc d t c).1=u:=by
 unfold zd1;rw [List.mem_filterMap];constructor
 ·rintro ⟨t,h1,h2⟩;split at h2
  ·rename_i h3;cases h2;exact ⟨t,h1,h3,rfl⟩
  ·cases h2
 ·rintro ⟨t,h1,h2,rfl⟩;exact ⟨t,h1,by rw [if_pos h2]⟩
theorem step_app {d:List SNode} (hd:ROk d) {c:Int} {s r u:List SItem} (h:u∈zd1 d c (s++r)):(∃u',u'∈zd1 d c s∧(zdu r).2=true∧u=u'++(zdu r).1)∨([]∈hds d s∧u∈zd1 d c r):=by
 obtain ⟨t,h1,h2,rfl⟩:=zdj.1 h;rcases (hds_mem hd r t s).1 h1 with ⟨t',k1,k2,rfl⟩ | ⟨k1,k2⟩
 ·rw [readF_app k2] at h2 ⊢
  by_cases hc:(zbc d t' c).2=true∧(zdu r).2=true
  ·rw [if_pos hc];exact .inl ⟨_,zdj.2 ⟨t',k1,hc.1,rfl⟩,hc.2,rfl⟩
  ·rw [if_neg hc] at h2;cases h2
 ·exact .inr ⟨k1,zdj.2 ⟨t,k2,h2,rfl⟩⟩
def Cov (n:Nat) (p:List SItem→Prop):Prop:=∃K:List (List SItem),K.length≤n∧∀u,p u→u∈K
theorem Cov.weak {m n:Nat} {p q:List SItem→Prop} (h:Cov m p) (hm:m≤n) (hq:∀u,q u→p u):Cov n q:=
 let ⟨K,h1,h2⟩:=h
 ⟨K,Nat.le_trans h1 hm,fun u hu=>h2 u (hq u hu)⟩
theorem Cov.none {p:List SItem→Prop} (h:∀u,¬ p u) (n:Nat):Cov n p:=⟨[],Nat.zero_le _,fun u hu=>(h u hu).elim⟩
theorem Cov.one {p:List SItem→Prop} (x:List SItem) (h:∀u,p u→u=x):Cov 1 p:=⟨[x],by simp,fun u hu=>by rw [h u hu];simp⟩
theorem Cov.or {m n:Nat} {p q r:List SItem→Prop} (h:Cov m p) (k:Cov n q) (e:∀u,r u→p u∨q u):Cov (m+n) r:=
 let ⟨K,h1,h2⟩:=h
 let ⟨J,k1,k2⟩:=k
 ⟨K++J,by rw [List.length_append];omega,fun u hu=>by rw [List.mem_append];exact (e u hu).imp (h2 u) (k2 u)⟩
theorem Cov.map {m:Nat} {p r:List SItem→Prop} (f:List SItem→List SItem) (h:Cov m p) (e:∀u,r u→∃t,p t∧u=f t):Cov m r:=
 let ⟨K,h1,h2⟩:=h
 ⟨K.map f,by simpa using h1,fun u hu=>by obtain ⟨t,a,rfl⟩:=e u hu;exact List.mem_map.2 ⟨t,h2 t a,rfl⟩⟩
def sumN (f:Nat→Nat):Nat→Nat
 | 0=>0
 | k+1=>sumN f k+f k
theorem Cov.sum {f:Nat→Nat} {p:Nat→List SItem→Prop}:∀(k:Nat),(∀j,j<k→Cov (f j) (p j))→Cov (sumN f k) (fun u=>∃j,j<k∧p j u)
 | 0,_=>Cov.none (fun u ⟨j,h,_⟩=>by omega) _
 | k+1,h=>(Cov.sum k fun j hj=>h j (by omega)).or (h k (by omega)) fun u ⟨j,hj,hp⟩=>by
  by_cases e:j=k
  ·subst e;exact .inr hp
  ·exact .inl ⟨j,by omega,hp⟩
def pasR (f:Nat→Nat):Nat→Nat
 | 0=>1
 | k+1=>f (k+1)+pasR f k
def pas:Nat→Nat→Nat
 | 0=>fun _=>1
 | m+1=>pasR (pas m)
theorem zi6 (m:Nat):pas m 0=1:=by cases m <;> rfl
theorem zli:∀m k:Nat,1≤pas m k
 | 0,_=>Nat.le_refl _
 | m+1,0=>by rw [zi6];exact Nat.le_refl _
 | m+1,k+1=>by
  have:=zli m (k+1);show 1≤pas m (k+1)+pas (m+1) k;omega
theorem pas_up (m k:Nat):pas m k≤pas (m+1) k:=by
 cases k with
 | zero=>rw [zi6,zi6];exact Nat.le_refl _
 | succ k=>exact Nat.le_add_right _ _
theorem pas_mono {m m':Nat} (h:m≤m') (k:Nat):pas m k≤pas m' k:=by
 induction h with
 | refl=>exact Nat.le_refl _
 | step _ ih=>exact Nat.le_trans ih (pas_up _ k)
theorem pas_more (m k:Nat):pas m k≤pas m (k+1):=by
 cases m with
 | zero=>exact Nat.le_refl _
 | succ m=>exact Nat.le_add_left _ _
theorem pas_long (m:Nat) {k k':Nat} (h:k≤k'):pas m k≤pas m k':=by
 induction h with
 | refl=>exact Nat.le_refl _
 | step _ ih=>exact Nat.le_trans ih (pas_more m _)
theorem zqu (k:Nat):∀m,sumN (fun i=>pas i k) (m+1)=pas m (k+1)
 | 0=>rfl
 | m+1=>by
  show sumN (fun i=>pas i k) (m+1)+pas (m+1) k=_;rw [zqu k m];rfl
theorem sumN_two {g:Nat→Nat} (h:∀i j,i≤j→g i≤g j) (x:Nat):∀y,sumN g x+sumN g y≤sumN g (x+y)
 | 0=>Nat.le_refl _
 | y+1=>by
  have:=sumN_two h x y;have:=h y (x+y) (by omega);show sumN g x+(sumN g y+g y)≤sumN g (x+y)+g (x+y);omega
theorem pas_two (a b k:Nat):pas a (k+1)+pas b (k+1)≤pas (a+b+1) (k+1):=by
 have:=sumN_two (g:=fun i=>pas i k) (fun i j h=>pas_mono h k) (a+1) (b+1);rw [zqu,zqu,show a+1+(b+1)=(a+b+1)+1 by omega,zqu] at this;exact this
theorem zqv (a k:Nat):∀m,m≤k→sumN (fun t=>pas a (k-t)) m+pas (a+1) (k-m)≤pas (a+1) k
 | 0,_=>by rw [Nat.sub_zero];show 0+_≤_;omega
 | m+1,h=>by
  have ih:=zqv a k m (by omega);have e:pas (a+1) (k-m)=pas a (k-m)+pas (a+1) (k-(m+1)):=by
   rw [show k-m=(k-(m+1))+1 by omega];rfl
  show sumN (fun t=>pas a (k-t)) m+pas a (k-m)+_≤_;omega
def fac:Nat→Nat
 | 0=>1
 | n+1=>(n+1)*fac n
theorem fac_pos:∀n,1≤fac n
 | 0=>Nat.le_refl _
 | n+1=>Nat.le_trans (fac_pos n) (Nat.le_mul_of_pos_left _ (by omega))
theorem pas_fac:∀m k:Nat,pas m k*(fac m*fac k)=fac (m+k)
 | 0,k=>by simp [pas,fac]
 | m+1,0=>by rw [zi6];simp [fac]
 | m+1,k+1=>by
  have h1:=pas_fac m (k+1);have h2:=pas_fac (m+1) k;have e1:pas m (k+1)*(fac (m+1)*fac (k+1))=(m+1)*fac (m+(k+1)):=by
   rw [← h1];show pas m (k+1)*((m+1)*fac m*fac (k+1))=_;rw [Nat.mul_assoc (m+1),Nat.mul_left_comm]
  have e2:pas (m+1) k*(fac (m+1)*fac (k+1))=(k+1)*fac (m+1+k):=by
   rw [← h2];show pas (m+1) k*(fac (m+1)*((k+1)*fac k))=_;rw [Nat.mul_left_comm (fac (m+1)),Nat.mul_left_comm]
  show (pas m (k+1)+pas (m+1) k)*_=fac (m+1+(k+1));rw [Nat.add_mul,e1,e2,show m+1+(k+1)=(m+k+1)+1 by omega,show m+(k+1)=m+k+1 by omega,show m+1+k=m+k+1 by omega];show _=(m+k+1+1)*fac (m+k+1);rw [← Nat.add_mul]
  congr 1
  omega
theorem pas_le {m k N:Nat} (h:fac (m+k)≤N*(fac m*fac k)):pas m k≤N:=by
 rw [← pas_fac] at h;exact Nat.le_of_mul_le_mul_right h (Nat.mul_pos (fac_pos m) (fac_pos k))
def Rch (d:List SNode) (s:List SItem) (w:List Int) (u:List SItem):Prop:=∃a v,a++v=w∧v≠[]∧u∈zcu d v s
theorem Rch.none {d:List SNode} {s u:List SItem}:¬ Rch d s [] u:=fun ⟨a,v,h,hv,_⟩=>hv (List.append_eq_nil_iff.1 h).2
theorem zlx (t:List SItem):∀L:List (List SItem),zc5 (fun u=>if u=t then 1 else 0) L≠0↔t∈L
 | []=>by simp [zc5]
 | u::L=>by
  have ih:=zlx t L;have e:zc5 (fun u=>if u=t then 1 else 0) (u::L)=(if u=t then 1 else 0)+zc5 (fun u=>if u=t then 1 else 0) L:=by simp [zc5]
  rw [e,List.mem_cons]
  by_cases hu:u=t
  ·subst hu;simp
  ·rw [if_neg hu,Nat.zero_add,ih];constructor
   ·exact .inr
   ·rintro (e | e)
    ·exact absurd e.symm hu
    ·exact e
theorem mem_sum {A B:List (List SItem)} (h:∀F,zc5 F A=zc5 F B) (t:List SItem):t∈A↔t∈B:=by rw [← zlx,← zlx t B,h]
theorem mem_sum2 {A B C:List (List SItem)} (h:∀F,zc5 F A=zc5 F B+zc5 F C) (t:List SItem):t∈A↔t∈B∨t∈C:=by rw [← zlx,← zlx t B,← zlx t C,h];omega
theorem ends_or {d:List SNode} {s s1 s2 u:List SItem} {v:List Int} (h:∀t,t≠[]→t∈hds d s→t∈hds d s1∨t∈hds d s2) (hv:v≠[]) (hu:u∈zcu d v s):u∈zcu d v s1∨u∈zcu d v s2:=by
 cases v with
 | nil=>exact absurd rfl hv
 | cons c w=>
  obtain ⟨x,h1,h2⟩:=List.mem_flatMap.1 hu;obtain ⟨t,k1,k2,k3⟩:=zdj.1 h1;have hne:t≠[]:=fun e=>by subst e;simp [zbc] at k2
  rcases h t hne k1 with k | k
  ·exact .inl (List.mem_flatMap.2 ⟨x,zdj.2 ⟨t,k,k2,k3⟩,h2⟩)
  ·exact .inr (List.mem_flatMap.2 ⟨x,zdj.2 ⟨t,k,k2,k3⟩,h2⟩)
theorem zhn {d:List SNode} {s s1 u:List SItem} {v:List Int} (h:∀t,t≠[]→t∈hds d s→t∈hds d s1) (hv:v≠[]) (hu:u∈zcu d v s):u∈zcu d v s1:=
 (ends_or (s1:=s1) (s2:=s1) (fun t h1 h2=>.inl (h t h1 h2)) hv hu).elim id id
theorem zks {d:List SNode} (hd:ROk d):∀(w:List Int) (s r u:List SItem),u∈zcu d w (s++r)→(∃u' r',u'∈zcu d w s∧lows w.length r=some r'∧u=u'++r')∨∃a b r',w=a++b∧b≠[]∧(a=[]→[]∈hds d s)∧lows a.length r=some r'∧u∈zcu d b r'
 | [],s,r,u,h=>by
  rw [zcu,List.mem_singleton] at h;exact .inl ⟨s,r,by rw [zcu];exact List.mem_singleton.2 rfl,rfl,h⟩
 | c::w,s,r,u,h=>by
  obtain ⟨t,h1,h2⟩:=List.mem_flatMap.1 h;rcases step_app hd h1 with ⟨t',k1,k2,rfl⟩ | ⟨k1,k2⟩
  ·have el:∀p,lows (p+1) r=lows p (zdu r).1:=fun p=>by
    show (if (zdu r).2=true then lows p (zdu r).1 else none)=_;rw [if_pos k2]
   rcases zks hd w t' (zdu r).1 u h2 with ⟨u',r',j1,j2,j3⟩ | ⟨a,b,r',j1,j2,_,j3,j4⟩
   ·exact .inl ⟨u',r',List.mem_flatMap.2 ⟨t',k1,j1⟩,by rw [List.length_cons,el];exact j2,j3⟩
   ·exact .inr ⟨c::a,b,r',by rw [j1];rfl,j2,(fun h=>by cases h),by rw [List.length_cons,el];exact j3,j4⟩
  ·exact .inr ⟨[],c::w,r,rfl,by simp,fun _=>k1,rfl,List.mem_flatMap.2 ⟨t,k2,h2⟩⟩
theorem zpo {x:SItem} (h:x.1≠5):zru [x]:=fun y hy=>by rw [List.mem_singleton.1 hy];exact h
theorem pm_ne {d:List SNode} (hd:ROk d) (i:Int):[] ∉ pm d i:=fun h=>pmI_ne hd (1,i,0,0) [] (show []∈pmI d (1,i,0,0) from h) rfl
theorem no_nil {d:List SNode} (hd:ROk d) {i:Int} (h:nw d i=0):[] ∉ hds d [(1,i,0,0)]:=by
 rw [zps,h];simpa using pm_ne hd i
theorem ends_stop {d:List SNode} {m:Int} {b:List Int} {u:List SItem} (hb:b≠[]):u ∉ zcu d b [(5,0,m,0)]:=by
 cases b with
 | nil=>exact absurd rfl hb
 | cons c w=>
  intro h;obtain ⟨t,h1,h2⟩:=List.mem_flatMap.1 h;obtain ⟨t,k1,k2,k3⟩:=zdj.1 h1;have e1:pmI d (5,0,m,0)=[]:=by simp [pmI]
  have e3:hds d [(5,0,m,0)]=(pmI d (5,0,m,0)).map (·++[])++(List.replicate (nwI d (5,0,m,0)) [[]]).flatten:=rfl;rw [e3,e1] at k1;have:t=[]:=by
   simp at k1;exact k1.2
  subst this;simp [zbc] at k2
section
variable {d : List SNode} (hd : ROk d) {i : Int} {n : SNode} (hn : at? d i = some n) {w : List Int} {u : List SItem}
include hd hn
theorem sum_seq (h:n.1=4) (F:List SItem→Nat):zc5 F (hds d [(1,i,0,0)])=zc5 F (hds d ([(1,n.2.1,0,0)]++[(1,n.2.2.1,0,0)])):=by
 have e:=zk6 hd hn;rw [if_neg (by omega),if_neg (by omega),if_pos h] at e;have e1:pm d i=(pm d n.2.1).map (·++[(1,n.2.2.1,0,0)])++(List.replicate (nw d n.2.1) (pm d n.2.2.1)).flatten:=by
  have:pm d i=(PM d d.length i).1:=rfl;rw [this,e]
 have e2:nw d i=nw d n.2.1*nw d n.2.2.1:=by
  have:nw d i=(PM d d.length i).2:=rfl;rw [this,e]
 rw [zes,List.singleton_append,zm5,zes,e1,e2,zfj,zfi,zi1,Nat.mul_add,Nat.mul_assoc,Nat.add_assoc]
theorem sum_or (h:n.1=5) (F:List SItem→Nat):zc5 F (hds d [(1,i,0,0)])=zc5 F (hds d [(1,n.2.1,0,0)])+zc5 F (hds d [(1,n.2.2.1,0,0)]):=by
 have e:=zk6 hd hn;rw [if_neg (by omega),if_neg (by omega),if_neg (by omega),if_pos h] at e;have e1:pm d i=pm d n.2.1++pm d n.2.2.1:=by
  have:pm d i=(PM d d.length i).1:=rfl;rw [this,e]
 have e2:nw d i=nw d n.2.1+nw d n.2.2.1:=by
  have:nw d i=(PM d d.length i).2:=rfl;rw [this,e]
 rw [zes,zes,zes,e1,e2,zfj,Nat.add_mul];omega
theorem sum_star (h:n.1=6) (F:List SItem→Nat):zc5 F (hds d [(1,i,0,0)])=zc5 F (hds d [])+zc5 F (hds d ([(1,n.2.1,0,0)]++[(1,i,0,0)])):=by
 have e:=zk6 hd hn;rw [if_neg (by omega),if_neg (by omega),if_neg (by omega),if_neg (by omega),if_pos h] at e;have e1:pm d i=(pm d n.2.1).map (·++[(1,i,0,0)]):=by
  have:pm d i=(PM d d.length i).1:=rfl;rw [this,e]
 have e2:nw d i=1:=by
  have:nw d i=(PM d d.length i).2:=rfl;rw [this,e]
 have z:=zq0 hd hn (.inl h);rw [zes,List.singleton_append,zm5,e1,e2,z,zfi];simp [hds,zc5];omega
def zis (i:Int) (n:SNode) (t:Nat):SItem:=(2,i,max (n.2.2.2.1-t) 0,n.2.2.2.2.1-t)
omit hd hn in
theorem itemT_next (i:Int) (n:SNode) (t:Nat):((2,i,max (max (n.2.2.2.1-(t:Int)) 0-1) 0,n.2.2.2.2.1-(t:Int)-1):SItem)=zis i n (t+1):=by
 unfold zis
 simp only [Prod.mk.injEq,true_and]
 omega
theorem sum_item (h:n.1=7) (lo hi:Int) (F:List SItem→Nat):zc5 F (hds d [(2,i,lo,hi)])=(if lo=0 then F [] else 0)+if 0<hi then zc5 F (hds d ([(1,n.2.1,0,0)]++[(2,i,max (lo-1) 0,hi-1)])) else 0:=by
 have z:=zq0 hd hn (.inr h);have e1:pmI d (2,i,lo,hi)=if 0<hi then (pm d n.2.1).map (·++[(2,i,max (lo-1) 0,hi-1)]) else []:=by
  unfold pmI;simp [hn]
 have e2:nwI d (2,i,lo,hi)=if lo=0 then 1 else 0:=by simp [nwI]
 simp only [List.singleton_append];rw [zm5,z];have e3:hds d [(2,i,lo,hi)]=(pmI d (2,i,lo,hi)).map (·++[])++(List.replicate (nwI d (2,i,lo,hi)) [[]]).flatten:=rfl;rw [e3,zfj,zi1,e1,e2,zfi]
 by_cases h0:lo=0
 ·by_cases h1:0<hi
  ·simp only [if_pos h0,if_pos h1,List.append_nil];rw [zfi];simp [zc5];omega
  ·simp only [if_pos h0,if_neg h1];simp [zc5]
 ·by_cases h1:0<hi
  ·simp only [if_neg h0,if_pos h1,List.append_nil];rw [zfi];simp [zc5]
  ·simp only [if_neg h0,if_neg h1];simp [zc5]
theorem sum_rep (h:n.1=7) (F:List SItem→Nat):zc5 F (hds d [(1,i,0,0)])=zc5 F (hds d [(2,i,n.2.2.2.1,n.2.2.2.2.1)]):=by
 have e:=zk6 hd hn;rw [if_neg (by omega),if_neg (by omega),if_neg (by omega),if_neg (by omega),if_neg (by omega),if_pos h] at e;have e1:pm d i=if 0<n.2.2.2.2.1 then (pm d n.2.1).map (·++[(2,i,max (n.2.2.2.1-1) 0,n.2.2.2.2.1-1)]) else []:=by
  have:pm d i=(PM d d.length i).1:=rfl;rw [this,e]
 have e2:nw d i=if n.2.2.2.1=0 then 1 else 0:=by
  have:nw d i=(PM d d.length i).2:=rfl;rw [this,e]
 have e3:pmI d (2,i,n.2.2.2.1,n.2.2.2.2.1)=pm d i:=by rw [e1];unfold pmI;simp [hn]
 have e4:nwI d (2,i,n.2.2.2.1,n.2.2.2.2.1)=nw d i:=by rw [e2];simp [nwI]
 have e5:hds d [(2,i,n.2.2.2.1,n.2.2.2.2.1)]=(pmI d (2,i,n.2.2.2.1,n.2.2.2.2.1)).map (·++[])++(List.replicate (nwI d (2,i,n.2.2.2.1,n.2.2.2.2.1)) [[]]).flatten:=rfl;rw [e5,e3,e4];rfl
theorem rch_seq (h:n.1=4) (hr:Rch d [(1,i,0,0)] w u):(∃t,Rch d [(1,n.2.1,0,0)] w t∧u=t++[(1,n.2.2.1,0,0)])∨Rch d [(1,n.2.2.1,0,0)] w u:=by
 obtain ⟨a,v,e,hv,hu⟩:=hr;have hu':u∈zcu d v ([(1,n.2.1,0,0)]++[(1,n.2.2.1,0,0)]):=zhn (fun t _ ht=>(mem_sum (sum_seq hd hn h) t).1 ht) hv hu;rcases zks hd _ _ _ _ hu' with ⟨u',r',h1,h2,h3⟩ | ⟨x,b,r',h1,h2,_,h3,h4⟩
 ·rw [zfg (zpo (by simp))] at h2;cases h2;exact .inl ⟨u',⟨a,v,e,hv,h1⟩,h3⟩
 ·rw [zfg (zpo (by simp))] at h3;cases h3;exact .inr ⟨a++x,b,by rw [List.append_assoc,← h1,e],h2,h4⟩
theorem rch_or (h:n.1=5) (hr:Rch d [(1,i,0,0)] w u):Rch d [(1,n.2.1,0,0)] w u∨Rch d [(1,n.2.2.1,0,0)] w u:=by
 obtain ⟨a,v,e,hv,hu⟩:=hr;exact (ends_or (fun t _ ht=>(mem_sum2 (sum_or hd hn h) t).1 ht) hv hu).imp (fun k=>⟨a,v,e,hv,k⟩) fun k=>⟨a,v,e,hv,k⟩
theorem zqr (h:n.1=6) (hr:Rch d [(1,i,0,0)] w u):∃t,Rch d [(1,n.2.1,0,0)] w t∧u=t++[(1,i,0,0)]:=by
 obtain ⟨a,v,e,hv,hu⟩:=hr;obtain ⟨k,hk⟩:∃k,v.length≤k:=⟨_,Nat.le_refl _⟩
 induction k generalizing a v with
 | zero=>exact absurd (List.length_eq_zero_iff.1 (by omega)) hv
 | succ k ih=>
  have hu':u∈zcu d v ([(1,n.2.1,0,0)]++[(1,i,0,0)]):=zhn (fun t ht h1=>((mem_sum2 (sum_star hd hn h) t).1 h1).resolve_left fun h2=>ht (by simpa [hds] using h2)) hv hu;rcases zks hd _ _ _ _ hu' with ⟨u',r',h1,h2,h3⟩ | ⟨x,b,r',h1,h2,h5,h3,h4⟩
  ·rw [zfg (zpo (by simp))] at h2;cases h2;exact ⟨u',⟨a,v,e,hv,h1⟩,h3⟩
  ·rw [zfg (zpo (by simp))] at h3;cases h3;have hx:x≠[]:=fun ex=>no_nil hd (zq0 hd hn (.inl h)) (h5 ex);have:=List.length_pos_iff.2 hx;have:=congrArg List.length h1;rw [List.length_append] at this;exact ih (a++x) b (by rw [List.append_assoc,← h1,e]) h2 h4 (by omega)
theorem ends_item (h:n.1=7):∀(k:Nat) (v:List Int) (t:Nat) (u:List SItem),v.length≤k→v≠[]→u∈zcu d v [zis i n t]→∃(t':Nat) (x b:List Int) (u':List SItem),v=x++b∧b≠[]∧t'≤x.length∧(t:Int)+t' < n.2.2.2.2.1∧u'∈zcu d b [(1,n.2.1,0,0)]∧u=u'++[zis i n (t+t'+1)]
 | 0,v,t,u,hk,hv,hu=>absurd (List.length_eq_zero_iff.1 (by omega)) hv
 | k+1,v,t,u,hk,hv,hu=>by
  have hs:=sum_item hd hn h (max (n.2.2.2.1-(t:Int)) 0) (n.2.2.2.2.1-(t:Int))
  by_cases hi:0<n.2.2.2.2.1-(t:Int)
  ·have hu':u∈zcu d v ([(1,n.2.1,0,0)]++[zis i n (t+1)]):=by
    refine zhn (fun z hz h1=>?_) hv hu;rw [← zlx] at h1 ⊢;have e1:hds d [zis i n t]=hds d [(2,i,max (n.2.2.2.1-(t:Int)) 0,n.2.2.2.2.1-(t:Int))]:=rfl;rw [e1,hs,if_pos hi,itemT_next] at h1;have e0:(if ([]:List SItem)=z then 1 else 0)=0:=if_neg fun e=>hz e.symm;rw [e0] at h1;have e00:(if max (n.2.2.2.1-(t:Int)) 0=0 then 0 else 0)=0:=by split <;> rfl
    rw [e00,Nat.zero_add] at h1;exact h1
   rcases zks hd _ _ _ _ hu' with ⟨u',r',h1,h2,h3⟩ | ⟨x,b,r',h1,h2,h5,h3,h4⟩
   ·rw [zfg (zpo (by simp [zis]))] at h2;cases h2;exact ⟨0,[],v,u',rfl,hv,Nat.le_refl _,by omega,h1,h3⟩
   ·rw [zfg (zpo (by simp [zis]))] at h3;cases h3;have hx:x≠[]:=fun ex=>no_nil hd (zq0 hd hn (.inr h)) (h5 ex);have hx0:=List.length_pos_iff.2 hx;have hl:=congrArg List.length h1;rw [List.length_append] at hl;obtain ⟨t',y,c,u',j1,j2,j3,j4,j5,j6⟩:=ends_item h k b (t+1) u (by omega) h2 h4;refine ⟨t'+1,x++y,c,u',by rw [h1,j1,List.append_assoc],j2,by rw [List.length_append];omega,by omega,j5, ?_⟩;rw [j6,show t+1+t'+1=t+(t'+1)+1 by omega]
  ·exfalso;have:u∈zcu d v []:=by
    refine zhn (fun z hz h1=>?_) hv hu;rw [← zlx] at h1;have e1:hds d [zis i n t]=hds d [(2,i,max (n.2.2.2.1-(t:Int)) 0,n.2.2.2.2.1-(t:Int))]:=rfl;rw [e1,hs,if_neg hi] at h1;have e0:(if ([]:List SItem)=z then 1 else 0)=0:=if_neg fun e=>hz e.symm;rw [e0] at h1;have e00:(if max (n.2.2.2.1-(t:Int)) 0=0 then 0 else 0)=0:=by split <;> rfl
    rw [e00] at h1;exact absurd rfl h1
   cases v with
   | nil=>exact hv rfl
   | cons c v=>
    obtain ⟨x,h1,h2⟩:=List.mem_flatMap.1 this;obtain ⟨z,k1,k2,k3⟩:=zdj.1 h1;have:z=[]:=by simpa [hds] using k1
    subst this;simp [zbc] at k2
theorem zqs (h:n.1=7) (hr:Rch d [(1,i,0,0)] w u):∃t:Nat,t<w.length∧(t:Int)<n.2.2.2.2.1∧∃u',Rch d [(1,n.2.1,0,0)] (w.drop t) u'∧u=u'++[zis i n (t+1)]:=by
 obtain ⟨a,v,e,hv,hu⟩:=hr;have hb:=hd.rep _ n hn h;have hu':u∈zcu d v [zis i n 0]:=by
  refine zhn (fun t _ ht=>?_) hv hu;have h1:=(mem_sum (sum_rep hd hn h) t).1 ht;have:zis i n 0=(2,i,n.2.2.2.1,n.2.2.2.2.1):=by
   unfold zis;simp only [Prod.mk.injEq,true_and];omega
  rw [this];exact h1
 obtain ⟨t,x,b,u',h1,h2,h3,h4,h5,h6⟩:=ends_item hd hn h v.length v 0 u (Nat.le_refl _) hv hu';have hb0:=List.length_pos_iff.2 h2;have e1:w=(a++x)++b:=by rw [List.append_assoc,← h1,e]
 have hl:w.length=(a++x).length+b.length:=by rw [e1,List.length_append]
 have hal:x.length≤(a++x).length:=by rw [List.length_append];omega
 refine ⟨t,by omega,by omega,u',⟨(a++x).drop t,b, ?_,h2,h5⟩,by rw [h6,Nat.zero_add]⟩;rw [e1];exact (List.drop_append_of_le_length (l₁:=a++x) (by omega)).symm
omit hn in
theorem ends_held {A c:Int} (hc:0≤c) (hw:w≠[]) (hu:u∈zcu d w [(1,A,0,0),(5,0,c,0)]):∃u',u'∈zcu d w [(1,A,0,0)]∧u=u'++[(5,0,c-w.length,0)]:=by
 have e:([(1,A,0,0),(5,0,c,0)]:List SItem)=[(1,A,0,0)]++[(5,0,c,0)]:=rfl
 rw [e] at hu
 rcases zks hd _ _ _ _ hu with ⟨u',r',h1,h2,h3⟩ | ⟨x,b,r',h1,h2,h5,h3,h4⟩
 ·rw [lows_end c hc] at h2
  split at h2
  ·cases h2
   exact ⟨u',h1,h3⟩
  ·cases h2
 ·rw [lows_end c hc] at h3
  split at h3
  ·cases h3
   exact absurd h4 (ends_stop h2)
  ·cases h3
omit hd hn in
theorem zm2 {a:List Int} {c:Int} {v:List Int} (e:a++c::v=w):w.drop (a.length+1)=v∧w.getD a.length 0=c∧w.length=a.length+1+v.length:=by
 subst e
 refine ⟨?_,by simp,by simp;omega⟩
 rw [show a.length+1=(a++[c]).length by simp,show a++c::v=(a++[c])++v by simp,List.drop_left]
theorem rch_frame (h:n.1=8) (hw:∀c∈w,0≤c) (hr:Rch d [(1,i,0,0)] w u):u=[(1,n.2.1,0,0),(5,0,w.getD (w.length-1) 0,0)]∨∃p:Nat,p<w.length-1∧∃u',Rch d [(1,n.2.1,0,0)] (w.drop (p+1)) u'∧u=u'++[(5,0,w.getD p 0-((w.length-(p+1):Nat):Int),0)]:=by
 obtain ⟨a,v,e,hv,hu⟩:=hr;cases v with
 | nil=>exact absurd rfl hv
 | cons c v=>
  obtain ⟨x,h1,h2⟩:=List.mem_flatMap.1 hu;obtain ⟨z,k1,k2,k3⟩:=zdj.1 h1;obtain ⟨e1,e2⟩:=zqt hd hn (.inr (.inl h));have e3:hds d [(1,i,0,0)]=[[(1,i,0,0)]]:=by rw [zps,e1,e2];rfl
  rw [e3,List.mem_singleton] at k1;subst k1;have er:zbc d [(1,i,0,0)] c=([(1,n.2.1,0,0),(5,0,c,0)],true):=by
   unfold zbc;simp only [hn];rw [if_neg (by simp [zdu]),if_neg (by decide),if_neg (by decide),if_pos h];rfl
  rw [er] at k3;simp only at k3;subst k3;obtain ⟨f1,f2,f3⟩:=zm2 e;have hc:0≤c:=hw c (by rw [← e];simp);cases v with
  | nil=>
   left;rw [zcu,List.mem_singleton] at h2;have:w.length-1=a.length:=by rw [f3];simp
   rw [h2,this,f2]
  | cons b v=>
   right;obtain ⟨u',j1,j2⟩:=ends_held hd hc (by simp) h2;refine ⟨a.length,by rw [f3];simp only [List.length_cons];omega,u',⟨[],b::v,by rw [f1];rfl,by simp,j1⟩, ?_⟩;rw [j2,f2]
   congr 5
   rw [f3];omega
theorem zqp (h:n.1=9) (hw:∀c∈w,0≤c) (hr:Rch d [(1,i,0,0)] w u):u=[(4,i,w.getD (w.length-1) 0,0)]∨u=[(1,n.2.1,0,0),(5,0,256*w.getD (w.length-2) 0+w.getD (w.length-1) 0,0)]∧2≤w.length ∨
  ∃p:Nat,p<w.length-2∧∃u',Rch d [(1,n.2.1,0,0)] (w.drop (p+2)) u'∧u=u'++[(5,0,256*w.getD p 0+w.getD (p+1) 0-((w.length-(p+2):Nat):Int),0)]:=by
 obtain ⟨a,v,e,hv,hu⟩:=hr;cases v with
 | nil=>exact absurd rfl hv
 | cons c v=>
  obtain ⟨x,h1,h2⟩:=List.mem_flatMap.1 hu;obtain ⟨z,k1,k2,k3⟩:=zdj.1 h1;obtain ⟨e1,e2⟩:=zqt hd hn (.inr (.inr h));have e3:hds d [(1,i,0,0)]=[[(1,i,0,0)]]:=by rw [zps,e1,e2];rfl
  rw [e3,List.mem_singleton] at k1;subst k1;have er:zbc d [(1,i,0,0)] c=([(4,i,c,0)],true):=by
   unfold zbc;simp only [hn];rw [if_neg (by simp [zdu]),if_neg (by decide),if_neg (by decide),if_neg (by omega),if_pos h];rfl
  rw [er] at k3;simp only at k3;subst k3;obtain ⟨f1,f2,f3⟩:=zm2 e;have hc:0≤c:=hw c (by rw [← e];simp);cases v with
  | nil=>
   left;rw [zcu,List.mem_singleton] at h2;have:w.length-1=a.length:=by rw [f3];simp
   rw [h2,this,f2]
  | cons b v=>
   right;have hb:0≤b:=hw b (by rw [← e];simp);obtain ⟨x,h1,h2⟩:=List.mem_flatMap.1 h2;obtain ⟨z,k1,k2,k3⟩:=zdj.1 h1;have e4:hds d [(4,i,c,0)]=[[(4,i,c,0)]]:=by
    have e1:pmI d (4,i,c,0)=[[(4,i,c,0)]]:=by simp [pmI]
    have e2:nwI d (4,i,c,0)=0:=by simp [nwI]
    have e3:hds d [(4,i,c,0)]=(pmI d (4,i,c,0)).map (·++[])++(List.replicate (nwI d (4,i,c,0)) [[]]).flatten:=rfl;rw [e3,e1,e2];rfl
   rw [e4,List.mem_singleton] at k1;subst k1;have er:zbc d [(4,i,c,0)] b=([(1,n.2.1,0,0),(5,0,256*c+b,0)],true):=by
    unfold zbc;simp only [hn];rw [if_neg (by simp [zdu]),if_neg (by decide),if_pos trivial];rfl
   rw [er] at k3;simp only at k3;subst k3;have e':(a++[c])++b::v=w:=by rw [← e];simp
   obtain ⟨g1,g2,g3⟩:=zm2 e';have hal:(a++[c]).length=a.length+1:=by simp
   rw [hal] at g1 g2 g3;cases v with
   | nil=>
    left;rw [zcu,List.mem_singleton] at h2;have t1:w.length-1=a.length+1:=by rw [g3];simp
    have t2:w.length-2=a.length:=by rw [g3];simp
    refine ⟨by rw [h2,t1,t2,f2,g2],by rw [g3];omega⟩
   | cons q v=>
    right;obtain ⟨u',j1,j2⟩:=ends_held hd (by omega) (by simp) h2;refine ⟨a.length,by rw [g3];simp only [List.length_cons];omega,u',⟨[],q::v,by rw [g1];rfl,by simp,j1⟩, ?_⟩;rw [j2,f2,g2]
    congr 5
    rw [g3];omega
theorem znm (h:n.1=2) (hr:Rch d [(1,i,0,0)] w u):u=[]:=by
 obtain ⟨a,v,e,hv,hu⟩:=hr;cases v with
 | nil=>exact absurd rfl hv
 | cons c v=>
  obtain ⟨x,h1,h2⟩:=List.mem_flatMap.1 hu;obtain ⟨z,k1,k2,k3⟩:=zdj.1 h1;obtain ⟨e1,e2⟩:=zqt hd hn (.inl h);have e3:hds d [(1,i,0,0)]=[[(1,i,0,0)]]:=by rw [zps,e1,e2];rfl
  rw [e3,List.mem_singleton] at k1;subst k1;have er:zbc d [(1,i,0,0)] c=if n.2.2.2.2.2.1.has c.toNat=true then ([],true) else ([],false):=by
   unfold zbc;simp only [hn];rw [if_neg (by simp [zdu]),if_neg (by decide),if_neg (by decide),if_neg (by omega),if_neg (by omega)];rfl
  have ex:x=[]:=by rw [← k3,er];split <;> rfl
  subst ex;cases v with
  | nil=>rwa [zcu,List.mem_singleton] at h2
  | cons b v=>
   obtain ⟨x,h1,h2⟩:=List.mem_flatMap.1 h2;obtain ⟨z,k1,k2,k3⟩:=zdj.1 h1;have:z=[]:=by simpa [hds] using k1
   subst this;simp [zbc] at k2
theorem znl (h:n.1=1):¬ Rch d [(1,i,0,0)] w u:=by
 rintro ⟨a,v,e,hv,hu⟩;cases v with
 | nil=>exact absurd rfl hv
 | cons c v=>
  obtain ⟨x,h1,h2⟩:=List.mem_flatMap.1 hu;obtain ⟨z,k1,k2,k3⟩:=zdj.1 h1;have e:=zk6 hd hn;rw [if_pos h] at e;have e1:pm d i=[]:=by unfold pm;rw [e]
  rw [zps,e1] at k1;have:z=[]:=by simp at k1;exact k1.2
  subst this;simp [zbc] at k2
omit hd in
theorem ends_text:∀(v:List Int) (lo:Nat) (u:List SItem),u∈zcu d v [(3,i,(lo:Int),0)]→lo<n.2.2.2.2.2.2.length→lo+v.length≤n.2.2.2.2.2.2.length∧u=if lo+v.length<n.2.2.2.2.2.2.length then [(3,i,((lo+v.length:Nat):Int),0)] else []
 | [],lo,u,hu,hlo=>by
  rw [zcu,List.mem_singleton] at hu
  rw [List.length_nil,Nat.add_zero,if_pos hlo]
  exact ⟨by omega,hu⟩
 | c::v,lo,u,hu,hlo=>by
  obtain ⟨x,h1,h2⟩:=List.mem_flatMap.1 hu
  obtain ⟨z,k1,k2,k3⟩:=zdj.1 h1
  have e4:hds d [(3,i,(lo:Int),0)]=[[(3,i,(lo:Int),0)]]:=by
   have e1:pmI d (3,i,(lo:Int),0)=[[(3,i,(lo:Int),0)]]:=by simp [pmI]
   have e2:nwI d (3,i,(lo:Int),0)=0:=by simp [nwI]
   have e3:hds d [(3,i,(lo:Int),0)]=(pmI d (3,i,(lo:Int),0)).map (·++[])++(List.replicate (nwI d (3,i,(lo:Int),0)) [[]]).flatten:=rfl
   rw [e3,e1,e2];rfl
  rw [e4,List.mem_singleton] at k1
  subst k1
  have hr:zbc d [(3,i,(lo:Int),0)] c=if zd2 n.2.2.2.2.2.2 (lo:Int)=some c then (if (lo:Int)+1<(n.2.2.2.2.2.2.length:Int) then [(3,i,(lo:Int)+1,0)] else [],true) else ([],false):=by
   unfold zbc
   simp only [hn]
   rw [if_neg (by simp [zdu]),if_pos trivial]
   split
   ·split <;> rfl
   ·rfl
  have hb:zd2 n.2.2.2.2.2.2 (lo:Int)=some c:=by
   rcases Classical.em (zd2 n.2.2.2.2.2.2 (lo:Int)=some c) with h | h
   ·exact h
   ·rw [hr,if_neg h] at k2;cases k2
  rw [hr,if_pos hb] at k3
  simp only at k3
  by_cases hl:lo+1<n.2.2.2.2.2.2.length
  ·rw [if_pos (by omega)] at k3
   have ex:x=[(3,i,((lo+1:Nat):Int),0)]:=by rw [← k3];congr 1
   rw [ex] at h2
   obtain ⟨j1,j2⟩:=ends_text v (lo+1) u h2 hl
   rw [List.length_cons,show lo+(v.length+1)=lo+1+v.length by omega]
   exact ⟨j1,j2⟩
  ·rw [if_neg (by omega)] at k3
   subst k3
   cases v with
   | nil=>
    rw [zcu,List.mem_singleton] at h2
    simp only [List.length_cons,List.length_nil]
    rw [if_neg (by omega)]
    exact ⟨by omega,h2⟩
   | cons b v=>
    exfalso
    obtain ⟨x,h1,h2⟩:=List.mem_flatMap.1 h2
    obtain ⟨z,k1,k2,k3⟩:=zdj.1 h1
    have:z=[]:=by simpa [hds] using k1
    subst this
    simp [zbc] at k2
theorem zqq (h:n.1=3) (hr:Rch d [(1,i,0,0)] w u):∃k:Nat,k<w.length∧k<n.2.2.2.2.2.2.length∧u=if k+1<n.2.2.2.2.2.2.length then [(3,i,((k+1:Nat):Int),0)] else []:=by
 obtain ⟨a,v,e,hv,hu⟩:=hr;have hlo:0<n.2.2.2.2.2.2.length:=List.length_pos_iff.2 (hd.ntx _ n hn h);have e0:=zk6 hd hn;rw [if_neg (by omega),if_pos h] at e0;have e1:pm d i=[[(3,i,0,0)]]:=by
  have:pm d i=(PM d d.length i).1:=rfl;rw [this,e0]
 have e2:nw d i=0:=by
  have:nw d i=(PM d d.length i).2:=rfl;rw [this,e0]
 have hu':u∈zcu d v [(3,i,((0:Nat):Int),0)]:=by
  refine zhn (fun t _ ht=>?_) hv hu;rw [zps,e1,e2] at ht;have e3:pmI d (3,i,((0:Nat):Int),0)=[[(3,i,0,0)]]:=by simp [pmI]
  have e4:nwI d (3,i,((0:Nat):Int),0)=0:=by simp [nwI]
  have e5:hds d [(3,i,((0:Nat):Int),0)]=(pmI d (3,i,((0:Nat):Int),0)).map (·++[])++(List.replicate (nwI d (3,i,((0:Nat):Int),0)) [[]]).flatten:=rfl;rw [e5,e3,e4];simpa using ht
 obtain ⟨h1,h2⟩:=ends_text hn v 0 u hu' hlo;have hv0:=List.length_pos_iff.2 hv;have hl:=congrArg List.length e;rw [List.length_append] at hl;refine ⟨v.length-1,by omega,by omega, ?_⟩;rw [h2,show 0+v.length=v.length-1+1 by omega]
end
theorem cov_pas {d:List SNode} (hd:ROk d) {f i:Int} (h:Tr d f i):∀w:List Int,(∀c∈w,0≤c)→Cov (pas (i-f+1).toNat w.length) (Rch d [(1,i,0,0)] w):=by
 induction h with
 | leaf he hk hx h0=>
  rename_i i e
  intro w hw;have em:(i-i+1).toNat=1:=by omega
  rw [em];rcases hk with k | k | k
  ·exact Cov.none (fun u=>znl hd he k) _
  ·exact (Cov.one [] fun u hu=>znm hd he k hu).weak (zli _ _) fun _ h=>h
  ·have:Cov (sumN (fun _=>1) w.length) (Rch d [(1,i,0,0)] w):=by
    refine (Cov.sum (p:=fun j u=>u=if j+1<e.2.2.2.2.2.2.length then [(3,i,((j+1:Nat):Int),0)] else []) w.length fun j hj=>Cov.one _ fun u hu=>hu).weak (Nat.le_refl _) fun u hu=>?_;obtain ⟨j,h1,_,h2⟩:=zqq hd he k hu;exact ⟨j,h1,h2⟩
   refine this.weak ?_ fun _ h=>h;have e1:∀k,sumN (fun _=>1) k=k:=fun k=>by
    induction k with
    | zero=>rfl
    | succ k ih=>show sumN (fun _=>1) k+1=_;rw [ih]
   have e2:∀k,pas 1 k=k+1:=fun k=>by
    induction k with
    | zero=>rfl
    | succ k ih=>show 1+pas 1 k=_;rw [ih];omega
   rw [e1,e2];omega
 | one he hk ha hb hr h ih=>
  rename_i f i e
  intro w hw;have hle:=h.le;cases w with
  | nil=>exact Cov.none (fun u=>Rch.none) _
  | cons c0 w0=>
   generalize hwe:c0::w0=w at hw ⊢;have hl:1≤w.length:=by rw [← hwe];simp
   obtain ⟨m,hm⟩:∃m:Nat,(i-1-f+1).toNat=m:=⟨_,rfl⟩;have em:(i-f+1).toNat=m+1:=by omega
   rw [hm] at ih;rw [em];have hdr:∀p,∀c∈w.drop p,0≤c:=fun p c hc=>hw c (List.mem_of_mem_drop hc);rcases hk with k | k | k | k
   ·refine ((ih w hw).map (·++[(1,i,0,0)]) fun u hu=>?_).weak (pas_up _ _) fun _ h=>h;have:=zqr hd he k hu;rw [ha] at this;exact this
   ·have:=Cov.sum (f:=fun t=>pas m (w.length-t)) (p:=fun t u=>∃u',Rch d [(1,i-1,0,0)] (w.drop t) u'∧u=u'++[zis i e (t+1)]) w.length fun t ht=>by
     have h1:=ih (w.drop t) (hdr t);rw [List.length_drop] at h1;exact h1.map (·++[zis i e (t+1)]) fun u hu=>hu
    refine this.weak ?_ fun u hu=>?_
    ·have:=zqv m w.length w.length (Nat.le_refl _);omega
    ·obtain ⟨t,h1,_,h2⟩:=zqs hd he k hu;rw [ha] at h2;exact ⟨t,h1,h2⟩
   ·have:=Cov.sum (f:=fun p=>pas m (w.length-1-p)) (p:=fun p u=>∃u',Rch d [(1,i-1,0,0)] (w.drop (p+1)) u'∧u=u'++[(5,0,w.getD p 0-((w.length-(p+1):Nat):Int),0)]) (w.length-1) fun p hp=>by
     have h1:=ih (w.drop (p+1)) (hdr _);rw [List.length_drop,show w.length-(p+1)=w.length-1-p by omega] at h1;exact h1.map (·++[(5,0,w.getD p 0-((w.length-(p+1):Nat):Int),0)]) fun u hu=>hu
    refine ((Cov.one [(1,i-1,0,0),(5,0,w.getD (w.length-1) 0,0)] (p:=fun u=>u=[(1,i-1,0,0),(5,0,w.getD (w.length-1) 0,0)]) fun u hu=>hu).or this fun u hu=>?_).weak ?_ fun _ h=>h
    ·have:=rch_frame hd he k hw hu;rw [ha] at this;exact this
    ·have h1:=zqv m (w.length-1) (w.length-1) (Nat.le_refl _);rw [Nat.sub_self,zi6] at h1;have h2:=pas_long (m+1) (Nat.sub_le w.length 1);omega
   ·have:=Cov.sum (f:=fun p=>pas m (w.length-2-p)) (p:=fun p u=>∃u',Rch d [(1,i-1,0,0)] (w.drop (p+2)) u'∧u=u'++[(5,0,256*w.getD p 0+w.getD (p+1) 0-((w.length-(p+2):Nat):Int),0)]) (w.length-2) fun p hp=>by
     have h1:=ih (w.drop (p+2)) (hdr _);rw [List.length_drop,show w.length-(p+2)=w.length-2-p by omega] at h1;exact h1.map (·++[(5,0,256*w.getD p 0+w.getD (p+1) 0-((w.length-(p+2):Nat):Int),0)]) fun u hu=>hu
    by_cases h2:2≤w.length
    ·have c1:=(Cov.one [(4,i,w.getD (w.length-1) 0,0)] (p:=fun u=>u=[(4,i,w.getD (w.length-1) 0,0)]) fun u hu=>hu);have c2:=(Cov.one [(1,i-1,0,0),(5,0,256*w.getD (w.length-2) 0+w.getD (w.length-1) 0,0)] (p:=fun u=>u=[(1,i-1,0,0),(5,0,256*w.getD (w.length-2) 0+w.getD (w.length-1) 0,0)]) fun u hu=>hu);refine (c1.or (c2.or this fun u hu=>hu) fun u hu=>?_).weak ?_ fun _ h=>h
     ·have:=zqp hd he k hw hu;rw [ha] at this;exact this.imp id fun h=>h.imp (fun h=>h.1) id
     ·have h1:=zqv m (w.length-2) (w.length-2) (Nat.le_refl _);rw [Nat.sub_self,zi6] at h1;have e1:pas (m+1) (w.length-1)=pas m (w.length-1)+pas (m+1) (w.length-2):=by
       rw [show w.length-1=(w.length-2)+1 by omega];rfl
      have e2:pas (m+1) w.length=pas m w.length+pas (m+1) (w.length-1):=by
       obtain ⟨q,hq⟩:∃q,w.length=q+1:=⟨w.length-1,by omega⟩;rw [hq];rfl
      have:=zli m (w.length-1);have:=zli m w.length;omega
    ·refine ((Cov.one [(4,i,w.getD (w.length-1) 0,0)]) fun u hu=>?_).weak (zli _ _) fun _ h=>h;rcases zqp hd he k hw hu with h1 | ⟨_,h1⟩ | ⟨p,h1,_⟩
     ·exact h1
     ·exact absurd h1 h2
     ·omega
 | two he hk ha hb h1 h2 i1 i2=>
  rename_i f p i e
  intro w hw;have l1:=h1.le;have l2:=h2.le;cases w with
  | nil=>exact Cov.none (fun u=>Rch.none) _
  | cons c0 w0=>
   generalize hwe:c0::w0=w at hw ⊢;have hl:w.length=w0.length+1:=by rw [← hwe];simp
   have j1:=i1 w hw;have j2:=i2 w hw;have hs:pas (p-1-f+1).toNat w.length+pas (i-1-p+1).toNat w.length≤pas (i-f+1).toNat w.length:=by
    have:=pas_two (p-1-f+1).toNat (i-1-p+1).toNat w0.length;rw [← hl,show (p-1-f+1).toNat+(i-1-p+1).toNat+1=(i-f+1).toNat by omega] at this;exact this
   rcases hk with k | k
   ·refine ((j2.map (·++[(1,i-1,0,0)]) (r:=fun u=>∃t,Rch d [(1,p-1,0,0)] w t∧u=t++[(1,i-1,0,0)]) fun u hu=>hu).or j1 fun u hu=>?_).weak hs fun _ h=>h;have:=rch_seq hd he k hu;rw [ha,hb] at this;exact this
   ·refine (j2.or j1 fun u hu=>?_).weak hs fun _ h=>h;have:=rch_or hd he k hu;rw [ha,hb] at this;exact this
theorem after_cov {d:List SNode} (h:Rt d) {w:List Int} (hw:∀c∈w,0≤c):Cov (pas d.length w.length) (fun u=>u∈zcu d w [(1,(d.length:Int)-1,0,0)]):=by
 cases w with
 | nil=>
  refine (Cov.one [(1,(d.length:Int)-1,0,0)] fun u hu=>?_).weak (zli _ _) fun _ h=>h
  rwa [zcu,List.mem_singleton] at hu
 | cons c w=>
  refine (cov_pas h.toROk h.tr (c::w) hw).weak ?_ fun u hu=>⟨[],c::w,rfl,by simp,hu⟩;have:((d.length:Int)-1-0+1).toNat=d.length:=by omega
  rw [this];exact Nat.le_refl _
end Go.Proofs.YtkbboemafklkkaaGreatDoor.V
namespace Go.Proofs.YtkbboemafklkkaaGreatDoor.V
open Go
set_option linter.unusedVariables false
theorem rch_len {d:List SNode} (hd:ROk d) {f i:Int} (h:Tr d f i):∀(w:List Int) (u:List SItem),(∀c∈w,0≤c)→Rch d [(1,i,0,0)] w u→u.length≤(i-f+1).toNat:=by
 induction h with
 | leaf he hk hx h0=>
  rename_i i e
  intro w u hw hu;rcases hk with k | k | k
  ·exact absurd hu (znl hd he k)
  ·rw [znm hd he k hu];simp
  ·obtain ⟨j,_,_,h2⟩:=zqq hd he k hu;rw [h2];split <;> simp
 | one he hk ha hb hr h ih=>
  rename_i f i e
  intro w u hw hu;have hle:=h.le;have hdr:∀p,∀c∈w.drop p,0≤c:=fun p c hc=>hw c (List.mem_of_mem_drop hc);rcases hk with k | k | k | k
  ·obtain ⟨t,h1,rfl⟩:=zqr hd he k hu;rw [ha] at h1;have:=ih w t hw h1;simp;omega
  ·obtain ⟨t,_,_,u',h1,rfl⟩:=zqs hd he k hu;rw [ha] at h1;have:=ih _ u' (hdr t) h1;simp;omega
  ·rcases rch_frame hd he k hw hu with rfl | ⟨p,_,u',h1,rfl⟩
   ·simp;omega
   ·rw [ha] at h1;have:=ih _ u' (hdr _) h1;simp;omega
  ·rcases zqp hd he k hw hu with rfl | ⟨rfl,_⟩ | ⟨p,_,u',h1,rfl⟩
   ·simp;omega
   ·simp;omega
   ·rw [ha] at h1;have:=ih _ u' (hdr _) h1;simp;omega
 | two he hk ha hb h1 h2 i1 i2=>
  rename_i f p i e
  intro w u hw hu;have l1:=h1.le;have l2:=h2.le;rcases hk with k | k
  ·rcases rch_seq hd he k hu with ⟨t,h1,rfl⟩ | h1
   ·rw [ha] at h1;have:=i2 w t hw h1;simp;omega
   ·rw [hb] at h1;have:=i1 w u hw h1;omega
  ·rcases rch_or hd he k hu with h1 | h1
   ·rw [ha] at h1;have:=i2 w u hw h1;omega
   ·rw [hb] at h1;have:=i1 w u hw h1;omega
theorem after_sm {d:List SNode} (h:Rt d) (hl:d.length≤24) (ht:∀n∈d,n.2.2.2.2.2.2.length≤140737488351232) {w:List Int} (hw:∀c∈w,InR .u8 c) {u:List SItem} (hu:u∈zcu d w [(1,(d.length:Int)-1,0,0)]):Sm d u∧u.length≤24:=by
 have hpos:0<d.length:=List.length_pos_iff.2 h.ne;have hsome:∃n,at? d ((d.length:Int)-1)=some n:=by
  have e:(d.length:Int)-1=((d.length-1:Nat):Int):=by omega
  rw [e,zbv];exact ⟨_,List.getElem?_eq_getElem (show d.length-1<d.length by omega)⟩
 have hf:zds d [(1,(d.length:Int)-1,0,0)]=true:=ze6 (zgz hsome) rfl;have hform:=(ends_ok h.toROk w _ hw hf u hu).1;have hlen:u.length≤24:=by
  cases w with
  | nil=>
   rw [zcu,List.mem_singleton] at hu;subst hu;simp
  | cons c w=>
   have:=rch_len h.toROk h.tr (c::w) u (fun c' hc'=>(zgy.1 (hw c' hc')).1) ⟨[],c::w,rfl,by simp,hu⟩;omega
 exact ⟨⟨h,hl,ht,hform,by omega⟩,hlen⟩
theorem on_step {d:List SNode} {s:List SItem} (h:Sm d s) {c:Int} (hc:InR .u8 c):∃o,zbn d s c o∧zem d s c o∧Can (fun t=>(zd1 d c s).count t) o:=by
 obtain ⟨B,R,_,b3,o1,o2,o3⟩:=on_both h hc;exact ⟨R,o1,o2,o3.congr fun t=>fB_step b3 c t⟩
section
variable {α : Type}
theorem zic {A B:List α} {x:α} {i:Int} (h:i=(A.length:Int)):at? (A++x::B) i=some x:=by
 subst h;rw [zbv];simp
theorem zhv {A B:List α} {x y:α} {i:Int} (h:i=(A.length:Int)):(A++x::B).set i.toNat y=A++y::B:=by
 subst h;rw [Int.toNat_natCast]
 induction A with
 | nil=>rfl
 | cons a A ih=>simp only [List.length_cons,List.cons_append,List.set_cons_succ,ih]
def SEq (key:α→Int) (l l':List α):Prop:=∀c,l.filter (fun x=>key x==c)=l'.filter (fun x=>key x==c)
theorem SEq.refl (key:α→Int) (l:List α):SEq key l l:=fun _=>rfl
theorem SEq.trans {key:α→Int} {a b c:List α} (h:SEq key a b) (k:SEq key b c):SEq key a c:=fun x=>(h x).trans (k x)
theorem SEq.symm {key:α→Int} {a b:List α} (h:SEq key a b):SEq key b a:=fun x=>(h x).symm
theorem SEq.app {key:α→Int} {a b c d:List α} (h:SEq key a b) (k:SEq key c d):SEq key (a++c) (b++d):=fun x=>by rw [List.filter_append,List.filter_append,h x,k x]
theorem SEq.length {key:α→Int} {a b:List α} (h:SEq key a b):a.length=b.length:=by
 have hp:a.Perm b:=by
  classical
  refine List.perm_iff_count.2 fun x=>?_;have h1:∀l:List α,l.count x=(l.filter (fun y=>key y==key x)).count x:=fun l=>by
   rw [List.count_filter];simp
  rw [h1 a,h1 b,h (key x)]
 exact hp.length_eq
theorem SEq.perm {key:α→Int} {a b:List α} (h:SEq key a b):a.Perm b:=by
 classical
 refine List.perm_iff_count.2 fun x=>?_;have h1:∀l:List α,l.count x=(l.filter (fun y=>key y==key x)).count x:=fun l=>by
  rw [List.count_filter];simp
 rw [h1 a,h1 b,h (key x)]
theorem zi4 {key:α→Int} {X Y:List α} (h:∀x∈X,∀y∈Y,key x≠key y):SEq key (X++Y) (Y++X):=fun c=>by
 rw [List.filter_append,List.filter_append]
 by_cases hx:X.filter (fun x=>key x==c)=[]
 ·rw [hx];simp
 ·have hy:Y.filter (fun x=>key x==c)=[]:=by
   rw [List.filter_eq_nil_iff];intro y hy hyc;obtain ⟨x,hxm⟩:=List.exists_mem_of_ne_nil _ hx;rw [List.mem_filter] at hxm;exact h x hxm.1 y hy (by rw [eq_of_beq hxm.2,eq_of_beq hyc])
  rw [hy];simp
def Srt (key:α→Int) (l:List α):Prop:=l.Pairwise fun x y=>key x≤key y
theorem Srt.app {key:α→Int} {a b:List α}:Srt key (a++b)↔Srt key a∧Srt key b∧∀x∈a,∀y∈b,key x≤key y:=List.pairwise_append
theorem Srt.cons {key:α→Int} {x:α} {b:List α}:Srt key (x::b)↔(∀y∈b,key x≤key y)∧Srt key b:=List.pairwise_cons
theorem srtc_uniq {key:α→Int}:∀{a b:List α},Srt key a→Srt key b→SEq key a b→a=b
 | [],b,_,_,h=>(List.eq_nil_of_length_eq_zero h.length.symm).symm
 | x::a,[],_,_,h=>absurd h.length (by simp)
 | x::a,y::b,ha,hb,h=>by
  obtain ⟨ha1,ha2⟩:=Srt.cons.1 ha;obtain ⟨hb1,hb2⟩:=Srt.cons.1 hb;have hp:=h.perm;have hxy:key x=key y:=by
   have h1:x∈y::b:=hp.mem_iff.1 (by simp);have h2:y∈x::a:=hp.mem_iff.2 (by simp);have e1:key y≤key x:=by
    rcases List.mem_cons.1 h1 with rfl | h1
    ·exact Int.le_refl _
    ·exact hb1 x h1
   have e2:key x≤key y:=by
    rcases List.mem_cons.1 h2 with rfl | h2
    ·exact Int.le_refl _
    ·exact ha1 y h2
   omega
  have h3:=h (key x);rw [List.filter_cons_of_pos (by simp),List.filter_cons_of_pos (by simp [hxy])] at h3;have e:=List.cons.inj h3;obtain ⟨rfl,_⟩:=e;refine congrArg _ (srtc_uniq ha2 hb2 fun c=>?_);have h4:=h c
  by_cases hc:key x=c
  ·rw [List.filter_cons_of_pos (by simp [hc]),List.filter_cons_of_pos (by simp [hc])] at h4;exact (List.cons.inj h4).2
  ·rw [List.filter_cons_of_neg (by simp [hc]),List.filter_cons_of_neg (by simp [hc])] at h4;exact h4
def srt (key:α→Int) (l:List α):List α:=l.mergeSort fun x y=>decide (key x≤key y)
theorem zij (key:α→Int) (l:List α):Srt key (srt key l):=by
 have:=List.pairwise_mergeSort (le:=fun x y=>decide (key x≤key y)) (fun a b c h1 h2=>by simp at *;omega) (fun a b=>by simp;omega) l;exact this.imp fun h=>by simpa using h
theorem zgg (key:α→Int) (l:List α):SEq key l (srt key l):=fun c=>by
 have hp:(srt key l).Perm l:=List.mergeSort_perm l _;have hsub:(l.filter fun x=>key x==c).Sublist (srt key l):=by
  refine List.sublist_mergeSort (le:=fun x y=>decide (key x≤key y)) (fun a b c h1 h2=>by simp at *;omega) (fun a b=>by simp;omega) ?_ List.filter_sublist;refine List.Pairwise.imp_of_mem (R:=fun _ _=>True) ?_ (List.pairwise_of_forall fun _ _=>trivial);intro a b ha hb _;have h1:=(List.mem_filter.1 ha).2;have h2:=(List.mem_filter.1 hb).2;simp at h1 h2;simp;omega
 have h2:=hsub.filter (fun x=>key x==c);rw [List.filter_filter] at h2;simp only [Bool.and_self] at h2;exact h2.eq_of_length (hp.filter _).length_eq.symm
theorem zh8 {key:α→Int} {l q:List α} (hq:Srt key q) (h:SEq key l q):q=srt key l:=srtc_uniq hq (zij key l) (h.symm.trans (zgg key l))
theorem zg1 (key:α→Int) (l:List α):(srt key l).length=l.length:=(zgg key l).length.symm
theorem zfl (l:List α) {n:Nat} (h:n≤l.length):∃A B,l=A++B∧A.length=n:=⟨l.take n,l.drop n,(List.take_append_drop n l).symm,by simp;omega⟩
theorem snoc_of {l:List α} (h:l≠[]):∃A x,l=A++[x]:=⟨l.dropLast,l.getLast h,(List.dropLast_concat_getLast h).symm⟩
end
theorem zf1 {i j:Int} (h0:0≤i+j) (h1:i+j<9223372036854775808):IntKind.wrap .i64 (zpj (IntKind.wrap .u64 (i+j)) 1)=(i+j) / 2:=by
 rw [zmk,show (i+j) % 18446744073709551616=i+j by omega];have:zpj (i+j) 1=(i+j) / 2:=by
  unfold zpj;simp
 rw [this];simp [IntKind.wrap,IntKind.signed,IntKind.bits];omega
theorem bsearch {P:Nat→Int→Int→Prop} (pr:Nat→Bool) (lo hi:Nat) (hmono:∀c d,lo≤c→c≤d→d<hi→pr d=true→pr c=true)
  (hstep:∀k (i j:Nat),lo≤i→i<j→j≤hi→(pr ((i+j) / 2)=true→P k (((i+j) / 2+1:Nat):Int) (j:Int)→P (k+1) (i:Int) (j:Int))∧(pr ((i+j) / 2)=false→P k (i:Int) (((i+j) / 2:Nat):Int)→P (k+1) (i:Int) (j:Int)))
  (hexit:∀k (i:Nat),lo≤i→i≤hi→(∀c,lo≤c→c<i→pr c=true)→(∀c,i≤c→c<hi→pr c=false)→P (k+1) (i:Int) (i:Int)) (hle:lo≤hi):∃k,P k (lo:Int) (hi:Int):=by
 have key:∀(f i j:Nat),j-i≤f→lo≤i→i≤j→j≤hi→(∀c,lo≤c→c<i→pr c=true)→(∀c,j≤c→c<hi→pr c=false)→∃k,P k (i:Int) (j:Int):=by
  intro f
  induction f with
  | zero=>
   intro i j hf h1 h2 h3 h4 h5;have:i=j:=by omega
   subst this;exact ⟨1,hexit 0 i h1 h3 h4 h5⟩
  | succ f ih=>
   intro i j hf h1 h2 h3 h4 h5
   by_cases hij:i=j
   ·subst hij;exact ⟨1,hexit 0 i h1 h3 h4 h5⟩
   ·have hlt:i<j:=by omega
    cases hp:pr ((i+j) / 2)
    ·obtain ⟨k,hk⟩:=ih i ((i+j) / 2) (by omega) h1 (by omega) (by omega) h4 (fun c hc1 hc2=>by
      cases hpc:pr c
      ·rfl
      ·have:=hmono ((i+j) / 2) c (by omega) hc1 hc2 hpc;rw [this] at hp;cases hp)
     exact ⟨k+1,(hstep k i j h1 hlt h3).2 hp hk⟩
    ·obtain ⟨k,hk⟩:=ih ((i+j) / 2+1) j (by omega) (by omega) (by omega) h3 (fun c hc1 hc2=>hmono c ((i+j) / 2) hc1 (by omega) (by omega) hp) h5;exact ⟨k+1,(hstep k i j h1 hlt h3).1 hp hk⟩
 exact key (hi-lo) lo hi (Nat.le_refl _) (Nat.le_refl _) hle (Nat.le_refl _) (fun c h1 h2=>by omega) (fun c h1 h2=>by omega)
end Go.Proofs.YtkbboemafklkkaaGreatDoor.V
namespace Go.Proofs.YtkbboemafklkkaaGreatDoor.V
open Go
set_option linter.unusedVariables false
def lk0 (p:Cl):Int:=p.least.1
def zgx (a p:Cl):List Cl:=[p &&& a,p &&& ~~~ a].filter fun q=>decide (0<q.count)
def zm9 (ps:List Cl) (a:Cl):List Cl:=srt lk0 (ps.flatMap (zgx a))
def zgs (l:List Cl):List Cl:=l.foldl zm9 [~~~ (0#256)]
def zpi (l:List Cl):List Int:=(zgs l).map lk0
def zjl (l:List Cl) (c d:Nat):Bool:=l.all fun a=>a.has c==a.has d
def part (l:List Cl) (c:Nat):Cl:=Cl.of (zjl l c)
def zfx (l:List Cl):List Nat:=(List.range 256).filter fun c=>(List.range c).all fun d=>!zjl l d c
def parts (l:List Cl):List Cl:=(zfx l).map (part l)
theorem zn3 (l:List Cl) (c:Nat):zjl l c c=true:=by simp [zjl]
theorem zkp {l:List Cl} {c d:Nat} (h:zjl l c d=true):zjl l d c=true:=by
 unfold zjl at *;rw [List.all_eq_true] at *;intro a ha;have:=h a ha;rw [beq_iff_eq] at *;exact this.symm
theorem zjb {l:List Cl} {c d e:Nat} (h:zjl l c d=true) (k:zjl l d e=true):zjl l c e=true:=by
 unfold zjl at *;rw [List.all_eq_true] at *;intro a ha;have h1:=h a ha;have h2:=k a ha;rw [beq_iff_eq] at *;exact h1.trans h2
theorem zeb {l:List Cl} {c d:Nat} (h:d<256):(part l c).has d=zjl l c d:=Cl.of_has _ h
theorem zgk {l:List Cl} {c:Nat}:c∈zfx l↔c<256∧∀d,d<c→zjl l d c=false:=by
 simp [zfx]
theorem part_eq {l:List Cl} {c d:Nat} (h:zjl l c d=true):part l c=part l d:=by
 apply Cl.ext;intro e he;rw [zeb he,zeb he];cases h1:zjl l d e
 ·cases h2:zjl l c e
  ·rfl
  ·rw [zjb (zkp h) h2] at h1;cases h1
 ·exact zjb h h1
theorem zq6 {p:Cl} (h:0<p.count):∃n:Nat,n<256∧p.least=((n:Int),true)∧p.has n=true∧∀m,m<n→p.has m=false:=by
 cases hl:p.least.2
 ·have h0:=least_none hl;have:p.count=0:=by
   unfold Cl.count;rw [List.countP_eq_zero];intro m hm;rw [h0 m (by simpa using hm)];simp
  omega
 ·obtain ⟨n,hn⟩:∃n:Nat,p.least=((n:Int),true):=by
   unfold Cl.least at hl ⊢;split
   ·exact ⟨_,rfl⟩
   ·rename_i hn;rw [hn] at hl;simp at hl
  obtain ⟨h1,h2,h3⟩:=least_some hn;exact ⟨n,h1,hn,h2,h3⟩
theorem count_pos {p:Cl} {n:Nat} (hn:n<256) (h:p.has n=true):0<p.count:=by
 unfold Cl.count;rw [List.countP_pos_iff];exact ⟨n,by simpa using hn,h⟩
theorem head_of {l:List Cl} {c:Nat} (hc:c<256):∃h,h∈zfx l∧h≤c∧zjl l h c=true:=by
 obtain ⟨h,⟨h1,h2⟩,h3⟩:=exists_least (p:=fun d=>d≤c∧zjl l d c=true) ⟨c,Nat.le_refl _,zn3 l c⟩;refine ⟨h,zgk.2 ⟨by omega,fun d hd=>?_⟩,h1,h2⟩;cases hl:zjl l d h
 ·rfl
 ·have:=h3 d ⟨by omega,zjb hl h2⟩;omega
theorem least_part {l:List Cl} {h:Nat} (hh:h∈zfx l):(part l h).least=((h:Int),true):=by
 obtain ⟨h1,h2⟩:=zgk.1 hh;refine least_of h1 (by rw [zeb h1];exact zn3 l h) fun m hm=>?_;rw [zeb (by omega)];cases hl:zjl l h m
 ·rfl
 ·have:=h2 m hm;rw [zkp hl] at this;cases this
theorem lk_part {l:List Cl} {h:Nat} (hh:h∈zfx l):lk0 (part l h)=(h:Int):=by rw [lk0,least_part hh]
theorem zl6 (l:List Cl):(zfx l).Pairwise (· < ·):=(List.pairwise_lt_range).filter _
theorem parts_lk (l:List Cl):(parts l).map lk0=(zfx l).map (fun n:Nat=>(n:Int)):=by
 unfold parts;rw [List.map_map];exact List.map_congr_left fun h hh=>lk_part hh
theorem parts_srt (l:List Cl):Srt lk0 (parts l):=by
 have h1:(zfx l).Pairwise fun a b=>lk0 (part l a)≤lk0 (part l b):=by
  refine (List.pairwise_iff_getElem.2 fun i j hi hj hij=>?_);rw [lk_part (List.getElem_mem hi),lk_part (List.getElem_mem hj)];have:=List.pairwise_iff_getElem.1 (zl6 l) i j hi hj hij;omega
 exact List.pairwise_map.2 h1
theorem seq_of_mem {α:Type} {key:α→Int} {X Y:List α} (hX:(X.map key).Nodup) (hY:(Y.map key).Nodup) (h:∀x,x∈X↔x∈Y):SEq key X Y:=fun c=>by
 have one:∀{Z:List α},(Z.map key).Nodup→∀x∈Z,key x=c→Z.filter (fun z=>key z==c)=[x]:=by
  intro Z
  induction Z with
  | nil=>intro _ x hx;cases hx
  | cons z Z ih=>
   intro hn x hx hk;rw [List.map_cons,List.nodup_cons] at hn;rcases List.mem_cons.1 hx with rfl | hx
   ·rw [List.filter_cons_of_pos (by simp [hk])]
    congr 1
    rw [List.filter_eq_nil_iff];intro y hy hyc;exact hn.1 (List.mem_map.2 ⟨y,hy,by rw [hk];simpa using hyc⟩)
   ·rw [List.filter_cons_of_neg,ih hn.2 x hx hk];intro hz;exact hn.1 (List.mem_map.2 ⟨x,hx,by rw [hk];simpa using (eq_of_beq hz).symm⟩)
 by_cases hex:∃x,x∈X∧key x=c
 ·obtain ⟨x,hx,hk⟩:=hex;rw [one hX x hx hk,one hY x ((h x).1 hx) hk]
 ·have e1:X.filter (fun z=>key z==c)=[]:=by
   rw [List.filter_eq_nil_iff];intro y hy hyc;exact hex ⟨y,hy,by simpa using hyc⟩
  have e2:Y.filter (fun z=>key z==c)=[]:=by
   rw [List.filter_eq_nil_iff];intro y hy hyc;exact hex ⟨y,(h y).2 hy,by simpa using hyc⟩
  rw [e1,e2]
def Disj (p q:Cl):Prop:=∀n,n<256→p.has n=true→q.has n=false
theorem lk_ne {p q:Cl} (hp:0<p.count) (hq:0<q.count) (h:Disj p q):lk0 p≠lk0 q:=by
 obtain ⟨n,n1,n2,n3,n4⟩:=zq6 hp;obtain ⟨m,m1,m2,m3,m4⟩:=zq6 hq;unfold lk0;rw [n2,m2];intro he;have:n=m:=by simp at he;omega
 subst this;rw [h n n1 n3] at m3;cases m3
theorem nodup_lk {X:List Cl} (hd:X.Pairwise Disj) (hc:∀x∈X,0<x.count):(X.map lk0).Nodup:=by
 refine List.pairwise_map.2 ?_;refine hd.imp_of_mem fun {a b} ha hb h=>lk_ne (hc a ha) (hc b hb) h
theorem zhj {a p x:Cl}:x∈zgx a p↔(x=p &&& a∨x=p &&& ~~~ a)∧0<x.count:=by
 simp [zgx]
theorem zno {a p x:Cl} (h:x∈zgx a p) {n:Nat} (hx:x.has n=true):p.has n=true:=by
 rcases (zhj.1 h).1 with rfl | rfl <;> rw [zj6] at hx <;> simp at hx <;> exact hx.1
theorem pieces_disj (a p:Cl):(zgx a p).Pairwise Disj:=by
 unfold zgx;refine List.Pairwise.filter _ ?_;simp only [List.pairwise_cons,List.mem_singleton,forall_eq,List.not_mem_nil,false_implies,implies_true,List.Pairwise.nil,and_true];intro n hn h;rw [zj6] at h ⊢;rw [zn7 hn];simp at h ⊢;simp [h.2]
theorem zpn (l:List Cl):(parts l).Pairwise Disj:=by
 unfold parts;refine List.pairwise_map.2 ?_;refine List.pairwise_iff_getElem.2 fun i j hi hj hij n hn h=>?_;have hlt:=List.pairwise_iff_getElem.1 (zl6 l) i j hi hj hij;obtain ⟨_,h2⟩:=zgk.1 (List.getElem_mem hj);rw [zeb hn] at h ⊢;cases h3:zjl l (zfx l)[j] n
 ·rfl
 ·have:=h2 _ hlt;rw [zjb h (zkp h3)] at this;cases this
theorem parts_pos {l:List Cl} {p:Cl} (h:p∈parts l):0<p.count:=by
 obtain ⟨c,hc,rfl⟩:=List.mem_map.1 h;have h1:=(zgk.1 hc).1;exact count_pos h1 (by rw [zeb h1];exact zn3 l c)
theorem flat_disj {ps:List Cl} (h:ps.Pairwise Disj) (a:Cl):(ps.flatMap (zgx a)).Pairwise Disj:=by
 rw [List.pairwise_flatMap];refine ⟨fun p _=>pieces_disj a p,h.imp fun {p q} hpq x hx y hy n hn hxn=>?_⟩;cases hy':y.has n
 ·rfl
 ·have:=hpq n hn (zno hx hxn);rw [zno hy hy'] at this;cases this
theorem like_snoc (l:List Cl) (a:Cl) (c d:Nat):zjl (l++[a]) c d=(zjl l c d&&(a.has c==a.has d)):=by simp [zjl]
theorem mem_split (l:List Cl) (a x:Cl):x∈(parts l).flatMap (zgx a)↔x∈parts (l++[a]):=by
 have key:∀h h':Nat,zjl l h h'=true→h' < 256→∀x:Cl,(a.has h'=true∧x=part l h &&& a∨a.has h'=false∧x=part l h &&& ~~~ a)→x=part (l++[a]) h':=by
  intro h h' hh h1 x hx;apply Cl.ext;intro d hd;rw [zeb hd,like_snoc];have e:zjl l h' d=zjl l h d:=by
   have:=congrArg (fun p:Cl=>p.has d) (part_eq hh);simp only [zeb hd] at this;exact this.symm
  rw [e];rcases hx with ⟨h2,rfl⟩ | ⟨h2,rfl⟩
  ·rw [zj6,zeb hd,h2];cases a.has d <;> simp
  ·rw [zj6,zn7 hd,zeb hd,h2];cases a.has d <;> simp
 constructor
 ·intro hx;obtain ⟨p,hp,hxp⟩:=List.mem_flatMap.1 hx;obtain ⟨h,hh,rfl⟩:=List.mem_map.1 hp;obtain ⟨hx1,hx2⟩:=zhj.1 hxp;obtain ⟨n,n1,n2,n3,n4⟩:=zq6 hx2;have hn:=zno hxp n3;rw [zeb n1] at hn;have hxe:x=part (l++[a]) n:=key h n hn n1 x (by
   rcases hx1 with rfl | rfl
   ·rw [zj6] at n3;simp at n3;exact .inl ⟨n3.2,rfl⟩
   ·rw [zj6,zn7 n1] at n3;simp at n3;exact .inr ⟨n3.2,rfl⟩)
  refine List.mem_map.2 ⟨n,zgk.2 ⟨n1,fun d hd=>?_⟩,hxe.symm⟩;cases hl:zjl (l++[a]) d n
  ·rfl
  ·have:=n4 d hd;rw [hxe,zeb (by omega),zkp hl] at this;cases this
 ·intro hx;obtain ⟨n,hn,rfl⟩:=List.mem_map.1 hx;have n1:=(zgk.1 hn).1;obtain ⟨h,hh,_,h3⟩:=head_of (l:=l) n1;have hpos:=parts_pos hx;cases ha:a.has n
  ·have e:=key h n h3 n1 _ (.inr ⟨ha,rfl⟩);exact List.mem_flatMap.2 ⟨_,List.mem_map.2 ⟨h,hh,rfl⟩,zhj.2 ⟨.inr e.symm,hpos⟩⟩
  ·have e:=key h n h3 n1 _ (.inl ⟨ha,rfl⟩);exact List.mem_flatMap.2 ⟨_,List.mem_map.2 ⟨h,hh,rfl⟩,zhj.2 ⟨.inl e.symm,hpos⟩⟩
theorem splitR_parts (l:List Cl) (a:Cl):zm9 (parts l) a=parts (l++[a]):=by
 unfold zm9;refine (zh8 (parts_srt _) (seq_of_mem ?_ ?_ (mem_split l a))).symm
 ·exact nodup_lk (flat_disj (zpn l) a) fun x hx=>by
   obtain ⟨p,_,hxp⟩:=List.mem_flatMap.1 hx;exact (zhj.1 hxp).2
 ·exact nodup_lk (zpn _) fun x hx=>parts_pos hx
theorem parts_nil:parts []=[~~~ (0#256)]:=by
 have h:zfx []=[0]:=by decide +kernel
 unfold parts;rw [h];simp only [List.map_cons,List.map_nil,List.cons.injEq,and_true];apply Cl.ext;intro c hc;rw [zeb hc,zn7 hc,has_zero];rfl
theorem splitP_eq (l:List Cl):zgs l=parts l:=by
 have:∀(l pre:List Cl),l.foldl zm9 (parts pre)=parts (pre++l):=by
  intro l
  induction l with
  | nil=>intro pre;simp
  | cons a l ih=>intro pre;rw [List.foldl_cons,splitR_parts,ih];simp
 have:=this l [];rw [parts_nil] at this;simpa [zgs] using this
theorem heads_len (l:List Cl):(zfx l).length≤256:=by
 have:=List.length_filter_le (fun c=>(List.range c).all fun d=>!zjl l d c) (List.range 256);simpa [zfx] using this
theorem znb (l:List Cl):zpi l=(zfx l).map (fun n:Nat=>(n:Int)):=by rw [zpi,splitP_eq,parts_lk]
abbrev Rs (l:List (List SItem)):Prop:=l.Pairwise (fun a b=>zek a b<0)
def insS (t:List SItem):List (List SItem)→List (List SItem)
 | []=>[t]
 | c::l=>if zek t c<0 then t::c::l else if zek t c=0 then c::l else c::insS t l
def zj0 (L:List (List SItem)):List (List SItem):=L.foldr insS []
theorem zrg {t u:List SItem}:∀{l:List (List SItem)},u∈insS t l↔u=t∨u∈l
 | []=>by simp [insS]
 | c::l=>by
  unfold insS;split
  ·simp
  ·split
   ·rename_i h
    rw [zd8.1 h];simp
   ·rw [List.mem_cons,zrg,List.mem_cons];constructor
    ·rintro (h | h | h)
     ·exact .inr (.inl h)
     ·exact .inl h
     ·exact .inr (.inr h)
    ·rintro (h | h | h)
     ·exact .inr (.inl h)
     ·exact .inl h
     ·exact .inr (.inr h)
theorem insS_srt {t:List SItem}:∀{l:List (List SItem)},Rs l→Rs (insS t l)
 | [],_=>by simp [insS]
 | c::l,h=>by
  unfold insS;have h':=List.pairwise_cons.1 h;split
  ·rename_i h1
   exact List.pairwise_cons.2 ⟨fun x hx=>(List.mem_cons.1 hx).elim (fun e=>by rw [e];exact h1) fun hx=>zga h1 (h'.1 x hx),h⟩
  ·split
   ·exact h
   ·rename_i h1 h2
    have h3:zek c t<0:=by
     have:=zfy t c;omega
    refine List.pairwise_cons.2 ⟨fun x hx=>?_,insS_srt h'.2⟩;rcases zrg.1 hx with rfl | hx
    ·exact h3
    ·exact h'.1 x hx
theorem zd5 {u:List SItem}:∀{L:List (List SItem)},u∈zj0 L↔u∈L
 | []=>by simp [zj0]
 | t::L=>by
  show u∈insS t (zj0 L)↔_;rw [zrg,zd5,List.mem_cons]
theorem zfs:∀L:List (List SItem),Rs (zj0 L)
 | []=>List.Pairwise.nil
 | t::L=>insS_srt (zfs L)
theorem zqd {l:List (List SItem)} (h:Rs l):l.Nodup:=h.imp fun {a b} h e=>by subst e;exact zg0 h
theorem rs_uniq {a b:List (List SItem)} (ha:Rs a) (hb:Rs b) (h:∀x,x∈a↔x∈b):a=b:=by
 have:=zka (B:=a.map fun t=>((t,0):SBranch)) (C:=b.map fun t=>((t,0):SBranch)) (List.pairwise_map.2 ha) (List.pairwise_map.2 hb) fun x=>by
  simp only [List.mem_map];constructor
  ·rintro ⟨t,ht,rfl⟩;exact ⟨t,(h t).1 ht,rfl⟩
  ·rintro ⟨t,ht,rfl⟩;exact ⟨t,(h t).2 ht,rfl⟩
 have h2:=congrArg (List.map (·.1)) this;simpa [List.map_map,Function.comp_def] using h2
theorem znf {A K:List (List SItem)} (h:∀x∈A,x∈K):(zj0 A).length≤K.length:=zh0 (zqd (zfs A)) fun t ht=>h t (zd5.1 ht)
theorem can_set {f:List SItem→Nat} {B:List SBranch} (h:Can f B) {A:List (List SItem)} (e:∀t,f t≠0↔t∈A):B.map (·.1)=zj0 A:=by
 refine rs_uniq ?_ (zfs A) fun t=>by rw [h.keys,e,zd5]
 exact List.pairwise_map.2 h.srt
def onS (d:List SNode) (c:Int) (l:List (List SItem)):List (List SItem):=zj0 (l.flatMap (zd1 d c))
def endS (d:List SNode) (l:List (List SItem)):Bool:=l.any fun s=>decide ((hds d s).count []≠0)
abbrev stS (d:List SNode):List SItem:=[(1,(d.length:Int)-1,0,0)]
def zd3 (d:List SNode) (w:List Int):List (List SItem):=w.foldl (fun l c=>onS d c l) [stS d]
theorem zk3 (d:List SNode):zd3 d []=[stS d]:=rfl
theorem zdx (d:List SNode) (w:List Int) (c:Int):zd3 d (w++[c])=onS d c (zd3 d w):=by unfold zd3;rw [List.foldl_append];rfl
theorem zlj {d:List SNode} {c:Int} {l:List (List SItem)} {t:List SItem}:t∈onS d c l↔∃s∈l,t∈zd1 d c s:=by unfold onS;rw [zd5,List.mem_flatMap]
theorem zpz {p:List Int→Prop} (h0:p []) (hs:∀w c,p w→p (w++[c])) (w:List Int):p w:=by
 have:∀n (w:List Int),w.length=n→p w:=by
  intro n
  induction n with
  | zero=>intro w hw;rw [List.length_eq_zero_iff.1 hw];exact h0
  | succ n ih=>
   intro w hw;have hne:w≠[]:=fun e=>by subst e;simp at hw
   rw [← List.dropLast_concat_getLast hne];exact hs _ _ (ih _ (by simp [hw]))
 exact this _ w rfl
theorem zjh {d:List SNode} {t:List SItem} (w:List Int):t∈zd3 d w↔t∈zcu d w (stS d):=by
 revert t
 refine zpz (p:=fun w=>∀{t:List SItem},t∈zd3 d w↔t∈zcu d w (stS d)) ?_ ?_ w
 ·intro t;rw [zk3,zcu]
 ·intro w c ih t;rw [zdx,zlj,zpu,List.mem_flatMap];constructor
  ·rintro ⟨s,h1,h2⟩;exact ⟨s,ih.1 h1,h2⟩
  ·rintro ⟨s,h1,h2⟩;exact ⟨s,ih.2 h1,h2⟩
theorem aftS_srt (d:List SNode) (w:List Int):Rs (zd3 d w):=by
 refine zpz (p:=fun w=>Rs (zd3 d w)) ?_ (fun w c _=>?_) w
 ·rw [zk3];simp
 ·rw [zdx];exact zfs _
theorem aftS_set (d:List SNode) (w:List Int):zd3 d w=zj0 (zcu d w (stS d)):=rs_uniq (aftS_srt d w) (zfs _) fun t=>by rw [zjh,zd5]
theorem endS_iff {d:List SNode} {l:List (List SItem)}:endS d l=true↔∃s∈l,(hds d s).count []≠0:=by simp [endS]
theorem sumF_ne (F:List SItem→Nat):∀L:List (List SItem),zc5 F L≠0↔∃t∈L,F t≠0
 | []=>by simp [zc5]
 | t::L=>by
  have e:zc5 F (t::L)=F t+zc5 F L:=by simp [zc5]
  have ih:=sumF_ne F L;rw [e];constructor
  ·intro h
   by_cases h0:F t=0
   ·obtain ⟨u,h1,h2⟩:=ih.1 (by omega);exact ⟨u,by simp [h1],h2⟩
   ·exact ⟨t,by simp,h0⟩
  ·rintro ⟨u,h1,h2⟩;rcases List.mem_cons.1 h1 with rfl | h1
   ·omega
   ·have:=ih.2 ⟨u,h1,h2⟩;omega
theorem endS_word (d:List SNode) (w:List Int):endS d (zd3 d w)=true↔znt d ((d.length:Int)-1) w≠0:=by
 unfold znt;rw [wyn_ends,sumF_ne,endS_iff];constructor
 ·rintro ⟨s,h1,h2⟩;exact ⟨s,(zjh w).1 h1,h2⟩
 ·rintro ⟨s,h1,h2⟩;exact ⟨s,(zjh w).2 h1,h2⟩
theorem zg9 {d:List SNode} (h:Rt d) (hl:d.length≤24) (ht:Txt d) {w:List Int} (hw:∀c∈w,InR .u8 c) {u:List SItem} (hu:u∈zd3 d w):Sm d u∧u.length≤24:=after_sm h hl ht hw ((zjh w).1 hu)
theorem zrr {d:List SNode} (h:Rt d) {w:List Int} (hw:∀c∈w,InR .u8 c):(zd3 d w).length≤pas d.length w.length:=by
 obtain ⟨K,k1,k2⟩:=after_cov h fun c hc=>(zgy.1 (hw c hc)).1;rw [aftS_set];exact Nat.le_trans (znf k2) k1
def canB (d:List SNode) (s:List SItem):List SBranch:=(zj0 (hds d s)).map fun t=>(t,sat ((hds d s).count t))
theorem canB_can (d:List SNode) (s:List SItem):Can (fun t=>(hds d s).count t) (canB d s):=by
 refine ⟨List.pairwise_map.2 (zfs _),fun t m=>?_⟩;unfold canB;simp only [List.mem_map,Prod.mk.injEq];constructor
 ·rintro ⟨u,h1,rfl,h2⟩;have:=List.count_pos_iff.2 (zd5.1 h1);exact ⟨by omega,h2.symm⟩
 ·rintro ⟨h1,h2⟩;exact ⟨t,zd5.2 (List.count_pos_iff.1 (by omega)),rfl,h2.symm⟩
def clsA (d:List SNode) (s:List SItem):List Cl:=zj8 d (canB d s)
def zih (d:List SNode) (l:List (List SItem)):List Cl:=l.flatMap (clsA d)
theorem clsA_in {d:List SNode} {s:List SItem} (h:Sm d s):zbh d s (clsA d s)∧zbb d s (clsA d s)∧(clsA d s).length≤256*10001:=by
 obtain ⟨B,b1,b2,b3⟩:=classes_both h;have e:=b1.uniq (canB_can d s);subst e;have:=zkt d (canB d s);have:=(h.hok b1).few;exact ⟨b2,b3,by unfold clsA;omega⟩
theorem clsA_mem {d:List SNode} {s t:List SItem} (h:t∈hds d s):∀x∈clsF d t,x∈clsA d s:=fun x hx=>by
 unfold clsA zj8;exact List.mem_flatMap.2 ⟨(t,sat ((hds d s).count t)),List.mem_map.2 ⟨t,zd5.2 h,rfl⟩,hx⟩
theorem step_like {d:List SNode} {s:List SItem} (h:Sm d s) {a b:Int} (ha:InR .u8 a) (hb:InR .u8 b) (hx:∀x∈clsA d s,x.has a.toNat=x.has b.toNat):zd1 d a s=zd1 d b s:=by
 have hd:=h.rt.toROk;unfold zd1;have key:∀t∈hds d s,zbc d t a=zbc d t b:=fun t ht=>by
  obtain ⟨L,⟨k,hk⟩,hp⟩:=zpt hd s h.form;obtain ⟨h3,h4⟩:=lv_vs hd (n0:=s.length) k s L hk (Vs.start h.form (Nat.le_refl _)) t (hp.mem_iff.2 ht);exact read_same h3.form h4 ha hb fun x hxx=>hx x (clsA_mem ht x hxx)
 have:∀L:List (List SItem),(∀t∈L,zbc d t a=zbc d t b)→L.filterMap (fun t=>if (zbc d t a).2=true then some (zbc d t a).1 else none)=L.filterMap (fun t=>if (zbc d t b).2=true then some (zbc d t b).1 else none):=by
  intro L
  induction L with
  | nil=>intro _;rfl
  | cons t L ih=>
   intro hL;rw [List.filterMap_cons,List.filterMap_cons,hL t (by simp),ih fun u hu=>hL u (by simp [hu])]
 exact this _ key
theorem zqz {d:List SNode} {l:List (List SItem)} (h:∀s∈l,Sm d s) {a b:Int} (ha:InR .u8 a) (hb:InR .u8 b) (hx:∀x∈zih d l,x.has a.toNat=x.has b.toNat):onS d a l=onS d b l:=by
 unfold onS
 congr 1
 have:∀s∈l,zd1 d a s=zd1 d b s:=fun s hs=>step_like (h s hs) ha hb fun x hxx=>hx x (List.mem_flatMap.2 ⟨s,hs,hxx⟩);clear hx
 induction l with
 | nil=>rfl
 | cons s l ih=>rw [List.flatMap_cons,List.flatMap_cons,this s (by simp),ih (fun u hu=>h u (by simp [hu])) fun u hu=>this u (by simp [hu])]
def zfu (l:List Cl):List Cl:=l.foldl (fun o a=>if a∈o then o else o++[a]) []
theorem zi9 (l:List Cl) (a:Cl):zfu (l++[a])=if a∈zfu l then zfu l else zfu l++[a]:=by unfold zfu;rw [List.foldl_append];rfl
theorem cl_ind {p:List Cl→Prop} (h0:p []) (hs:∀w c,p w→p (w++[c])) (w:List Cl):p w:=by
 have:∀n (w:List Cl),w.length=n→p w:=by
  intro n
  induction n with
  | zero=>intro w hw;rw [List.length_eq_zero_iff.1 hw];exact h0
  | succ n ih=>
   intro w hw;have hne:w≠[]:=fun e=>by subst e;simp at hw
   rw [← List.dropLast_concat_getLast hne];exact hs _ _ (ih _ (by simp [hw]))
 exact this _ w rfl
theorem zgj {x:Cl} (l:List Cl):x∈zfu l↔x∈l:=by
 refine cl_ind (p:=fun l=>x∈zfu l↔x∈l) (by simp [zfu]) (fun l a ih=>?_) l;rw [zi9]
 by_cases h:a∈zfu l
 ·rw [if_pos h,List.mem_append,ih,List.mem_singleton];constructor
  ·exact .inl
  ·rintro (h1 | rfl)
   ·exact h1
   ·exact ih.1 h
 ·rw [if_neg h,List.mem_append,List.mem_append,ih]
theorem zj1 (l:List Cl):(zfu l).Nodup:=by
 refine cl_ind (p:=fun l=>(zfu l).Nodup) (by simp [zfu]) (fun l a ih=>?_) l;rw [zi9];split
 ·exact ih
 ·rename_i h
  rw [List.nodup_append];exact ⟨ih,by simp,fun x hx y hy e=>by rw [List.mem_singleton.1 hy] at e;subst e;exact h hx⟩
theorem like_mem {l m:List Cl} (h:∀x,x∈l↔x∈m) (c e:Nat):zjl l c e=zjl m c e:=by
 unfold zjl;rw [Bool.eq_iff_iff,List.all_eq_true,List.all_eq_true];exact ⟨fun k x hx=>k x ((h x).2 hx),fun k x hx=>k x ((h x).1 hx)⟩
theorem splitH_mem {l m:List Cl} (h:∀x,x∈l↔x∈m):zpi l=zpi m:=by
 rw [znb,znb];have:zfx l=zfx m:=by
  unfold zfx;refine List.filter_congr fun c _=>?_
  congr 1
  funext d;rw [like_mem h]
 rw [this]
def bytC (l:List Cl):List Int:=zpi (zfu l)
def bytS (d:List SNode) (l:List (List SItem)):List Int:=bytC (zih d l)
theorem zlr (l:List Cl):bytC l=(zfx l).map fun n:Nat=>(n:Int):=by
 unfold bytC;rw [splitH_mem (m:=l) fun x=>zgj l,znb]
theorem zjg (l:List Cl):(bytC l).length≤256:=by rw [zlr,List.length_map];exact heads_len l
theorem zoi {l:List Cl} {b:Int} (h:b∈bytC l):InR .u8 b:=by
 rw [zlr] at h;obtain ⟨n,h1,rfl⟩:=List.mem_map.1 h;have:=(zgk.1 h1).1;exact zgy.2 ⟨by omega,by omega⟩
theorem bytC_of (l:List Cl) {c:Int} (hc:InR .u8 c):∃b∈bytC l,b≤c∧∀x∈l,x.has b.toNat=x.has c.toNat:=by
 have hc':=zgy.1 hc;obtain ⟨h,h1,h2,h3⟩:=head_of (l:=l) (c:=c.toNat) (by omega);refine ⟨(h:Int),by rw [zlr];exact List.mem_map.2 ⟨h,h1,rfl⟩,by omega,fun x hx=>?_⟩;unfold zjl at h3;rw [List.all_eq_true] at h3;have:=h3 x hx;simpa using this
theorem onS_byte {d:List SNode} {l:List (List SItem)} (h:∀s∈l,Sm d s) {c:Int} (hc:InR .u8 c):∃b∈bytS d l,b≤c∧onS d b l=onS d c l:=by
 obtain ⟨b,h1,h2,h3⟩:=bytC_of (zih d l) hc;exact ⟨b,h1,h2,zqz h (zoi h1) hc h3⟩
def szN (d:List SNode):Nat→Int→Nat
 | 0,_=>0
 | k+1,i=>match at? d i with
  | none=>0
  | some n=>if n.1=2 then 1 else if n.1=3 then n.2.2.2.2.2.2.length else if n.1=4∨n.1=5 then szN d k n.2.1+szN d k n.2.2.1 else if n.1=6 then szN d k n.2.1 else if n.1=7 then n.2.2.2.2.1.toNat*szN d k n.2.1 else 0
theorem zld (m:Nat):∀k,sumN (fun _=>m) k=k*m
 | 0=>by simp [sumN]
 | k+1=>by
  show sumN (fun _=>m) k+m=_;rw [zld m k,Nat.succ_mul]
def nf (d:List SNode):Nat→Int→Bool
 | 0,_=>true
 | k+1,i=>match at? d i with
  | none=>true
  | some n=>if n.1=8∨n.1=9 then false else if n.1=4∨n.1=5 then nf d k n.2.1&&nf d k n.2.2.1 else if n.1=6 then nf d k n.2.1 else if n.1=7 then decide (n.2.2.2.2.1≤0)||nf d k n.2.1 else true
def NoFr (d:List SNode):Prop:=nf d d.length ((d.length:Int)-1)=true
theorem at_mem {d:List SNode} {i:Int} {e:SNode} (he:at? d i=some e):e∈d:=by
 unfold at? at he;split at he
 ·exact List.mem_of_getElem? he
 ·cases he
theorem nf_of {d:List SNode} (h:∀n∈d,n.1≠8∧n.1≠9):∀(k:Nat) (i:Int),nf d k i=true
 | 0,_=>rfl
 | k+1,i=>by
  unfold nf;cases hn:at? d i with
  | none=>rfl
  | some n=>
   have:=h n (at_mem hn);simp only [nf_of h k];rw [if_neg (by omega)];simp
theorem cov_sz {d:List SNode} (hd:ROk d) {f i:Int} (h:Tr d f i):∀k,(i-f+1).toNat≤k→nf d k i=true→Cov (szN d k i) (fun u=>∃w,Rch d [(1,i,0,0)] w u):=by
 induction h with
 | leaf he hk hx h0=>
  rename_i i e
  intro k hk2 hnf;obtain ⟨k,rfl⟩:∃q,k=q+1:=⟨k-1,by omega⟩;have hs:szN d (k+1) i=if e.1=2 then 1 else if e.1=3 then e.2.2.2.2.2.2.length else if e.1=4∨e.1=5 then szN d k e.2.1+szN d k e.2.2.1 else if e.1=6 then szN d k e.2.1 else if e.1=7 then e.2.2.2.2.1.toNat*szN d k e.2.1 else 0:=by
   simp only [szN,he]
  rw [hs];rcases hk with k1 | k1 | k1
  ·exact Cov.none (fun u ⟨w,hu⟩=>znl hd he k1 hu) _
  ·rw [if_pos k1];exact Cov.one [] fun u ⟨w,hu⟩=>znm hd he k1 hu
  ·rw [if_neg (by omega),if_pos k1];have:=Cov.sum (f:=fun _=>1) (p:=fun j u=>u=if j+1<e.2.2.2.2.2.2.length then [(3,i,((j+1:Nat):Int),0)] else []) e.2.2.2.2.2.2.length fun j hj=>Cov.one _ fun u hu=>hu;refine this.weak (by rw [zld];omega) fun u ⟨w,hu⟩=>?_;obtain ⟨j,_,h1,h2⟩:=zqq hd he k1 hu;exact ⟨j,h1,h2⟩
 | one he hk ha hb hr h ih=>
  rename_i f i e
  intro k hk2 hnf;have hle:=h.le;obtain ⟨k,rfl⟩:∃q,k=q+1:=⟨k-1,by omega⟩;have hs:szN d (k+1) i=if e.1=2 then 1 else if e.1=3 then e.2.2.2.2.2.2.length else if e.1=4∨e.1=5 then szN d k e.2.1+szN d k e.2.2.1 else if e.1=6 then szN d k e.2.1 else if e.1=7 then e.2.2.2.2.1.toNat*szN d k e.2.1 else 0:=by
   simp only [szN,he]
  have ih:=ih k (by omega);unfold nf at hnf;simp only [he] at hnf;rw [hs];rcases hk with k1 | k1 | k1 | k1
  ·rw [if_neg (by omega),if_neg (by omega),if_neg (by omega),if_pos k1,ha];rw [if_neg (by omega),if_neg (by omega),if_pos k1,ha] at hnf;refine (ih hnf).map (·++[(1,i,0,0)]) fun u ⟨w,hu⟩=>?_;obtain ⟨t,h1,h2⟩:=zqr hd he k1 hu;rw [ha] at h1;exact ⟨t,⟨w,h1⟩,h2⟩
  ·rw [if_neg (by omega),if_neg (by omega),if_neg (by omega),if_neg (by omega),if_pos k1,ha];rw [if_neg (by omega),if_neg (by omega),if_neg (by omega),if_pos k1,ha,Bool.or_eq_true,decide_eq_true_iff] at hnf;rcases Int.lt_or_le 0 e.2.2.2.2.1 with h0 | h0
   rotate_left
   ·refine Cov.none (fun u ⟨w,hu⟩=>?_) _;obtain ⟨t,_,h1,_⟩:=zqs hd he k1 hu;omega
   have ih:=ih (hnf.resolve_left (by omega));have:=Cov.sum (f:=fun _=>szN d k (i-1)) (p:=fun t u=>∃u',(∃w,Rch d [(1,i-1,0,0)] w u')∧u=u'++[zis i e (t+1)]) e.2.2.2.2.1.toNat fun t ht=>ih.map (·++[zis i e (t+1)]) fun u hu=>hu;refine this.weak (by rw [zld];omega) fun u ⟨w,hu⟩=>?_;obtain ⟨t,_,h1,u',h2,h3⟩:=zqs hd he k1 hu;rw [ha] at h2;exact ⟨t,by omega,u',⟨_,h2⟩,h3⟩
  ·rw [if_pos (.inl k1)] at hnf;cases hnf
  ·rw [if_pos (.inr k1)] at hnf;cases hnf
 | two he hk ha hb h1 h2 i1 i2=>
  rename_i f p i e
  intro k hk2 hnf;have l1:=h1.le;have l2:=h2.le;obtain ⟨k,rfl⟩:∃q,k=q+1:=⟨k-1,by omega⟩;have hs:szN d (k+1) i=if e.1=2 then 1 else if e.1=3 then e.2.2.2.2.2.2.length else if e.1=4∨e.1=5 then szN d k e.2.1+szN d k e.2.2.1 else if e.1=6 then szN d k e.2.1 else if e.1=7 then e.2.2.2.2.1.toNat*szN d k e.2.1 else 0:=by
   simp only [szN,he]
  unfold nf at hnf;simp only [he] at hnf;rw [if_neg (by omega),if_pos hk,ha,hb,Bool.and_eq_true] at hnf;have j1:=i1 k (by omega) hnf.2;have j2:=i2 k (by omega) hnf.1;rw [hs,if_neg (by omega),if_neg (by omega),if_pos hk,ha,hb];rcases hk with k1 | k1
  ·refine (j2.map (·++[(1,i-1,0,0)]) (r:=fun u=>∃t,(∃w,Rch d [(1,p-1,0,0)] w t)∧u=t++[(1,i-1,0,0)]) fun u hu=>hu).or j1 fun u ⟨w,hu⟩=>?_;have:=rch_seq hd he k1 hu;rw [ha,hb] at this;exact this.imp (fun ⟨t,a,b⟩=>⟨t,⟨w,a⟩,b⟩) fun a=>⟨w,a⟩
  ·refine j2.or j1 fun u ⟨w,hu⟩=>?_;have:=rch_or hd he k1 hu;rw [ha,hb] at this;exact this.imp (fun a=>⟨w,a⟩) fun a=>⟨w,a⟩
theorem all_cov {d:List SNode} (h:Rt d) (hn:NoFr d):Cov (szN d d.length ((d.length:Int)-1)+1) (fun u=>∃w,u∈zcu d w (stS d)):=by
 refine ((cov_sz h.toROk h.tr d.length (by omega) hn).or (Cov.one (stS d) (p:=fun u=>u=stS d) fun u hu=>hu) fun u ⟨w,hu⟩=>?_);cases w with
 | nil=>
  rw [zcu,List.mem_singleton] at hu;exact .inr hu
 | cons c w=>exact .inl ⟨c::w,[],c::w,rfl,by simp,hu⟩
theorem aftS_all {d:List SNode} (h:Rt d) (hn:NoFr d):∃K:List (List SItem),K.length≤szN d d.length ((d.length:Int)-1)+1∧∀w,∀t∈zd3 d w,t∈K:=by
 obtain ⟨K,h1,h2⟩:=all_cov h hn;exact ⟨K,h1,fun w t ht=>h2 t ⟨w,(zjh w).1 ht⟩⟩
theorem aftS_few {d:List SNode} (h:Rt d) (hn:NoFr d) (w:List Int):(zd3 d w).length≤szN d d.length ((d.length:Int)-1)+1:=by
 obtain ⟨K,h1,h2⟩:=aftS_all h hn;exact Nat.le_trans (zh0 (zqd (aftS_srt d w)) (h2 w)) h1
theorem canB_len {d:List SNode} (h:Rt d) (s:List SItem):(canB d s).length≤s.length*(d.length+1)+1:=by
 unfold canB;rw [List.length_map];exact Nat.le_trans (znf fun t ht=>hds_CS d s t ht) (CS_few h s)
theorem clsA_len {d:List SNode} (h:Rt d) (s:List SItem):(clsA d s).length≤256*(s.length*(d.length+1)+1):=by
 have h1:=zkt d (canB d s);have h2:=canB_len h s;unfold clsA;omega
theorem zrn {d:List SNode} (h:Rt d) {m:Nat}:∀l:List (List SItem),(∀s∈l,s.length≤m)→(zih d l).length≤256*(m*(d.length+1)+1)*l.length
 | [],_=>by simp [zih]
 | s::l,hm=>by
  have h1:=clsA_len h s;have h2:=zrn h l fun u hu=>hm u (by simp [hu]);have h3:s.length*(d.length+1)≤m*(d.length+1):=Nat.mul_le_mul_right _ (hm s (by simp));have e:zih d (s::l)=clsA d s++zih d l:=by simp [zih]
  rw [e,List.length_append,List.length_cons,Nat.mul_add];omega
theorem clsF_of (d:List SNode) (t:List SItem) (hb:∀n∈d,True):∀x∈clsF d t,x∈sing++d.map fun n=>n.2.2.2.2.2.1:=by
 intro x hx;cases t with
 | nil=>cases hx
 | cons y t=>
  simp only [clsF] at hx;cases hn:at? d y.2.1 with
  | none=>rw [hn] at hx;cases hx
  | some n=>
   rw [hn] at hx;simp only at hx;have hm:n∈d:=by
    unfold at? at hn;split at hn
    ·exact List.mem_of_getElem? hn
    ·cases hn
   split at hx
   ·rw [List.mem_singleton] at hx;refine List.mem_append.2 (.inl ?_);have hr:0≤(zd2 n.2.2.2.2.2.2 y.2.2.1).getD 0∧(zd2 n.2.2.2.2.2.2 y.2.2.1).getD 0≤255:=by
     cases hq:zd2 n.2.2.2.2.2.2 y.2.2.1 with
     | none=>simp
     | some c=>exact byte_u8 hq
    rw [hx];refine List.mem_map.2 ⟨((zd2 n.2.2.2.2.2.2 y.2.2.1).getD 0).toNat,by simp;omega, ?_⟩;have e:((((zd2 n.2.2.2.2.2.2 y.2.2.1).getD 0).toNat:Nat):Int) % 256=(zd2 n.2.2.2.2.2.2 y.2.2.1).getD 0:=by omega
    rw [e]
   ·split at hx
    ·rw [List.mem_singleton] at hx;exact List.mem_append.2 (.inr (List.mem_map.2 ⟨n,hm,hx.symm⟩))
    ·exact List.mem_append.2 (.inl hx)
theorem once_few (d:List SNode) (l:List (List SItem)):(zfu (zih d l)).length≤256+d.length:=by
 have h1:=zh0 (U:=sing++d.map fun n=>n.2.2.2.2.2.1) (zj1 (zih d l)) fun x hx=>by
  obtain ⟨s,_,h2⟩:=List.mem_flatMap.1 ((zgj _).1 hx);unfold clsA zj8 at h2;obtain ⟨b,_,h3⟩:=List.mem_flatMap.1 h2;exact clsF_of d b.1 (fun _ _=>trivial) x h3
 rw [List.length_append,List.length_map,zgu] at h1;exact h1
theorem zg7 {a:Cl}:zb0 a a.least:=by
 refine zha (P:=fun k (_:Unit) v=>zb0.l1 a a.least _ k v) 256 (fun i _=>∀m,m<i→a.has m=false) ?_ ?_ () (by intro m hm;omega)
 ·intro i s hi hs;cases hc:a.has i
  ·refine .inr ⟨(),fun m hm=>?_,fun k h=>⟨fun _=>⟨a.has i,zh5 hi,fun h2=>by simp [hc] at h2,fun _=>⟨zi (by omega) (by omega),h⟩⟩,fun h=>absurd (by omega) (df h)⟩⟩
   by_cases e:m=i
   ·subst e;exact hc
   ·exact hs m (by omega)
  ·refine .inl fun k=>⟨fun _=>⟨a.has i,zh5 hi,fun _=>?_,fun h2=>by simp [hc] at h2⟩,fun h=>absurd (by omega) (df h)⟩;rw [show ((i:Int) % 256)=i by omega];exact least_of hi hc hs
 ·intro s hs k;exact ⟨fun h=>absurd (dt h) (by omega),fun _=>by first | exact zh1 hs | (show zb0.j1 _ _;exact zh1 hs)⟩
theorem zo4 {a:Cl}:zb6 a (a.count:Int):=by
 refine zha (P:=fun k (s:Int) v=>zb6.l1 a _ k s v) 256 (fun i s=>s=(((List.range i).countP a.has:Nat):Int)) ?_ ?_ _ (by simp)
 ·rintro i s hi rfl;have hle:=List.countP_le_length (l:=List.range i) (p:=a.has);simp only [List.length_range] at hle;refine .inr ⟨_,rfl,fun k h=>⟨fun _=>⟨a.has i,zh5 hi,fun hc=>?_,fun hc=>?_⟩,fun h=>absurd (by omega) (df h)⟩⟩
  ·rw [List.range_succ,List.countP_append,List.countP_singleton,hc] at h;exact ⟨zi (by omega) (by omega),zi (by omega) (by omega),by simpa using h⟩
  ·rw [List.range_succ,List.countP_append,List.countP_singleton,hc] at h;exact ⟨zi (by omega) (by omega),by simpa using h⟩
 ·rintro s rfl k;exact ⟨fun h=>absurd (dt h) (by omega),fun _=>rfl⟩
theorem zkv {a b:Cl}:zcg a b (a &&& b):=by
 refine words_up (P:=fun k s v=>zcg.l1 b _ k s v) (a:=a) (r:=a &&& b) (fun i w=>w &&& b.word i) (fun i hi=>?_) (fun k i s v hi hw hv h=>?_) (fun k=>?_)
 ·refine zii hi (Nat.and_lt_two_pow _ (b.word_lt i)) fun j hj=>?_;rw [zj6,Nat.testBit_and,Cl.word_bit,Cl.word_bit];simp [hj]
 ·refine ⟨fun _=>⟨⟨by omega,by omega⟩,⟨by omega,by omega⟩,⟨by omega,by omega⟩,zi (by omega) (by omega), ?_⟩,fun h=>absurd (by omega) (df h)⟩;rw [show andI (Cl.w s (i:Int)) (Cl.w b (i:Int))=v by rw [hv];unfold andI;rw [w_nat,w_nat,Int.toNat_natCast,hw]];exact h
 ·exact ⟨fun h=>absurd (dt h) (by omega),fun _=>rfl⟩
theorem zl8 {a:Cl}:zcy a (~~~ a):=by
 refine words_up (P:=fun k s v=>zcy.l1 _ k s v) (a:=a) (r := ~~~ a) (fun i w=>18446744073709551615 ^^^ w) (fun i hi=>?_) (fun k i s v hi hw hv h=>?_) (fun k=>?_)
 ·refine zii hi (Nat.xor_lt_two_pow (by omega) (a.word_lt i)) fun j hj=>?_;rw [zn7 (by omega),Nat.testBit_xor,Cl.word_bit,show 18446744073709551615=2 ^ 64-1 by rfl,Nat.testBit_two_pow_sub_one];simp [hj]
 ·refine ⟨fun _=>⟨⟨by omega,by omega⟩,⟨by omega,by omega⟩,zi (by omega) (by omega), ?_⟩,fun h=>absurd (by omega) (df h)⟩;rw [show xorI 18446744073709551615 (Cl.w s (i:Int))=v by rw [hv];unfold xorI;rw [w_nat,Int.toNat_natCast,hw];rfl];exact h
 ·exact ⟨fun h=>absurd (dt h) (by omega),fun _=>rfl⟩
end Go.Proofs.YtkbboemafklkkaaGreatDoor.V
