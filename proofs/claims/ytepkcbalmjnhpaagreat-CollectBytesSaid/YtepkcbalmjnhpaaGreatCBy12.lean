/-
  What the claim leans on, part 12.
-/
import Derived.Test.YtepkcbalmjnhpaaGreatCBy11
set_option maxRecDepth 100000
set_option maxHeartbeats 4000000
set_option linter.unusedVariables false
set_option linter.unusedSimpArgs false
namespace Go.Proofs.YtepkcbalmjnhpaaGreat
open Go.RowKit
def eqS_K1 : Option Bool :=
 some true
def eqS_L2 (x0 : List CSpan) (x1 : List CSpan) (k2 : Nat) : Option (Ctl Unit Bool) :=
 (idx x0 (k2 : Int)).bind fun v7=>
 (idx x1 (k2 : Int)).bind fun v9=>
 if (!((v7.gfrom == v9.gfrom) && ((v7.gto == v9.gto) && true))) = true then
  some (.done false)
 else
  some (.next ())
def eqS (x0 : List CSpan) (x1 : List CSpan) : Option Bool :=
 if ((List.length x0 : Int) != (List.length x1 : Int)) = true then
  some false
 else
  (forM' (E:=Bool) 9223372036854775807 (List.length x0 : Int) (fun k2 s=>eqS_L2 x0 x1 k2) ()).bind fun
   | .next s=>eqS_K1
   | .done r=>some r
theorem eqS_c {x0 : List CSpan} {x1 : List CSpan} {r : Bool} (hM : eqS x0 x1 = some r) : PCall Tryz.prog 72 [.sl 2 (List.map CSpan.dv x0),.sl 2 (List.map CSpan.dv x1)] (.bool r):=by
 unfold eqS at hM
 refine PCall.body Tryz.func72 Tryz.ntmps72 rfl rfl rfl rfl ?_
 refine a_seq (ar (.cons (o_assign rfl)<|.nil _) ?_)
 refine a_seq (a_seq (ar (.cons (o_move rfl)<|.cons (t_len rfl)<|.cons (o_move rfl)<|.cons (t_len rfl)<|.cons (o_int rfl rfl rfl)<|.nil _) ?_))
 refine a_cond _ rfl (fun h1=>?_) (fun h1=>?_)
 ·replace hM:=(of_if hM).1 h1
  refine a_seq (ar (.cons (o_assign rfl)<|.nil _) ?_)
  obtain rfl:=Option.some.inj hM
  exact a_ret (a_post (.r1 (.tmp rfl)) (DLe.refl _) PostOk.nil.spec)
 ·replace hM:=(of_if hM).2 h1
  refine a_skip ?_
  refine a_cut (α:=Unit) (fun s=>⟨[],[],[]⟩) (fun s=>eqS_K1 = some r) ?_ ?_
  ·refine a_seq (ar (.cons (o_move rfl)<|.cons (t_len rfl)<|.cons (o_move rfl)<|.nil _) ?_)
   obtain ⟨t3,hL3,hK3⟩ := of_bind hM
   refine a_block ?_
   refine a_for (fun k2 (s : Unit)=>⟨[(0,.sl 2 (List.map CSpan.dv x0)),(1,.sl 2 (List.map CSpan.dv x1)),(12,.int .i64 (List.length x0 : Int)),(13,.int .i64 (k2 : Int))],[],[]⟩) _ hL3 (Imp.sh (fun i=>i) rfl rfl rfl rfl rfl rfl) ?_ ?_
   ·rintro k2 _ t4 hk2 hx2 hM hE3
    replace hM : eqS_L2 x0 x1 k2 = some t4:=hM
    unfold eqS_L2 at hM
    refine a_seq (ar (.cons (o_int rfl rfl rfl)<|.nil _) ?_)
    refine a_seq ?_
    refine a_cond _ rfl (fun _=>?_) (fun c=>absurd hk2 (of_decide_eq_false c))
    refine a_skip (a_seq (a_block (a_seq (ar (.cons (o_move rfl)<|.cons (o_assign rfl)<|.nil _) ?_))))
    refine a_seq ?_
    obtain ⟨v7,h6,hM⟩ := of_bind hM
    obtain ⟨v9,h8,hM⟩ := of_bind hM
    refine ad mixed (.cons (o_move rfl)<|.cons (o_move rfl)<|.cons (t_index h6 rfl rfl rfl)<|.cons (o_load_er rfl rfl rfl)<|.cons (o_move rfl)<|.cons (o_move rfl)<|.cons (t_index h8 rfl rfl rfl)<|.cons (o_load_er rfl rfl rfl)<|.cons (o_neS (b:=((v7.gfrom == v9.gfrom) && ((v7.gto == v9.gto) && true))) rfl rfl rfl rfl rfl)<|.nil _) ?_
    refine a_cond _ rfl (fun h10=>?_) (fun h10=>?_)
    ·replace hM:=(of_if hM).1 h10
     refine a_seq (ar (.cons (o_assign rfl)<|.nil _) ?_)
     obtain rfl:=Option.some.inj hM
     obtain rfl:=hE3 _ rfl
     obtain rfl:=Option.some.inj hK3
     exact a_ret (a_post (.r1 (.tmp rfl)) (DLe.refl _) PostOk.nil.spec)
    ·replace hM:=(of_if hM).2 h10
     refine a_skip (ar (.cons (o_add rfl rfl (inR_i64 hk2 hx2))<|.cons (o_move rfl)<|.nil _) ?_)
     obtain rfl:=Option.some.inj hM
     exact ⟨(),rfl,(Imp.of (fun i=>i) (.cons rfl (DLe.refl _) (.cons rfl (DLe.refl _) (.cons rfl (DLe.refl _) (.cons rfl (DLe.succ _ _) .nil)))) .nil rfl rfl rfl)⟩
   ·rintro k2 _ hk2 hx2 rfl
    refine a_seq (ar (.cons (o_int rfl rfl rfl)<|.nil _) ?_)
    refine a_seq ?_
    refine a_cond _ rfl (fun c=>absurd (of_decide_eq_true c) (Int.not_lt.2 hk2)) (fun _=>?_)
    refine a_exit ?_
    exact ⟨(),hK3,(Imp.sh (fun i=>i) rfl rfl rfl rfl rfl rfl)⟩
  ·rintro _ hM
   replace hM : eqS_K1 = some r:=hM
   unfold eqS_K1 at hM
   refine a_seq (ar (.cons (o_assign rfl)<|.nil _) ?_)
   obtain rfl:=Option.some.inj hM
   exact a_ret (a_post (.r1 (.tmp rfl)) (DLe.refl _) PostOk.nil.spec)
def eqfR_K1 : Option Bool :=
 some true
def eqfR_L2 (x0 : List RRec) (x1 : List RRec) (k2 : Nat) : Option (Ctl Unit Bool) :=
 (idx x0 (k2 : Int)).bind fun v7=>
 (idx x1 (k2 : Int)).bind fun v9=>
 (record_Equal v7 v9).bind fun v11=>
 if (!v11) = true then
  some (.done false)
 else
  some (.next ())
def eqfR (x0 : List RRec) (x1 : List RRec) : Option Bool :=
 if ((List.length x0 : Int) != (List.length x1 : Int)) = true then
  some false
 else
  (forM' (E:=Bool) 9223372036854775807 (List.length x0 : Int) (fun k2 s=>eqfR_L2 x0 x1 k2) ()).bind fun
   | .next s=>eqfR_K1
   | .done r=>some r
theorem eqfR_c {x0 : List RRec} {x1 : List RRec} {r : Bool} (hM : eqfR x0 x1 = some r) : ACall Tryz.prog 73 ⟨[.sl 29 (List.map RRec.dv x0),.sl 29 (List.map RRec.dv x1),.val (.func (.func 29) #[] #[])],[],.bool r,[],[]⟩ := by
 unfold eqfR at hM
 refine ACall.body Tryz.func73 Tryz.ntmps73 rfl rfl rfl rfl ?_
 refine a_seq (ar (.cons (o_assign rfl)<|.nil _) ?_)
 refine a_seq (a_seq (ar (.cons (o_move rfl)<|.cons (t_len rfl)<|.cons (o_move rfl)<|.cons (t_len rfl)<|.cons (o_int rfl rfl rfl)<|.nil _) ?_))
 refine a_cond _ rfl (fun h1=>?_) (fun h1=>?_)
 ·replace hM:=(of_if hM).1 h1
  refine a_seq (ar (.cons (o_assign rfl)<|.nil _) ?_)
  obtain rfl:=Option.some.inj hM
  refine a_imp (σ' := ⟨[(6,.bool false)],[],[]⟩) (Imp.sh (fun i=>i) rfl rfl rfl rfl rfl rfl) ?_
  exact a_ret (a_post (.r1 (.tmp rfl)) (DLe.refl _) (PostOk.spec .nil))
 ·replace hM:=(of_if hM).2 h1
  refine a_skip ?_
  refine a_cut (α:=Unit) (fun s=>⟨[],[],[]⟩) (fun s=>eqfR_K1 = some r) ?_ ?_
  ·refine a_seq (ar (.cons (o_move rfl)<|.cons (t_len rfl)<|.cons (o_move rfl)<|.nil _) ?_)
   obtain ⟨t3,hL3,hK3⟩ := of_bind hM
   refine a_block ?_
   refine a_for (fun k2 (s : Unit)=>⟨[(1,.sl 29 (List.map RRec.dv x1)),(2,.val (.func (.func 29) #[] #[])),(15,.sl 29 (List.map RRec.dv x0)),(16,.int .i64 (List.length x0 : Int)),(17,.int .i64 (k2 : Int))],[],[]⟩) _ hL3 (Imp.sh (fun i=>i) rfl rfl rfl rfl rfl rfl) ?_ ?_
   ·rintro k2 _ t4 hk2 hx2 hM hE3
    replace hM : eqfR_L2 x0 x1 k2 = some t4:=hM
    unfold eqfR_L2 at hM
    refine a_seq (ar (.cons (o_int rfl rfl rfl)<|.nil _) ?_)
    refine a_seq ?_
    refine a_cond _ rfl (fun _=>?_) (fun c=>absurd hk2 (of_decide_eq_false c))
    refine a_skip (a_seq (a_block (a_seq ?_)))
    obtain ⟨v7,h6,hM⟩ := of_bind hM
    refine ar (.cons (o_move rfl)<|.cons (t_index h6 rfl rfl rfl)<|.cons (o_load_er rfl rfl rfl)<|.cons (o_alloc rfl)<|.cons (o_assign rfl)<|.cons (o_store rfl rfl rfl rfl rfl rfl rfl)<|.nil _) ?_
    refine a_seq ?_
    obtain ⟨v9,h8,hM⟩ := of_bind hM
    refine ar (.cons (o_move rfl)<|.cons (o_move rfl)<|.cons (t_index h8 rfl rfl rfl)<|.cons (o_load_er rfl rfl rfl)<|.cons (o_alloc rfl)<|.cons (o_store rfl rfl rfl rfl rfl rfl rfl)<|.nil _) ?_
    refine a_seq ?_
    obtain ⟨v11,h10,hM⟩ := of_bind hM
    refine ar (.cons (o_move rfl)<|.cons (o_load_r rfl rfl rfl rfl)<|.cons (o_load_r rfl rfl rfl rfl)<|.cons (o_callF (record_Equal_c h10) rfl rfl (DLeL.refl _) rfl)<|.cons (o_not rfl)<|.nil _) ?_
    refine a_cond _ rfl (fun h12=>?_) (fun h12=>?_)
    ·replace hM:=(of_if hM).1 h12
     refine a_seq (ar (.cons (o_assign rfl)<|.nil _) ?_)
     obtain rfl:=Option.some.inj hM
     obtain rfl:=hE3 _ rfl
     obtain rfl:=Option.some.inj hK3
     refine a_imp (σ' := ⟨[(6,.bool false)],[],[]⟩) (Imp.sh (fun i=>i) rfl rfl rfl rfl rfl rfl) ?_
     exact a_ret (a_post (.r1 (.tmp rfl)) (DLe.refl _) (PostOk.spec .nil))
    ·replace hM:=(of_if hM).2 h12
     refine a_skip (ar (.cons (o_add rfl rfl (inR_i64 hk2 hx2))<|.cons (o_move rfl)<|.nil _) ?_)
     obtain rfl:=Option.some.inj hM
     exact ⟨(),rfl,(Imp.of (fun i=>i) (.cons rfl (DLe.refl _) (.cons rfl (DLe.refl _) (.cons rfl (DLe.refl _) (.cons rfl (DLe.refl _) (.cons rfl (DLe.succ _ _) .nil))))) .nil rfl rfl rfl)⟩
   ·rintro k2 _ hk2 hx2 rfl
    refine a_seq (ar (.cons (o_int rfl rfl rfl)<|.nil _) ?_)
    refine a_seq ?_
    refine a_cond _ rfl (fun c=>absurd (of_decide_eq_true c) (Int.not_lt.2 hk2)) (fun _=>?_)
    refine a_exit ?_
    exact ⟨(),hK3,(Imp.sh (fun i=>i) rfl rfl rfl rfl rfl rfl)⟩
  ·rintro _ hM
   replace hM : eqfR_K1 = some r:=hM
   unfold eqfR_K1 at hM
   refine a_seq (ar (.cons (o_assign rfl)<|.nil _) ?_)
   obtain rfl:=Option.some.inj hM
   refine a_imp (σ' := ⟨[(6,.bool true)],[],[]⟩) (Imp.sh (fun i=>i) rfl rfl rfl rfl rfl rfl) ?_
   exact a_ret (a_post (.r1 (.tmp rfl)) (DLe.refl _) (PostOk.spec .nil))
def CColl_Equal_1 (x0 : CPart) (x1 : CPart) : Option Bool :=
 (gb ((x0.gknown == x1.gknown) && (x0.gtotal == x1.gtotal)) (false) (eqS x0.glost x1.glost)).bind fun v2=>
 (gb (((x0.gknown == x1.gknown) && (x0.gtotal == x1.gtotal)) && v2) (false) (eqfR x0.gentries x1.gentries)).bind fun v4=>
 some ((((x0.gknown == x1.gknown) && (x0.gtotal == x1.gtotal)) && v2) && v4)
theorem CColl_Equal_1_c {x0 : CPart} {x1 : CPart} {r : Bool} (hM : CColl_Equal_1 x0 x1 = some r) : PCall Tryz.prog 71 [.agg (CPart.cs x0),.agg (CPart.cs x1)] (.bool r):=by
 unfold CColl_Equal_1 at hM
 refine PCall.body Tryz.func71 Tryz.ntmps71 rfl rfl rfl rfl ?_
 refine a_seq (ar (.cons (o_box rfl rfl)<|.cons (o_box rfl rfl)<|.cons (o_assign rfl)<|.nil _) ?_)
 refine a_seq ?_
 obtain ⟨v2,h1,hM⟩ := of_bind hM
 obtain ⟨v4,h3,hM⟩ := of_bind hM
 refine ar (.cons (o_fieldAddr rfl)<|.cons (o_load_s rfl rfl rfl)<|.cons (o_fieldAddr rfl)<|.cons (o_load_s rfl rfl rfl)<|.cons (o_booleq rfl rfl)<|.cons (o_move rfl)<|.cons (o_guardG .bT rfl rfl (fun hb=>(.keep .nil)) (fun hb=>o_fieldAddr rfl))<|.cons (o_guardG .bT rfl rfl (fun hb=>(.strip rfl hb .nil)) (fun hb=>o_load_s rfl rfl rfl))<|.cons (o_guardG .bT rfl rfl (fun hb=>(.keep .nil)) (fun hb=>o_fieldAddr rfl))<|.cons (o_guardG .bT rfl rfl (fun hb=>(.strip rfl hb .nil)) (fun hb=>o_load_s rfl rfl rfl))<|.cons (o_guardG .bT rfl rfl (fun hb=>(.strip rfl hb (.strip rfl hb .nil))) (fun hb=>o_int rfl rfl rfl))<|.cons (o_and rfl rfl)<|.cons (o_move rfl)<|.cons (o_guardG .bT rfl rfl (fun hb=>(.keep .nil)) (fun hb=>o_fieldAddr rfl))<|.cons (o_guardG .bT rfl rfl (fun hb=>(.strip rfl hb .nil)) (fun hb=>o_load_s rfl rfl rfl))<|.cons (o_guardG .bT rfl rfl (fun hb=>(.keep .nil)) (fun hb=>o_fieldAddr rfl))<|.cons (o_guardG .bT rfl rfl (fun hb=>(.strip rfl hb .nil)) (fun hb=>o_load_s rfl rfl rfl))<|.cons (o_guardG .bT rfl rfl (fun hb=>(.strip rfl hb (.strip rfl hb .nil))) (fun hb=>o_call (eqS_c (of_gb h1 hb)) rfl (DLeL.refl _) rfl))<|.cons (o_and rfl rfl)<|.cons (o_move rfl)<|.cons (o_guardG .bT rfl rfl (fun hb=>(.keep .nil)) (fun hb=>o_fieldAddr rfl))<|.cons (o_guardG .bT rfl rfl (fun hb=>(.strip rfl hb .nil)) (fun hb=>o_load_s rfl rfl rfl))<|.cons (o_guardG .bT rfl rfl (fun hb=>(.keep .nil)) (fun hb=>o_fieldAddr rfl))<|.cons (o_guardG .bT rfl rfl (fun hb=>(.strip rfl hb .nil)) (fun hb=>o_load_s rfl rfl rfl))<|.cons (o_guardG .bT rfl rfl (fun hb=>(.strip rfl hb (.strip rfl hb .nil))) (fun hb=>o_callN (fun i=>i) 0 (eqfR_c (of_gb h3 hb)) rfl (DLeL.refl _) .nil rfl .nil))<|.cons (o_and rfl rfl)<|.cons (o_assign rfl)<|.nil _) ?_
 obtain rfl:=Option.some.inj hM
 exact a_ret (a_post (.r1 (.tmp rfl)) (DLe.refl _) PostOk.nil.spec)
def eqfP_K1 : Option Bool :=
 some true
def eqfP_L2 (o0 : List CPart) (o1 : List CPart) (k2 : Nat) : Option (Ctl Unit Bool) :=
 (idx o0 (k2 : Int)).bind fun v7=>
 (idx o1 (k2 : Int)).bind fun v9=>
 (CColl_Equal_1 v7 v9).bind fun v11=>
 if (!v11) = true then
  some (.done false)
 else
  some (.next ())
def eqfP (o0 : List CPart) (o1 : List CPart) : Option Bool :=
 if ((List.length o0 : Int) != (List.length o1 : Int)) = true then
  some false
 else
  (forM' (E:=Bool) 9223372036854775807 (List.length o0 : Int) (fun k2 s=>eqfP_L2 o0 o1 k2) ()).bind fun
   | .next s=>eqfP_K1
   | .done r=>some r
theorem eqfP_c {o0 : List CPart} {o1 : List CPart} {r : Bool} (hM : eqfP o0 o1 = some r) : ACall Tryz.prog 70 ⟨[.row 100000,.row 100001,.val (.func (.func 71) #[] #[])],[(100000,some (.row 137 4 (List.map CPart.dv o0))),(100001,some (.row 137 4 (List.map CPart.dv o1)))],.bool r,[(100000,some (.row 137 4 (List.map CPart.dv o0))),(100001,some (.row 137 4 (List.map CPart.dv o1)))],[]⟩ := by
 unfold eqfP at hM
 refine ACall.body Tryz.func70 Tryz.ntmps70 rfl rfl rfl rfl ?_
 refine a_seq (ar (.cons (o_assign rfl)<|.nil _) ?_)
 refine a_seq (a_seq (ar (.cons (o_move rfl)<|.cons (t_len_r rfl rfl)<|.cons (o_move rfl)<|.cons (t_len_r rfl rfl)<|.cons (o_int rfl rfl rfl)<|.nil _) ?_))
 refine a_cond _ rfl (fun h1=>?_) (fun h1=>?_)
 ·replace hM:=(of_if hM).1 h1
  refine a_seq (ar (.cons (o_assign rfl)<|.nil _) ?_)
  obtain rfl:=Option.some.inj hM
  refine a_imp (σ' := ⟨[(6,.bool false)],[(100000,some (.row 137 4 (List.map CPart.dv o0))),(100001,some (.row 137 4 (List.map CPart.dv o1)))],[100000,100001]⟩) (Imp.sh (fun i=>i) rfl rfl rfl rfl rfl rfl) ?_
  exact a_ret (a_post (.r1 (.tmp rfl)) (DLe.refl _) (PostOk.spec (.cons rfl (.cons rfl .nil))))
 ·replace hM:=(of_if hM).2 h1
  refine a_skip ?_
  refine a_cut (α:=Unit) (fun s=>⟨[],[(100000,some (.row 137 4 (List.map CPart.dv o0))),(100001,some (.row 137 4 (List.map CPart.dv o1)))],[100000,100001]⟩) (fun s=>eqfP_K1 = some r) ?_ ?_
  ·refine a_seq (ar (.cons (o_move rfl)<|.cons (t_len_r rfl rfl)<|.cons (o_move rfl)<|.nil _) ?_)
   obtain ⟨t3,hL3,hK3⟩ := of_bind hM
   refine a_block ?_
   refine a_for (fun k2 (s : Unit)=>⟨[(1,.row 100001),(2,.val (.func (.func 71) #[] #[])),(15,.row 100000),(16,.int .i64 (List.length o0 : Int)),(17,.int .i64 (k2 : Int))],[(100000,some (.row 137 4 (List.map CPart.dv o0))),(100001,some (.row 137 4 (List.map CPart.dv o1)))],[100000,100001]⟩) _ hL3 (Imp.sh (fun i=>i) rfl rfl rfl rfl rfl rfl) ?_ ?_
   ·rintro k2 _ t4 hk2 hx2 hM hE3
    replace hM : eqfP_L2 o0 o1 k2 = some t4:=hM
    unfold eqfP_L2 at hM
    refine a_seq (ar (.cons (o_int rfl rfl rfl)<|.nil _) ?_)
    refine a_seq ?_
    refine a_cond _ rfl (fun _=>?_) (fun c=>absurd hk2 (of_decide_eq_false c))
    refine a_skip (a_seq (a_block (a_seq ?_)))
    obtain ⟨v7,h6,hM⟩ := of_bind hM
    refine ar (.cons (o_move rfl)<|.cons (t_index_r h6 rfl rfl rfl)<|.cons (t_load_pr h6 rfl rfl rfl rfl rfl)<|.cons (o_alloc rfl)<|.cons (o_assign rfl)<|.cons (o_store rfl rfl rfl rfl rfl rfl rfl)<|.nil _) ?_
    refine a_seq ?_
    obtain ⟨v9,h8,hM⟩ := of_bind hM
    refine ar (.cons (o_move rfl)<|.cons (o_move rfl)<|.cons (t_index_r h8 rfl rfl rfl)<|.cons (t_load_pr h8 rfl rfl rfl rfl rfl)<|.cons (o_alloc rfl)<|.cons (o_store rfl rfl rfl rfl rfl rfl rfl)<|.nil _) ?_
    refine a_seq ?_
    obtain ⟨v11,h10,hM⟩ := of_bind hM
    refine ar (.cons (o_move rfl)<|.cons (o_load_r rfl rfl rfl rfl)<|.cons (o_load_r rfl rfl rfl rfl)<|.cons (o_callF (CColl_Equal_1_c h10) rfl rfl (DLeL.refl _) rfl)<|.cons (o_not rfl)<|.nil _) ?_
    refine a_cond _ rfl (fun h12=>?_) (fun h12=>?_)
    ·replace hM:=(of_if hM).1 h12
     refine a_seq (ar (.cons (o_assign rfl)<|.nil _) ?_)
     obtain rfl:=Option.some.inj hM
     obtain rfl:=hE3 _ rfl
     obtain rfl:=Option.some.inj hK3
     refine a_imp (σ' := ⟨[(6,.bool false)],[(100000,some (.row 137 4 (List.map CPart.dv o0))),(100001,some (.row 137 4 (List.map CPart.dv o1)))],[100000,100001]⟩) (Imp.sh (fun i=>i) rfl rfl rfl rfl rfl rfl) ?_
     exact a_ret (a_post (.r1 (.tmp rfl)) (DLe.refl _) (PostOk.spec (.cons rfl (.cons rfl .nil))))
    ·replace hM:=(of_if hM).2 h12
     refine a_skip (ar (.cons (o_add rfl rfl (inR_i64 hk2 hx2))<|.cons (o_move rfl)<|.nil _) ?_)
     obtain rfl:=Option.some.inj hM
     exact ⟨(),rfl,(Imp.of (fun i=>i) (.cons rfl (DLe.refl _) (.cons rfl (DLe.refl _) (.cons rfl (DLe.refl _) (.cons rfl (DLe.refl _) (.cons rfl (DLe.succ _ _) .nil))))) (.cons rfl (.refl _) (.cons rfl (.refl _) .nil)) rfl rfl rfl)⟩
   ·rintro k2 _ hk2 hx2 rfl
    refine a_seq (ar (.cons (o_int rfl rfl rfl)<|.nil _) ?_)
    refine a_seq ?_
    refine a_cond _ rfl (fun c=>absurd (of_decide_eq_true c) (Int.not_lt.2 hk2)) (fun _=>?_)
    refine a_exit ?_
    exact ⟨(),hK3,(Imp.sh (fun i=>i) rfl rfl rfl rfl rfl rfl)⟩
  ·rintro _ hM
   replace hM : eqfP_K1 = some r:=hM
   unfold eqfP_K1 at hM
   refine a_seq (ar (.cons (o_assign rfl)<|.nil _) ?_)
   obtain rfl:=Option.some.inj hM
   refine a_imp (σ' := ⟨[(6,.bool true)],[(100000,some (.row 137 4 (List.map CPart.dv o0))),(100001,some (.row 137 4 (List.map CPart.dv o1)))],[100000,100001]⟩) (Imp.sh (fun i=>i) rfl rfl rfl rfl rfl rfl) ?_
   exact a_ret (a_post (.r1 (.tmp rfl)) (DLe.refl _) (PostOk.spec (.cons rfl (.cons rfl .nil))))
def CColl_Equal_a (o0 : CColl) (o2 : CColl) : Option Bool :=
 (eqfP o0.gparts o2.gparts).bind fun v3=>
 some v3
theorem CColl_Equal_a_c {o0 : CColl} {o2 : CColl} {r : Bool} (hM : CColl_Equal_a o0 o2 = some r) : ACall Tryz.prog 26 ⟨[.ref 100000 0,.ref 100002 0],[(100000,some (.blk 134 [.row 100001])),(100001,some (.row 137 4 (List.map CPart.dv o0.gparts))),(100002,some (.blk 134 [.row 100003])),(100003,some (.row 137 4 (List.map CPart.dv o2.gparts)))],.bool r,[(100000,some (.blk 134 [.row 100001])),(100001,some (.row 137 4 (List.map CPart.dv o0.gparts))),(100002,some (.blk 134 [.row 100003])),(100003,some (.row 137 4 (List.map CPart.dv o2.gparts)))],[]⟩ := by
 unfold CColl_Equal_a at hM
 refine ACall.body Tryz.func26 Tryz.ntmps26 rfl rfl rfl rfl ?_
 refine a_seq (ar (.cons (o_assign rfl)<|.nil _) ?_)
 refine a_seq (a_seq (ar (.cons (o_move rfl)<|.cons (o_ptr_eq rfl)<|.cons (o_move rfl)<|.cons (o_guardOn .bF rfl rfl rfl (.keep .nil) (o_move rfl))<|.cons (o_guardOn .bF rfl rfl rfl (.strip rfl rfl .nil) (o_ptr_eq rfl))<|.cons (o_or rfl rfl)<|.nil _) ?_))
 refine a_cond _ rfl (fun c=>by cases c) (fun _=>?_)
 refine a_skip (a_seq ?_)
 obtain ⟨v3,h2,hM⟩ := of_bind hM
 refine ad mixed (.cons (o_move rfl)<|.cons (o_nilCheck rfl)<|.cons (o_fieldAddr rfl)<|.cons (o_load_s rfl rfl rfl)<|.cons (o_move rfl)<|.cons (o_nilCheck rfl)<|.cons (o_fieldAddr rfl)<|.cons (o_load_s rfl rfl rfl)<|.cons (o_callN (fun i=>bif Nat.beq i 100000 then 100001 else bif Nat.beq i 100001 then 100003 else i) 0 (eqfP_c h2) rfl (DLeL.refl _) (.cons rfl (.cons rfl .nil)) rfl (.cons rfl (.cons rfl .nil)))<|.cons (o_assign rfl)<|.nil _) ?_
 obtain rfl:=Option.some.inj hM
 refine a_imp (σ' := ⟨[(4,.bool v3)],[(100000,some (.blk 134 [.row 100001])),(100001,some (.row 137 4 (List.map CPart.dv o0.gparts))),(100002,some (.blk 134 [.row 100003])),(100003,some (.row 137 4 (List.map CPart.dv o2.gparts)))],[100000,100001,100002,100003]⟩) (Imp.sh (fun i=>i) rfl rfl rfl rfl rfl rfl) ?_
 exact a_ret (a_post (.r1 (.tmp rfl)) (DLe.refl _) (PostOk.spec (.cons rfl (.cons rfl (.cons rfl (.cons rfl .nil))))))
set_option maxHeartbeats 1000000
def tE (R : List Rk) (s : Nat) (i : Int) : Prop := ∃ r∈R,r.gWhat = 1∧r.gSeq = (s : Int)∧r.gEvent.gN = i
def tL (R : List Rk) (s : Nat) : Prop := ∃ r∈R,r.gWhat = 2∧r.gSeq≤(s : Int)∧(s : Int) < r.gSeq + r.gCount
def tT (R : List Rk) (t : Int) : Prop := ∃ r∈R,r.gWhat = 3∧r.gSeq = t
structure Cons (R : List Rk) : Prop where
 one : ∀ s i j,s < 48→tE R s i→tE R s j→i = j
 tot : ∀ t u,tT R t→tT R u→t = u
 snd : ∀ t (s : Nat),s < 48→tT R t→t≤(s : Int)→(∀ i,¬ tE R s i)∧¬ tL R s
structure Rep (K : Kn) (R : List Rk) : Prop where
 ids : ∀ s : Nat,s < 48→∀ i,i≠0→(K.gIds s = i↔tE R s i)
 lost : ∀ s : Nat,s < 48→K.gIds s = 0→(K.gLost s = true↔tL R s)
 tot : ∀ t,0≤t→(K.gTotal = t↔tT R t)
 snd : Sound K
theorem tE_app {R S : List Rk} {s : Nat} {i : Int} : tE (R++S) s i↔tE R s i∨tE S s i:=by
 constructor
 ·rintro ⟨r,hr,h⟩
  rcases List.mem_append.1 hr with h1 | h1
  ·exact .inl ⟨r,h1,h⟩
  ·exact .inr ⟨r,h1,h⟩
 ·rintro (⟨r,hr,h⟩ | ⟨r,hr,h⟩)
  ·exact ⟨r,List.mem_append_left _ hr,h⟩
  ·exact ⟨r,List.mem_append_right _ hr,h⟩
theorem tL_app {R S : List Rk} {s : Nat} : tL (R++S) s↔tL R s∨tL S s:=by
 constructor
 ·rintro ⟨r,hr,h⟩
  rcases List.mem_append.1 hr with h1 | h1
  ·exact .inl ⟨r,h1,h⟩
  ·exact .inr ⟨r,h1,h⟩
 ·rintro (⟨r,hr,h⟩ | ⟨r,hr,h⟩)
  ·exact ⟨r,List.mem_append_left _ hr,h⟩
  ·exact ⟨r,List.mem_append_right _ hr,h⟩
theorem tT_app {R S : List Rk} {t : Int} : tT (R++S) t↔tT R t∨tT S t:=by
 constructor
 ·rintro ⟨r,hr,h⟩
  rcases List.mem_append.1 hr with h1 | h1
  ·exact .inl ⟨r,h1,h⟩
  ·exact .inr ⟨r,h1,h⟩
 ·rintro (⟨r,hr,h⟩ | ⟨r,hr,h⟩)
  ·exact ⟨r,List.mem_append_left _ hr,h⟩
  ·exact ⟨r,List.mem_append_right _ hr,h⟩
theorem tE_mono {R S : List Rk} (h : ∀ r∈R,r∈S) {s : Nat} {i : Int} : tE R s i→tE S s i:=fun ⟨r,hr,k⟩=>⟨r,h r hr,k⟩
theorem tL_mono {R S : List Rk} (h : ∀ r∈R,r∈S) {s : Nat} : tL R s→tL S s:=fun ⟨r,hr,k⟩=>⟨r,h r hr,k⟩
theorem tT_mono {R S : List Rk} (h : ∀ r∈R,r∈S) {t : Int} : tT R t→tT S t:=fun ⟨r,hr,k⟩=>⟨r,h r hr,k⟩
theorem Cons.mono {R S : List Rk} (h : ∀ r∈R,r∈S) (hS : Cons S) : Cons R :=
 ⟨fun s i j hs h1 h2=>hS.one s i j hs (tE_mono h h1) (tE_mono h h2),fun t u h1 h2=>hS.tot t u (tT_mono h h1) (tT_mono h h2),fun t s hs h1 h2=>⟨fun i hi=>(hS.snd t s hs (tT_mono h h1) h2).1 i (tE_mono h hi),fun hl=>(hS.snd t s hs (tT_mono h h1) h2).2 (tL_mono h hl)⟩⟩
def Small2 (R : List Rk) : Prop := ∀ r∈R,Small r
theorem tE_ne {R : List Rk} (h : Small2 R) {s : Nat} {i : Int} (k : tE R s i) : i≠0:=by
 obtain ⟨r,hr,h1,h2,rfl⟩ := k
 exact (h r hr).name h1
theorem tT_nn {R : List Rk} (h : Small2 R) {t : Int} (k : tT R t) : 0≤t∧t < 48:=by
 obtain ⟨r,hr,h1,rfl⟩ := k
 exact (h r hr).seq
theorem Rep.cons {K : Kn} {R : List Rk} (hR : Small2 R) (h : Rep K R) : Cons R:=by
 have hone : ∀ s i j,s < 48→tE R s i→tE R s j→i = j:=fun s i j hs h1 h2=>by
  have a:=(h.ids s hs i (tE_ne hR h1)).2 h1
  have b:=(h.ids s hs j (tE_ne hR h2)).2 h2
  rw [← a,← b]
 refine ⟨hone,fun t u h1 h2=>?_,fun t s hs h1 h2=>?_⟩
 ·have a:=(h.tot t (tT_nn hR h1).1).2 h1
  have b:=(h.tot u (tT_nn hR h2).1).2 h2
  rw [← a,← b]
 ·have a:=(h.tot t (tT_nn hR h1).1).2 h1
  have:=(tT_nn hR h1).1
  obtain ⟨k1,k2⟩ := h.snd s hs (by omega) (by omega)
  refine ⟨fun i hi=>?_,fun hl=>?_⟩
  ·have:=(h.ids s hs i (tE_ne hR hi)).2 hi
   exact tE_ne hR hi (by rw [← this,k1])
  ·have:=(h.lost s hs k1).2 hl
   rw [k2] at this; cases this
theorem raw_E {rs : List Rk} {s : Nat} {i : Int} : (∃ r∈(partRaw rs).gentries,r.gSeq = (s : Int)∧r.gEvent.gN = i)↔tE rs s i:=by
 constructor
 ·rintro ⟨r,hr,h⟩
  have:=mem_ents.1 hr
  exact ⟨r,this.1,this.2,h⟩
 ·rintro ⟨r,hr,h1,h⟩
  exact ⟨r,mem_ents.2 ⟨hr,h1⟩,h⟩
theorem raw_L {rs : List Rk} {s : Nat} : inS (partRaw rs).glost (s : Int)↔tL rs s:=by
 constructor
 ·rintro ⟨q,hq,h⟩
  obtain ⟨r,r1,rfl⟩ := List.mem_map.1 hq
  have r2:=List.mem_filter.1 r1
  exact ⟨r,r2.1,by simpa using r2.2,h⟩
 ·rintro ⟨r,hr,h1,h⟩
  exact ⟨spanOf r,List.mem_map.2 ⟨r,List.mem_filter.2 ⟨hr,by simpa using h1⟩,rfl⟩,h⟩
theorem raw_T {rs : List Rk} (h1 : OneEnd rs) {t : Int} : ((partRaw rs).gknown = true∧(partRaw rs).gtotal = t)↔tT rs t:=by
 constructor
 ·rintro ⟨h,rfl⟩
  obtain ⟨r,r1,r2,r3⟩ := endOf_mem h
  exact ⟨r,r1,r2,r3⟩
 ·rintro ⟨r,hr,h3,rfl⟩
  have:=endOf_some hr h3 h1
  exact ⟨by show (endOf rs).1 = true; rw [this],by show (endOf rs).2 = _; rw [this]⟩
theorem rep_of_joined {A K : Kn} {R rs : List Rk} (hA : Rep A R) (h1 : OneEnd rs) (hJ : Joined A (partRaw rs) K) : (∀ s : Nat,s < 48→∀ i,i≠0→(K.gIds s = i↔tE (R++rs) s i))∧(∀ s : Nat,s < 48→K.gIds s = 0→(K.gLost s = true↔tL (R++rs) s))∧∀ t,0≤t→(K.gTotal = t↔tT (R++rs) t):=by
 have hids : ∀ s : Nat,s < 48→∀ i,i≠0→(K.gIds s = i↔tE (R++rs) s i):=fun s hs i hi=>by
  rw [hJ.ids s hs i hi,raw_E,tE_app,hA.ids s hs i hi]
 refine ⟨hids,fun s hs h0=>?_,fun t ht=>?_⟩
 ·have hA0 : A.gIds s = 0:=Classical.byContradiction fun hne=>by
   have:=(hJ.ids s hs _ hne).2 (.inl rfl)
   omega
  rw [hJ.lost s hs h0,raw_L,tL_app,hA.lost s hs hA0]
 ·rw [hJ.tot t ht,raw_T h1,tT_app,hA.tot t ht]
theorem rep_sound {K : Kn} {R : List Rk} (hR : Small2 R) (hids : ∀ s : Nat,s < 48→∀ i,i≠0→(K.gIds s = i↔tE R s i)) (hlost : ∀ s : Nat,s < 48→K.gIds s = 0→(K.gLost s = true↔tL R s)) (htot : ∀ t,0≤t→(K.gTotal = t↔tT R t)) (hC : Cons R) : Sound K:=by
 intro s hs h0 hts
 have hT:=(htot _ h0).1 rfl
 obtain ⟨k1,k2⟩ := hC.snd _ s hs hT hts
 have hid : K.gIds s = 0:=Classical.byContradiction fun hne=>k1 _ ((hids s hs _ hne).1 rfl)
 refine ⟨hid,?_⟩
 rw [Bool.eq_false_iff]
 intro hl
 exact k2 ((hlost s hs hid).1 hl)
theorem refAdd_rep {A K : Kn} {ok : Bool} {R rs : List Rk} (hA : Rep A R) (hrng : -1≤A.gTotal∧A.gTotal < 48) (hR : Small2 R) (hrs : Small2 rs) (hl : rs.length≤1099511627776) (h : e30_Add A (rs.map toRef) = some (K,ok)) : (ok = true↔Cons (R++rs))∧(ok = true→Rep K (R++rs)):=by
 have hS : Small2 (R++rs):=fun r hr=>(List.mem_append.1 hr).elim (hR r) (hrs r)
 obtain ⟨K0,ok0,h0,h1⟩ := refAdd_spec A hrng rs hl hrs
 rw [h] at h0
 obtain ⟨rfl,rfl⟩ : K = K0∧ok = ok0:=by injection h0 with h0; injection h0 with a b; exact ⟨a,b⟩
 have oneOf : Cons (R++rs)→OneEnd rs:=fun hC r hr q hq r3 q3=>hC.tot _ _ (tT_app.2 (.inr ⟨r,hr,r3,rfl⟩)) (tT_app.2 (.inr ⟨q,hq,q3,rfl⟩))
 rcases h1 with ⟨rfl,j1,j2,j3⟩ | ⟨rfl,rfl,hno⟩
 ·obtain ⟨a,b,c⟩ := rep_of_joined hA j3 j1
  have hRep : Rep K (R++rs) := ⟨a,b,c,j2⟩
  exact ⟨⟨fun _=>hRep.cons hS,fun _=>rfl⟩,fun _=>hRep⟩
 ·refine ⟨⟨fun h=>(by cases h),fun hC=>?_⟩,fun h=>(by cases h)⟩
  exfalso
  rcases hno with (⟨r,r1,r2,r3⟩ | ⟨r,r1,q,q1,h1,h2⟩ | ⟨h1,h2,h3⟩) | hno | ⟨K1,j1,j2⟩
  ·have hr:=mem_ents.1 r1
   have hs:=(hrs r hr.1).seq
   have e : ((r.gSeq.toNat : Nat) : Int) = r.gSeq:=by omega
   have hE:=(hA.ids _ (by omega) _ r2).1 rfl
   exact r3 (hC.one _ _ _ (show r.gSeq.toNat < 48 by omega) (tE_app.2 (.inl hE)) (tE_app.2 (.inr ⟨r,hr.1,hr.2,e.symm,rfl⟩)))
  ·have hr:=mem_ents.1 r1
   have hq:=mem_ents.1 q1
   have hs:=(hrs r hr.1).seq
   have e : ((r.gSeq.toNat : Nat) : Int) = r.gSeq:=by omega
   exact h2 (hC.one _ _ _ (show r.gSeq.toNat < 48 by omega) (tE_app.2 (.inr ⟨r,hr.1,hr.2,e.symm,rfl⟩)) (tE_app.2 (.inr ⟨q,hq.1,hq.2,by rw [e,h1],rfl⟩)))
  ·obtain ⟨q,q1,q2,q3⟩ := endOf_mem h2
   exact h3 (hC.tot _ _ (tT_app.2 (.inl ((hA.tot _ h1).1 rfl))) (tT_app.2 (.inr ⟨q,q1,q2,q3⟩)))
  ·exact hno (oneOf hC)
  ·obtain ⟨a,b,c⟩ := rep_of_joined hA (oneOf hC) j1
   exact j2 (rep_sound hS a b c hC)
theorem refMerge_rep {c : Int} {A B K : Kn} {ok : Bool} {R S : List Rk} {o : CPart} (hB : Rel (GE c) o B) (hA : Rep A R) (hBS : Rep B S) (hrng : -1≤A.gTotal∧A.gTotal < 48) (hR : Small2 R) (hS : Small2 S) (h : e30_Merge A B = some (K,ok)) : (ok = true↔Cons (R++S))∧(ok = true→Rep K (R++S)):=by
 have hG:=good_GE c
 have hRS : Small2 (R++S):=fun r hr=>(List.mem_append.1 hr).elim (hR r) (hS r)
 -- what the other part tells
 have oE : ∀ s : Nat,s < 48→∀ i,i≠0→((∃ r∈o.gentries,r.gSeq = (s : Int)∧r.gEvent.gN = i)↔tE S s i):=fun s hs i hi=>by
  rw [← hBS.ids s hs i hi]
  constructor
  ·rintro ⟨r,r1,r2,r3⟩
   have:=(hB.good r r1).2
   rw [r2,Int.toNat_natCast] at this
   rw [this,r3]
  ·intro h
   obtain ⟨r,r1,r2⟩ := hB.cov s hs (by rw [h]; exact hi)
   have:=(hB.good r r1).2
   rw [r2,Int.toNat_natCast] at this
   exact ⟨r,r1,r2,by rw [← this,h]⟩
 have oL : ∀ s : Nat,s < 48→B.gIds s = 0→(inS o.glost (s : Int)↔tL S s):=fun s hs h0=>by
  rw [← hBS.lost s hs h0,hB.lost]
  constructor
  ·rintro ⟨q,q1,q2,q3,q4⟩
   have : q = s:=by omega
   subst this; exact q3
  ·intro h; exact ⟨s,hs,rfl,h,h0⟩
 have oT : ∀ t,0≤t→((o.gknown = true∧o.gtotal = t)↔tT S t):=fun t ht=>by
  rw [← hBS.tot t ht,hB.kno,hB.tot,decide_eq_true_eq]
  constructor
  ·rintro ⟨h1,h2⟩; rw [if_pos h1] at h2; exact h2
  ·intro h; rw [if_pos (by omega)]; exact ⟨by omega,h⟩
 have rep : ∀ K1,Joined A o K1→(∀ s : Nat,s < 48→∀ i,i≠0→(K1.gIds s = i↔tE (R++S) s i))∧(∀ s : Nat,s < 48→K1.gIds s = 0→(K1.gLost s = true↔tL (R++S) s))∧∀ t,0≤t→(K1.gTotal = t↔tT (R++S) t):=fun K1 hJ=>by
  refine ⟨fun s hs i hi=>by rw [hJ.ids s hs i hi,oE s hs i hi,tE_app,hA.ids s hs i hi],fun s hs h0=>?_,fun t ht=>by rw [hJ.tot t ht,oT t ht,tT_app,hA.tot t ht]⟩
  have hA0 : A.gIds s = 0:=Classical.byContradiction fun hne=>by
   have:=(hJ.ids s hs _ hne).2 (.inl rfl)
   omega
  have hB0 : B.gIds s = 0:=Classical.byContradiction fun hne=>by
   have:=(hJ.ids s hs _ hne).2 (.inr ((oE s hs _ hne).2 ((hBS.ids s hs _ hne).1 rfl)))
   omega
  rw [hJ.lost s hs h0,oL s hs hB0,tL_app,hA.lost s hs hA0]
 obtain ⟨K0,ok0,h0,h1⟩ := refMerge_spec hG hrng hB
 rw [h] at h0
 obtain ⟨rfl,rfl⟩ : K = K0∧ok = ok0:=by injection h0 with h0; injection h0 with a b; exact ⟨a,b⟩
 rcases h1 with ⟨rfl,j1,j2⟩ | ⟨rfl,rfl,hno⟩
 ·obtain ⟨a,b,c⟩ := rep _ j1
  have hRep : Rep K (R++S) := ⟨a,b,c,j2⟩
  exact ⟨⟨fun _=>hRep.cons hRS,fun _=>rfl⟩,fun _=>hRep⟩
 ·refine ⟨⟨fun h=>(by cases h),fun hC=>?_⟩,fun h=>(by cases h)⟩
  exfalso
  have nm : ∀ r∈o.gentries,0≤r.gSeq∧r.gSeq < 48∧tE S r.gSeq.toNat r.gEvent.gN:=fun r hr=>by
   have g:=(hB.good r hr).1
   have hs:=hG.seq r g
   refine ⟨hs.1,hs.2,(oE _ (by omega) _ (hG.name r g)).1 ⟨r,hr,by omega,rfl⟩⟩
  rcases hno with (⟨r,r1,r2,r3⟩ | ⟨r,r1,q,q1,h1,h2⟩ | ⟨h1,h2,h3⟩) | ⟨K1,j1,j2⟩
  ·obtain ⟨s1,s2,s3⟩ := nm r r1
   have hE:=(hA.ids _ (by omega) _ r2).1 rfl
   exact r3 (hC.one _ _ _ (show r.gSeq.toNat < 48 by omega) (tE_app.2 (.inl hE)) (tE_app.2 (.inr s3)))
  ·obtain ⟨s1,s2,s3⟩ := nm r r1
   obtain ⟨t1,t2,t3⟩ := nm q q1
   rw [← h1] at t3
   exact h2 (hC.one _ _ _ (show r.gSeq.toNat < 48 by omega) (tE_app.2 (.inr s3)) (tE_app.2 (.inr t3)))
  ·have ho:=(hB.PW hG).tot.1
   exact h3 (hC.tot _ _ (tT_app.2 (.inl ((hA.tot _ h1).1 rfl))) (tT_app.2 (.inr ((oT _ ho).1 ⟨h2,rfl⟩))))
  ·obtain ⟨a,b,c⟩ := rep _ j1
   exact j2 (rep_sound hRS a b c hC)
structure Sim (K L : Kn) : Prop where
 ids : ∀ s : Nat,s < 48→K.gIds s = L.gIds s
 lost : ∀ s : Nat,s < 48→K.gIds s = 0→K.gLost s = L.gLost s
 tot : K.gTotal = L.gTotal
theorem spans_eq (l : List CSpan) (hl : l.length≤1099511627776) : eqS l l = some true:=by
 unfold eqS
 rw [if_neg (by simp),forM_next (S:=Unit) (E:=Bool) (s0:=()) l.length (fun _=>()) rfl rfl (by omega) (fun j hj=>?_)]
 ·rfl
 ·unfold eqS_L2
  rw [idx_lt hj]
  simp
theorem recs_eq (l m : List Rk) (hl : l.length≤1099511627776) (hlen : l.length = m.length) (hf : ∀ r∈l,reFits r = true) (h : ∀ (i : Nat) (h1 : i < l.length) (h2 : i < m.length),Eqr l[i] m[i]) : eqfR l m = some true:=by
 unfold eqfR
 rw [if_neg (by simp [hlen]),forM_next (S:=Unit) (E:=Bool) (s0:=()) l.length (fun _=>()) rfl rfl (by omega) (fun j hj=>?_)]
 ·rfl
 ·unfold eqfR_L2
  rw [idx_lt hj,Option.bind_some,idx_lt (by omega),Option.bind_some,equal_eq (hf _ (List.getElem_mem hj)),Option.bind_some]
  have : recEq (reOf l[j]) (reOf (m[j]'(by omega))) = true:=h j hj (by omega)
  rw [this]; rfl
theorem asc_same {l m : List Rk} (hl : Asc l) (hm : Asc m) (h : ∀ x,hasN l x↔hasN m x) : l.length = m.length∧∀ (i : Nat) (h1 : i < l.length) (h2 : i < m.length),l[i].gSeq = m[i].gSeq:=by
 induction l generalizing m with
 | nil=>
  cases m with
  | nil=>exact ⟨rfl,fun i h1=>by simp at h1⟩
  | cons y m=>
   obtain ⟨r,hr,_⟩ := (h y.gSeq).2 ⟨y,List.mem_cons_self ..,rfl⟩
   cases hr
 | cons x l ih=>
  cases m with
  | nil=>
   obtain ⟨r,hr,_⟩ := (h x.gSeq).1 ⟨x,List.mem_cons_self ..,rfl⟩
   cases hr
  | cons y m=>
   have hx:=(List.pairwise_cons.1 hl).1
   have hy:=(List.pairwise_cons.1 hm).1
   have e : x.gSeq = y.gSeq:=by
    obtain ⟨r,hr,r2⟩ := (h x.gSeq).1 ⟨x,List.mem_cons_self ..,rfl⟩
    obtain ⟨q,hq,q2⟩ := (h y.gSeq).2 ⟨y,List.mem_cons_self ..,rfl⟩
    rcases List.mem_cons.1 hr with rfl | hr
    ·exact r2.symm
    ·rcases List.mem_cons.1 hq with rfl | hq
     ·exact q2
     ·have:=hy r hr
      have:=hx q hq
      omega
   have hh : ∀ z,hasN l z↔hasN m z:=fun z=>by
    constructor
    ·rintro ⟨r,hr,rfl⟩
     obtain ⟨q,hq,q2⟩ := (h r.gSeq).1 ⟨r,List.mem_cons_of_mem _ hr,rfl⟩
     rcases List.mem_cons.1 hq with rfl | hq
     ·have:=hx r hr; omega
     ·exact ⟨q,hq,q2⟩
    ·rintro ⟨r,hr,rfl⟩
     obtain ⟨q,hq,q2⟩ := (h r.gSeq).2 ⟨r,List.mem_cons_of_mem _ hr,rfl⟩
     rcases List.mem_cons.1 hq with rfl | hq
     ·have:=hy r hr; omega
     ·exact ⟨q,hq,q2⟩
   obtain ⟨a,b⟩ := ih (List.pairwise_cons.1 hl).2 (List.pairwise_cons.1 hm).2 hh
   refine ⟨by simp [a],fun i h1 h2=>?_⟩
   cases i with
   | zero=>exact e
   | succ i=>exact b i (by simpa using h1) (by simpa using h2)
theorem part_equal {c : Int} {p q : CPart} {K L : Kn} (hp : Rel (GE c) p K) (hq : Rel (GE c) q L) (hs : Sim K L) : CColl_Equal_1 p q = some true:=by
 have hG:=good_GE c
 have e1 : p.gknown = q.gknown:=by rw [hp.kno,hq.kno,hs.tot]
 have e2 : p.gtotal = q.gtotal:=by rw [hp.tot,hq.tot,hs.tot]
 have e3 : p.glost = q.glost:=Can.ext hp.can hq.can fun x=>by
  rw [hp.lost,hq.lost]
  constructor
  ·rintro ⟨s,s1,s2,s3,s4⟩
   exact ⟨s,s1,s2,by rw [← hs.lost s s1 s4]; exact s3,by rw [← hs.ids s s1]; exact s4⟩
  ·rintro ⟨s,s1,s2,s3,s4⟩
   have s5 : K.gIds s = 0:=by rw [hs.ids s s1]; exact s4
   exact ⟨s,s1,s2,by rw [hs.lost s s1 s5]; exact s3,s5⟩
 have hh : ∀ x,hasN p.gentries x↔hasN q.gentries x:=fun x=>by
  rw [hp.hasN hG,hq.hasN hG]
  constructor
  ·rintro ⟨s,s1,s2,s3⟩; exact ⟨s,s1,s2,by rw [← hs.ids s s1]; exact s3⟩
  ·rintro ⟨s,s1,s2,s3⟩; exact ⟨s,s1,s2,by rw [hs.ids s s1]; exact s3⟩
 obtain ⟨l1,l2⟩ := asc_same hp.asc hq.asc hh
 have hne:=hp.ne
 have hnl:=hq.nl
 have hre:=recs_eq p.gentries q.gentries (by omega) l1 (fun r hr=>hG.fits r (hp.good r hr).1) (fun i h1 h2=>by
  have a:=hp.good _ (List.getElem_mem h1)
  have b:=hq.good _ (List.getElem_mem h2)
  have hsq:=hG.seq _ a.1
  have e:=l2 i h1 h2
  refine hG.one _ _ a.1 b.1 e ?_
  rw [← a.2,← b.2,e]
  exact hs.ids _ (by omega))
 unfold CColl_Equal_1
 rw [e3,spans_eq _ (by omega),hre,e1,e2]
 simp [gb]
theorem coll_equal {n : Nat} {P Q : List CPart} {Ks Ls : List Kn} (hP : Inv n P Ks) (hQ : Inv n Q Ls) (hn : n≤8) (hs : ∀ (i : Nat) (h1 : i < Ks.length) (h2 : i < Ls.length),Sim Ks[i] Ls[i]) : CColl_Equal_a ⟨P⟩ ⟨Q⟩ = some true:=by
 have l1:=hP.len
 have l2:=hQ.len
 have k1:=hP.lenK
 have k2:=hQ.lenK
 unfold CColl_Equal_a eqfP
 dsimp only
 rw [if_neg (by simp [l1,l2]),forM_next (S:=Unit) (E:=Bool) (s0:=()) P.length (fun _=>()) rfl rfl (by omega) (fun j hj=>?_)]
 ·rfl
 ·unfold eqfP_L2
  rw [idx_lt hj,Option.bind_some,idx_lt (by omega),Option.bind_some,part_equal (hP.rel j hj (by omega)) (hQ.rel j (by omega) (by omega)) (hs j (by omega) (by omega))]
  rfl
abbrev Fi:=w30_File
def FileSpec (n : Nat) (f : Fi) (y : List Int × List Rk) : Prop:=w30_File_bytes f (n : Int) = some (fileC f (n : Int),y.1,y.2.map toRef)∧recorder_Read y.1 = some (y.2,0)∧(∀ r∈y.2,Reads (fileC f (n : Int)) r)∧y.2.length≤12
theorem files_fun (n : Nat) (hn : 1≤n∧n≤8) : ∃ φ : Fi→List Int × List Rk,∀ f,FileOk f→FileSpec n f (φ f):=by
 have h : ∀ f : Fi,∃ y : List Int × List Rk,FileOk f→FileSpec n f y:=fun f=>by
  by_cases hf : FileOk f
  ·obtain ⟨p,rs,h1,h2,h3,h4⟩ := file_read f (n : Int) (by omega) hf
   exact ⟨(p,rs),fun _=>⟨h1,h2,h3,h4⟩⟩
  ·exact ⟨([],[]),fun h=>absurd h hf⟩
 exact ⟨fun f=>Classical.choose (h f),fun f hf=>Classical.choose_spec (h f) hf⟩
def cOf (n : Nat) (f : Fi) : Nat:=(fileC f (n : Int)).toNat
theorem cOf_eq {n : Nat} (hn : 1≤n∧n≤8) (f : Fi) : fileC f (n : Int) = (cOf n f : Int)∧cOf n f < n + 1:=by
 have:=fileC_rng f (n : Int) (by omega)
 unfold cOf; omega
structure Sta (n : Nat) (parts : List CPart) (Ks : List Kn) (Rs : Nat→List Rk) : Prop where
 inv : Inv n parts Ks
 small : ∀ i,Small2 (Rs i)
 rep : ∀ (i : Nat) (h : i < Ks.length),Rep Ks[i] (Rs i)
theorem rep0 : Rep kn0 []:=by
 refine ⟨fun s hs i hi=>⟨fun h=>?_,fun ⟨r,hr,_⟩=>(by cases hr)⟩,fun s hs h=>⟨fun k=>?_,fun ⟨r,hr,_⟩=>(by cases hr)⟩,fun t ht=>⟨fun h=>?_,fun ⟨r,hr,_⟩=>(by cases hr)⟩,fun s hs h=>?_⟩
 ·rw [kn0_ids] at h; exact absurd h.symm hi
 ·rw [kn0_lost] at k; cases k
 ·have : kn0.gTotal = -1:=rfl
  omega
 ·have : kn0.gTotal = -1:=rfl
  omega
theorem sta0 (n : Nat) : Sta n (List.replicate (n + 1) part0) (List.replicate (n + 1) kn0) (fun _=>[]) :=
 ⟨inv0 n,fun _ r hr=>(by cases hr),fun i h=>by rw [List.getElem_replicate]; exact rep0⟩
theorem Sta.add {n : Nat} {parts : List CPart} {Ks : List Kn} {Rs : Nat→List Rk} (h : Sta n parts Ks Rs) (hn : n≤8) (c : Nat) (hc : c < n + 1) (p : List Int) (rs : List Rk) (hr : recorder_Read p = some (rs,0)) (hrs : ∀ r∈rs,Reads (c : Int) r) (hl : rs.length≤12) :
  ∃ K ok e parts',e30_Add (Ks[c]'(by rw [h.inv.lenK]; exact hc)) (rs.map toRef) = some (K,ok)∧CColl_Add_a (c : Int) p ⟨parts⟩ = some (e,⟨parts'⟩)∧((ok = true∧e = 0∧Cons (Rs c++rs)∧Sta n parts' (Ks.set c K) (upd Rs c (Rs c++rs)))∨(ok = false∧e = 14∧¬ Cons (Rs c++rs)∧parts' = parts∧Ks.set c K = Ks)):=by
 have hck : c < Ks.length:=by rw [h.inv.lenK]; exact hc
 obtain ⟨K,ok,e,parts',a1,a2,a3,a4⟩ := add_step h.inv hn c hc p rs 0 hr hrs (by omega)
 have hsm : Small2 rs:=fun r hr=>(hrs r hr).small
 obtain ⟨b1,b2⟩ := refAdd_rep (h.rep c hck) (h.inv.rel c (by rw [h.inv.len]; exact hc) hck).rng (h.small c) hsm (by omega) a1
 refine ⟨K,ok,e,parts',a1,a2,?_⟩
 rcases a3 with ⟨rfl,rfl⟩ | ⟨rfl,rfl,rfl,hK⟩
 ·refine .inl ⟨rfl,rfl,b1.1 rfl,a4,fun i=>?_,fun i hi=>?_⟩
  ·unfold upd
   split
   ·exact fun r hr=>(List.mem_append.1 hr).elim (h.small c r) (hsm r)
   ·exact h.small i
  ·rw [List.getElem_set]
   unfold upd
   by_cases e : c = i
   ·subst e; rw [if_pos rfl,if_pos rfl]; exact b2 rfl
   ·rw [if_neg e,if_neg (fun x=>e x.symm)]
    exact h.rep i (by rw [List.length_set] at hi; exact hi)
 ·refine .inr ⟨rfl,rfl,fun hC=>?_,rfl,by rw [hK]; exact set_self _ _ hck⟩
  have:=b1.2 hC
  cases this
def allR (n : Nat) (φ : Fi→List Int × List Rk) (l : List Fi) (c : Nat) : List Rk:=l.flatMap fun f=>if cOf n f = c then (φ f).2 else []
theorem mem_allR {n : Nat} {φ : Fi→List Int × List Rk} {l : List Fi} {c : Nat} {r : Rk} : r∈allR n φ l c↔∃ f∈l,cOf n f = c∧r∈(φ f).2:=by
 unfold allR
 rw [List.mem_flatMap]
 constructor
 ·rintro ⟨f,hf,hr⟩
  split at hr
  ·exact ⟨f,hf,by assumption,hr⟩
  ·cases hr
 ·rintro ⟨f,hf,h1,h2⟩
  exact ⟨f,hf,by rw [if_pos h1]; exact h2⟩
theorem Sta.file {n : Nat} {parts : List CPart} {Ks : List Kn} {Rs : Nat→List Rk} (h : Sta n parts Ks Rs) (hn : 1≤n∧n≤8) {φ : Fi→List Int × List Rk} {f : Fi} (hf : FileSpec n f (φ f)) :
  ∃ K ok e parts',e30_Add (Ks[cOf n f]'(by rw [h.inv.lenK]; exact (cOf_eq hn f).2)) ((φ f).2.map toRef) = some (K,ok)∧CColl_Add_a (cOf n f : Int) (φ f).1 ⟨parts⟩ = some (e,⟨parts'⟩)∧((ok = true∧e = 0∧Cons (Rs (cOf n f)++(φ f).2)∧Sta n parts' (Ks.set (cOf n f) K) (upd Rs (cOf n f) (Rs (cOf n f)++(φ f).2)))∨(ok = false∧e = 14∧¬ Cons (Rs (cOf n f)++(φ f).2)∧parts' = parts∧Ks.set (cOf n f) K = Ks)):=by
 obtain ⟨h1,h2,h3,h4⟩ := hf
 have hc:=cOf_eq hn f
 rw [hc.1] at h3
 exact h.add hn.2 (cOf n f) hc.2 (φ f).1 (φ f).2 h2 h3 h4
structure Took (n : Nat) (φ : Fi→List Int × List Rk) (all seen : List Fi) (Rs : Nat→List Rk) : Prop where
 sub : ∀ c r,r∈Rs c→r∈allR n φ all c
 full : (∀ c,Cons (allR n φ all c))→∀ c r,r∈allR n φ seen c→r∈Rs c
theorem Took.next {n : Nat} {φ : Fi→List Int × List Rk} {all seen : List Fi} {Rs : Nat→List Rk} (h : Took n φ all seen Rs) {f : Fi} (hf : f∈all) : Took n φ all (seen++[f]) (upd Rs (cOf n f) (Rs (cOf n f)++(φ f).2)):=by
 constructor
 ·intro c r hr
  unfold upd at hr
  split at hr
  ·rename_i e
   rcases List.mem_append.1 hr with h1 | h1
   ·rw [e]; exact h.sub _ r h1
   ·rw [e]; exact mem_allR.2 ⟨f,hf,rfl,h1⟩
  ·exact h.sub c r hr
 ·intro hC c r hr
  obtain ⟨g,hg,e1,e2⟩ := mem_allR.1 hr
  unfold upd
  rcases List.mem_append.1 hg with hg | hg
  ·have:=h.full hC c r (mem_allR.2 ⟨g,hg,e1,e2⟩)
   split
   ·rename_i e; rw [e] at this; exact List.mem_append_left _ this
   ·exact this
  ·rw [List.mem_singleton] at hg; subst hg
   rw [if_pos e1.symm]
   exact List.mem_append_right _ e2
theorem Took.clash {n : Nat} {φ : Fi→List Int × List Rk} {all seen : List Fi} {Rs : Nat→List Rk} (h : Took n φ all seen Rs) {f : Fi} (hf : f∈all) (hno : ¬ Cons (Rs (cOf n f)++(φ f).2)) : ¬ Cons (allR n φ all (cOf n f)):=fun hC=>hno (hC.mono fun r hr=>by
 rcases List.mem_append.1 hr with h1 | h1
 ·exact h.sub _ r h1
 ·exact mem_allR.2 ⟨f,hf,rfl,h1⟩)
theorem Took.skip {n : Nat} {φ : Fi→List Int × List Rk} {all seen : List Fi} {Rs : Nat→List Rk} (h : Took n φ all seen Rs) {f : Fi} (hno : ∃ c,¬ Cons (allR n φ all c)) : Took n φ all (seen++[f]) Rs := ⟨h.sub,fun hC=>by obtain ⟨c,hc⟩ := hno; exact absurd (hC c) hc⟩
theorem took0 (n : Nat) (φ : Fi→List Int × List Rk) (all : List Fi) : Took n φ all [] (fun _=>[]) := ⟨fun c r hr=>(by cases hr),fun _ c r hr=>by simp [allR] at hr⟩
theorem add_loop2 {n : Nat} {φ : Fi→List Int × List Rk} (hn : 1≤n∧n≤8) (hφ : ∀ f,FileOk f→FileSpec n f (φ f)) (l : List Fi) (hl : ∀ f∈l,FileOk f) {parts : List CPart} {Ks : List Kn} {Rs : Nat→List Rk} (h : Sta n parts Ks Rs) (hT : Took n φ (l.take 8) [] Rs) : ∃ parts' Ks' Rs',w30_add_a (n : Int) l ⟨parts⟩ Ks = some (true,⟨parts'⟩,Ks')∧Sta n parts' Ks' Rs'∧Took n φ (l.take 8) (l.take 8) Rs' := by
 unfold w30_add_a
 have hInd:=whileM_ind (S:=(List Kn) × Int × (List CPart)) (E:=((List Kn) × (List CPart)) ⊕ (Bool × CColl × (List Kn))) (step:=fun s=>w30_add_a_L2 (n : Int) l s.1 s.2.1 s.2.2) (s0:=(Ks,0,parts)) (fun s=>∃ (i : Nat) (Rs : Nat→List Rk),s.2.1 = (i : Int)∧i≤l.length∧i≤8∧Sta n s.2.2 s.1 Rs∧Took n φ (l.take 8) (l.take i) Rs) (fun s=>(8 - s.2.1).toNat) (fun e=>∃ parts' Ks' Rs',e = .inl (Ks',parts')∧Sta n parts' Ks' Rs'∧Took n φ (l.take 8) (l.take 8) Rs') ⟨0,Rs,rfl,Nat.zero_le _,by omega,h,hT⟩ (by (try dsimp only); omega) ?_
 ·obtain ⟨e,h1,parts',Ks',Rs',rfl,h2,h3⟩ := hInd
  rw [h1]
  exact ⟨parts',Ks',Rs',rfl,h2,h3⟩
 ·rintro ⟨Ks1,ii,parts1⟩ ⟨i,Rs1,h1,h2,h3,hI,hTk⟩
  dsimp only at h1 hI ⊢
  subst h1
  unfold w30_add_a_L2
  by_cases hc : i < l.length∧i < 8
  ·have hd : ((decide ((i : Int) < (List.length l : Int))) && (decide ((i : Int) < 8))) = true:=by
    simp only [Bool.and_eq_true,decide_eq_true_eq]; omega
   have tk : l.take (i + 1) = l.take i++[l[i]'hc.1]:=List.take_succ_eq_append_getElem hc.1
   have hmem : l[i]'hc.1∈l.take 8:=by
    rw [List.mem_take_iff_getElem]
    exact ⟨i,by omega,rfl⟩
   have hf:=hφ _ (hl _ (List.getElem_mem hc.1))
   rw [hd,if_pos rfl,idx_lt hc.1,Option.bind_some]
   generalize l[i]'hc.1 = f at hf hmem tk ⊢
   have hcc:=cOf_eq hn f
   have hck : cOf n f < Ks1.length:=by rw [hI.inv.lenK]; exact hcc.2
   obtain ⟨K,ok,e,parts',a1,a2,a3⟩ := hI.file hn hf
   have wi : IntKind.wrap .i64 ((i : Int) + 1) = ((i + 1 : Nat) : Int):=by rw [wrap_i64 (by omega) (by omega)]; omega
   rw [hf.1,Option.bind_some,hcc.1]
   dsimp only
   rw [a2,Option.bind_some]
   simp only [idx_lt hck,Option.bind_some,a1,Int.toNat_natCast]
   refine .inl ⟨(Ks1.set (cOf n f) K,((i + 1 : Nat) : Int),parts'),?_,?_,by (try dsimp only); omega⟩
   ·rcases a3 with ⟨rfl,rfl,_,hS⟩ | ⟨rfl,rfl,_,rfl,hK⟩
    ·have hag:=hS.inv.agrees hn.2
     simp [gb,hag,wi]
    ·rw [hK]
     have hag:=hI.inv.agrees hn.2
     simp [gb,hag,wi]
   ·dsimp only
    rcases a3 with ⟨rfl,rfl,_,hS⟩ | ⟨rfl,rfl,hno,rfl,hK⟩
    ·exact ⟨i + 1,_,rfl,by omega,by omega,hS,by rw [tk]; exact hTk.next hmem⟩
    ·rw [hK]
     exact ⟨i + 1,_,rfl,by omega,by omega,hI,by rw [tk]; exact hTk.skip ⟨_,hTk.clash hmem hno⟩⟩
  ·have hd : ((decide ((i : Int) < (List.length l : Int))) && (decide ((i : Int) < 8))) = false:=by
    rw [Bool.eq_false_iff]
    simp only [ne_eq,Bool.and_eq_true,decide_eq_true_eq]; omega
   rw [hd]
   have : l.take i = l.take 8:=by
    by_cases h8 : i = 8
    ·rw [h8]
    ·rw [List.take_of_length_le (by omega),List.take_of_length_le (by omega)]
   rw [this] at hTk
   exact .inr ⟨_,rfl,parts1,Ks1,Rs1,rfl,hI,hTk⟩
theorem collected2 {φ : Fi→List Int × List Rk} (x0 : Int) (hx : 0≤x0∧x0≤255) (hφ : ∀ f,FileOk f→FileSpec (nOf x0) f (φ f)) (x1 : List Fi) (hl : ∀ f∈x1,FileOk f) : ∃ parts Ks Rs,w30_collected x0 x1 = some (.inl (⟨parts⟩,Ks))∧Sta (nOf x0) parts Ks Rs∧Took (nOf x0) φ (x1.take 8) (x1.take 8) Rs:=by
 have hn : 1≤nOf x0∧nOf x0≤8:=by unfold nOf; omega
 obtain ⟨parts',Ks',Rs',h1,h2,h3⟩ := add_loop2 hn hφ x1 hl (sta0 (nOf x0)) (took0 _ _ _)
 refine ⟨parts',Ks',Rs',?_,h2,h3⟩
 unfold w30_collected
 rw [begin_eq x0 hx,Option.bind_some]
 dsimp only
 rw [h1]
 rfl
theorem new_eq (n : Nat) (hn : 1≤n∧n≤8) : collect_New (n : Int) = some (.inl ⟨List.replicate (n + 1) part0⟩):=by
 have w3 : IntKind.wrap .i64 ((n : Int) + 1) = ((n + 1 : Nat) : Int):=by rw [wrap_i64 (by omega) (by omega)]; omega
 unfold collect_New
 have hd : ¬ ((decide ((n : Int) < 1)) || (decide (8 < (n : Int)))) = true:=by
  simp only [Bool.or_eq_true,decide_eq_true_eq]; omega
 rw [if_neg hd,w3,chk_pos (by unfold mkOk; omega),Int.toNat_natCast]
 rfl
end Go.Proofs.YtepkcbalmjnhpaaGreat
