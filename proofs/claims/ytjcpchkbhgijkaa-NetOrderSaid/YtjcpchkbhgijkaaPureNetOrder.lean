/- For every input NetOrder answers true. -/
import Derived.Test.YtjcpchkbhgijkaaKNetOrderx1
namespace Go.Proofs.Ytjcpchkbhgijkaa.Pure
theorem NetOrder : Go.Proofs.Ytjcpchkbhgijkaa.KNetOrder.rilllaw12_NetOrder.Pure := by
  unfold Go.Proofs.Ytjcpchkbhgijkaa.KNetOrder.rilllaw12_NetOrder.Pure
  intros
  trivial
end Go.Proofs.Ytjcpchkbhgijkaa.Pure
