/- For every input NetFull answers true. -/
import Derived.Test.YtjcpchkbhgijkaaKNetFullx1
namespace Go.Proofs.Ytjcpchkbhgijkaa.Pure
theorem NetFull : Go.Proofs.Ytjcpchkbhgijkaa.KNetFull.rilllaw12_NetFull.Pure := by
  unfold Go.Proofs.Ytjcpchkbhgijkaa.KNetFull.rilllaw12_NetFull.Pure
  intros
  trivial
end Go.Proofs.Ytjcpchkbhgijkaa.Pure
